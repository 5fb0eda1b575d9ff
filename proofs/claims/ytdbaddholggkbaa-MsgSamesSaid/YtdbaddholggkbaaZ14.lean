import Derived.Test.YtdbaddholggkbaaZ7
import Derived.Test.YtdbaddholggkbaaZ13
import Derived.Test.YtdbaddholggkbaaZ10
/-
  A message without what its kind has not, by the program..
-/
namespace Go.Proofs.Ytdbaddholggkbaa
set_option linter.unnecessarySimpa false
set_option maxRecDepth 100000
open Go Go.Vm
set_option linter.unusedSimpArgs false
set_option linter.unusedVariables false
attribute [local simp] evalL wantedA isCall opA evalA evalAll evalsA evalOpt ofValue ofCell plain binA_eql_pn binA_neq_pn binA_gtr binA_lss binA_geq binA_leq binA_add binA_sub binA_eql binA_neq binA_orI binA_shl binA_shr binA_mul binA_quo binA_rem binA_agg_eql binA_agg_neq convA_int unA_not fieldAddrA loadA partA pickA_true pickA_false pickA_bb lenA builtinA storeA splice AV.cells AV.isCell sliceA boundA intA callOf indexAddrA newObjA buildA fillA zeroA ofCells buildSliceA indexA fieldA numA_len4 numA_take4 numA_drop4 set_appN get_appN take_appN List.getElem?_cons_zero List.getElem?_cons_succ makeA zeros64

theorem bitNe {e : Nat} : (((e : Nat) : Int) != 0) = decide (e ≠ 0) := by
  rw [Bool.eq_iff_iff]; simp
theorem wk_all {b : Bool} {l m : List Coin} (h : m = bif b then l else []) : Wk (allA b l) (.sl 5 (coinsC m) m.length .shut) := by
  subst h; cases b
  · exact Wk.nil _ _ _
  · exact Wk.refl _
theorem wk_out {b : Bool} {l m : List Out} (h : m = bif b then l else []) : Wk (outA b l) (.sl 2 (outsC m) m.length .shut) := by
  subst h; cases b
  · exact Wk.nil _ _ _
  · exact Wk.refl _
theorem wk_per {b : Bool} {l m : List Per} (h : m = bif b then l else []) : Wk (perA b l) (.sl 2 (persC m) m.length .shut) := by
  subst h; cases b
  · exact Wk.nil _ _ _
  · exact Wk.refl _
theorem wk_eq {a b : AV} (h : a = b) : Wk a b := h ▸ Wk.refl _

set_option maxHeartbeats 1600000 in
attribute [local simp] undefA List.getElem?_cons_zero List.getElem?_cons_succ msgC outsC_noObj persC_noObj in
theorem monly_ok {σ : St} {m : Msg} :
    CallsA Try.prog 96 [.agg (msgC m)] σ (fun av σ' => av = .agg (msgC (onlyM m)) ∧ σ = σ') := by
  refine callsA_gcS ?_ (by simp [AV.under, underL, msgC, persC_under, outsC_under])
  obtain ⟨A, hA⟩ : ∃ A, A = onlyM m := ⟨_, rfl⟩
  rw [← hA]
  obtain ⟨x1, x2, x3, x4, x5, x6, x7, x8, x9, x10, x11, x12, x13, x14⟩ := m
  obtain ⟨xpk, xps, xpe, xpt, xpq⟩ := x11
  have hhas := fun σ => has_ok (σ := σ) (k := x1)
  obtain ⟨h, hh⟩ : ∃ h, h = hasN x1 := ⟨_, rfl⟩
  have hlt : h < 4096 := by rw [hh]; exact hasN_lt _
  rw [← hh] at hhas
  obtain ⟨eE, heE⟩ : ∃ e, e = h &&& 1024 := ⟨_, rfl⟩
  have handE : ∀ xo yo, binA Try.prog .and 3 xo yo (.v (.int .i64 (h : Nat))) (.v (.int .i64 1024)) = some (.v (.int .i64 (eE : Nat))) := fun xo yo => by rw [heE]; exact binA_andN _ xo yo hlt (by decide)
  obtain ⟨bE, hbE⟩ : ∃ b, b = hB x1 1024 := ⟨_, rfl⟩
  have hneE : (((eE : Nat) : Int) != 0) = bE := by rw [hbE, hB, ← hh, ← heE]; simp [bne, Int.natCast_eq_zero]; rw [Bool.eq_iff_iff]; simp
  obtain ⟨eT, heT⟩ : ∃ e, e = h &&& 1 := ⟨_, rfl⟩
  have handT : ∀ xo yo, binA Try.prog .and 3 xo yo (.v (.int .i64 (h : Nat))) (.v (.int .i64 1)) = some (.v (.int .i64 (eT : Nat))) := fun xo yo => by rw [heT]; exact binA_andN _ xo yo hlt (by decide)
  obtain ⟨bT, hbT⟩ : ∃ b, b = hB x1 1 := ⟨_, rfl⟩
  have hneT : (((eT : Nat) : Int) != 0) = bT := by rw [hbT, hB, ← hh, ← heT]; simp [bne, Int.natCast_eq_zero]; rw [Bool.eq_iff_iff]; simp
  obtain ⟨eV, heV⟩ : ∃ e, e = h &&& 2 := ⟨_, rfl⟩
  have handV : ∀ xo yo, binA Try.prog .and 3 xo yo (.v (.int .i64 (h : Nat))) (.v (.int .i64 2)) = some (.v (.int .i64 (eV : Nat))) := fun xo yo => by rw [heV]; exact binA_andN _ xo yo hlt (by decide)
  obtain ⟨bV, hbV⟩ : ∃ b, b = hB x1 2 := ⟨_, rfl⟩
  have hneV : (((eV : Nat) : Int) != 0) = bV := by rw [hbV, hB, ← hh, ← heV]; simp [bne, Int.natCast_eq_zero]; rw [Bool.eq_iff_iff]; simp
  obtain ⟨eO, heO⟩ : ∃ e, e = h &&& 4 := ⟨_, rfl⟩
  have handO : ∀ xo yo, binA Try.prog .and 3 xo yo (.v (.int .i64 (h : Nat))) (.v (.int .i64 4)) = some (.v (.int .i64 (eO : Nat))) := fun xo yo => by rw [heO]; exact binA_andN _ xo yo hlt (by decide)
  obtain ⟨bO, hbO⟩ : ∃ b, b = hB x1 4 := ⟨_, rfl⟩
  have hneO : (((eO : Nat) : Int) != 0) = bO := by rw [hbO, hB, ← hh, ← heO]; simp [bne, Int.natCast_eq_zero]; rw [Bool.eq_iff_iff]; simp
  obtain ⟨eN, heN⟩ : ∃ e, e = h &&& 8 := ⟨_, rfl⟩
  have handN : ∀ xo yo, binA Try.prog .and 3 xo yo (.v (.int .i64 (h : Nat))) (.v (.int .i64 8)) = some (.v (.int .i64 (eN : Nat))) := fun xo yo => by rw [heN]; exact binA_andN _ xo yo hlt (by decide)
  obtain ⟨bN, hbN⟩ : ∃ b, b = hB x1 8 := ⟨_, rfl⟩
  have hneN : (((eN : Nat) : Int) != 0) = bN := by rw [hbN, hB, ← hh, ← heN]; simp [bne, Int.natCast_eq_zero]; rw [Bool.eq_iff_iff]; simp
  obtain ⟨eC, heC⟩ : ∃ e, e = h &&& 16 := ⟨_, rfl⟩
  have handC : ∀ xo yo, binA Try.prog .and 3 xo yo (.v (.int .i64 (h : Nat))) (.v (.int .i64 16)) = some (.v (.int .i64 (eC : Nat))) := fun xo yo => by rw [heC]; exact binA_andN _ xo yo hlt (by decide)
  obtain ⟨bC, hbC⟩ : ∃ b, b = hB x1 16 := ⟨_, rfl⟩
  have hneC : (((eC : Nat) : Int) != 0) = bC := by rw [hbC, hB, ← hh, ← heC]; simp [bne, Int.natCast_eq_zero]; rw [Bool.eq_iff_iff]; simp
  obtain ⟨eU, heU⟩ : ∃ e, e = h &&& 32 := ⟨_, rfl⟩
  have handU : ∀ xo yo, binA Try.prog .and 3 xo yo (.v (.int .i64 (h : Nat))) (.v (.int .i64 32)) = some (.v (.int .i64 (eU : Nat))) := fun xo yo => by rw [heU]; exact binA_andN _ xo yo hlt (by decide)
  obtain ⟨bU, hbU⟩ : ∃ b, b = hB x1 32 := ⟨_, rfl⟩
  have hneU : (((eU : Nat) : Int) != 0) = bU := by rw [hbU, hB, ← hh, ← heU]; simp [bne, Int.natCast_eq_zero]; rw [Bool.eq_iff_iff]; simp
  obtain ⟨eP, heP⟩ : ∃ e, e = h &&& 64 := ⟨_, rfl⟩
  have handP : ∀ xo yo, binA Try.prog .and 3 xo yo (.v (.int .i64 (h : Nat))) (.v (.int .i64 64)) = some (.v (.int .i64 (eP : Nat))) := fun xo yo => by rw [heP]; exact binA_andN _ xo yo hlt (by decide)
  obtain ⟨bP, hbP⟩ : ∃ b, b = hB x1 64 := ⟨_, rfl⟩
  have hneP : (((eP : Nat) : Int) != 0) = bP := by rw [hbP, hB, ← hh, ← heP]; simp [bne, Int.natCast_eq_zero]; rw [Bool.eq_iff_iff]; simp
  obtain ⟨eM, heM⟩ : ∃ e, e = h &&& 128 := ⟨_, rfl⟩
  have handM : ∀ xo yo, binA Try.prog .and 3 xo yo (.v (.int .i64 (h : Nat))) (.v (.int .i64 128)) = some (.v (.int .i64 (eM : Nat))) := fun xo yo => by rw [heM]; exact binA_andN _ xo yo hlt (by decide)
  obtain ⟨bM, hbM⟩ : ∃ b, b = hB x1 128 := ⟨_, rfl⟩
  have hneM : (((eM : Nat) : Int) != 0) = bM := by rw [hbM, hB, ← hh, ← heM]; simp [bne, Int.natCast_eq_zero]; rw [Bool.eq_iff_iff]; simp
  obtain ⟨eQ, heQ⟩ : ∃ e, e = h &&& 256 := ⟨_, rfl⟩
  have handQ : ∀ xo yo, binA Try.prog .and 3 xo yo (.v (.int .i64 (h : Nat))) (.v (.int .i64 256)) = some (.v (.int .i64 (eQ : Nat))) := fun xo yo => by rw [heQ]; exact binA_andN _ xo yo hlt (by decide)
  obtain ⟨bQ, hbQ⟩ : ∃ b, b = hB x1 256 := ⟨_, rfl⟩
  have hneQ : (((eQ : Nat) : Int) != 0) = bQ := by rw [hbQ, hB, ← hh, ← heQ]; simp [bne, Int.natCast_eq_zero]; rw [Bool.eq_iff_iff]; simp
  obtain ⟨eJ, heJ⟩ : ∃ e, e = h &&& 512 := ⟨_, rfl⟩
  have handJ : ∀ xo yo, binA Try.prog .and 3 xo yo (.v (.int .i64 (h : Nat))) (.v (.int .i64 512)) = some (.v (.int .i64 (eJ : Nat))) := fun xo yo => by rw [heJ]; exact binA_andN _ xo yo hlt (by decide)
  obtain ⟨bJ, hbJ⟩ : ∃ b, b = hB x1 512 := ⟨_, rfl⟩
  have hneJ : (((eJ : Nat) : Int) != 0) = bJ := by rw [hbJ, hB, ← hh, ← heJ]; simp [bne, Int.natCast_eq_zero]; rw [Bool.eq_iff_iff]; simp
  have heqE : (((eE : Nat) : Int) == 0) = !bE := by rw [← hneE]; simp [bne]
  have hW : ∀ j, (bJ && x14) = j → WkL [.v (.int .u8 x1.toNat), .v (.int .u8 (bif bE then 0 else x2 : UInt8).toNat), .v (.int .u64 (bif bE then 0 else x3 : Nat)), allA (!bE) x4, .v (.int .u8 (bif bT then x5 else 0 : UInt8).toNat), .v (.int .u8 (bif bV then x6 else 0 : UInt8).toNat), .v (.int .u8 (bif bO then x7 else 0 : UInt8).toNat), .v (.int .u64 (limb (bif bN then x8.v else 0 : Nat) 0)), .v (.int .u64 (limb (bif bN then x8.v else 0 : Nat) 1)), .v (.int .u64 (limb (bif bN then x8.v else 0 : Nat) 2)), .v (.int .u64 (limb (bif bN then x8.v else 0 : Nat) 3)), allA bC x9, outA bU x10, .v (.int .u8 (bif bP then xpk else 0 : UInt8).toNat), .v (.int .u64 (bif bP then xps else 0 : Nat)), .v (.int .u64 (bif bP then xpe else 0 : Nat)), allA bP xpt, perA bP xpq, .v (.int .u64 (bif bM then x12 else 0 : Nat)), .v (.int .u16 (bif bQ then x13 else 0 : Nat)), .v (.bool j)] (msgC A) := by
    intro j hj
    rw [hA]
    simp only [msgC, onlyM, ← hbE, ← hbT, ← hbV, ← hbO, ← hbN, ← hbC, ← hbU, ← hbP, ← hbM, ← hbQ, ← hbJ]
    refine .cons (Wk.refl _) (.cons (Wk.refl _) (.cons (wk_eq ?_) (.cons (wk_all ?_) (.cons (Wk.refl _) (.cons (Wk.refl _) (.cons (Wk.refl _) (.cons (wk_eq ?_) (.cons (wk_eq ?_) (.cons (wk_eq ?_) (.cons (wk_eq ?_) (.cons (wk_all ?_) (.cons (wk_out ?_) (.cons (wk_eq ?_) (.cons (wk_eq ?_) (.cons (wk_eq ?_) (.cons (wk_all ?_) (.cons (wk_per ?_) (.cons (Wk.refl _) (.cons (Wk.refl _) (.cons (wk_eq ?_) .nil))))))))))))))))))))
    all_goals first | rfl | (cases bE <;> rfl) | (cases bN <;> rfl) | (cases bP <;> rfl) | (rw [hj])
  clear hA hh hbE hbT hbV hbO hbN hbC hbU hbP hbM hbQ hbJ heE heT heV heO heN heC heU heP heM heQ heJ
  have hd21 : ∀ f : Nat → AV, List.drop 21 (List.map f (List.range 21)) = [] := fun _ => rfl
  have hl0 : ∀ i, limb 0 i = 0 := by intro i; simp [limb]
  have ic1 : ∀ (b : Bool) (l : List Coin), (allA b l).isCell = true := fun b l => by cases b <;> rfl
  have ic2 : ∀ (b : Bool) (l : List Out), (outA b l).isCell = true := fun b l => by cases b <;> rfl
  have ic3 : ∀ (b : Bool) (l : List Per), (perA b l).isCell = true := fun b l => by cases b <;> rfl
  simp only [AV.isCell] at ic1 ic2 ic3
  have F := And.intro hd21 (And.intro hl0 (And.intro ic1 (And.intro ic2 (And.intro ic3 (And.intro handE (And.intro handT (And.intro handV (And.intro handO (And.intro handN (And.intro handC (And.intro handU (And.intro handP (And.intro handM (And.intro handQ (And.intro handJ (And.intro hneE (And.intro hneT (And.intro hneV (And.intro hneO (And.intro hneN (And.intro hneC (And.intro hneU (And.intro hneP (And.intro hneM (And.intro hneQ (And.intro hneJ (And.intro heqE (True.intro))))))))))))))))))))))))))))
  refine callsA_body Try.func96 rfl rfl rfl ?_; refine sq fun K1 hK1 => ?_; refine rg' (h := fun J2 hJ2 => ?_); refine hJ2 _ _ ?_; refine hK1 _ _ ?_; refine sq fun K3 hK3 => ?_; refine rg' (h := fun J4 hJ4 => ?_); refine ca (c := hhas _) (k := ?_); rintro _ _ ⟨rfl, rfl⟩; repeat (first | simp [F] | simp (disch := omega) only [wC, if_pos, if_neg])
  refine hJ4 _ _ ?_; refine hK3 _ _ ?_; refine sq fun K5 hK5 => ?_; refine rg' (h := fun J6 hJ6 => ?_); refine hJ6 _ _ ?_; refine hK5 _ _ ?_
  refine sqc (X := Unit) [1, 2, 3, 5] (fun z ρ σ1 => (σ1 = { σ with objs := σ.objs ++ [[.v (.int .u8 x1.toNat), .v (.int .u8 x2.toNat), .v (.int .u64 x3), .sl 5 (coinsC x4) x4.length .shut, .v (.int .u8 x5.toNat), .v (.int .u8 x6.toNat), .v (.int .u8 x7.toNat), .v (.int .u64 (limb x8.v 0)), .v (.int .u64 (limb x8.v 1)), .v (.int .u64 (limb x8.v 2)), .v (.int .u64 (limb x8.v 3)), .sl 5 (coinsC x9) x9.length .shut, .sl 2 (outsC x10) x10.length .shut, .v (.int .u8 xpk.toNat), .v (.int .u64 xps), .v (.int .u64 xpe), .sl 5 (coinsC xpt) xpt.length .shut, .sl 2 (persC xpq) xpq.length .shut, .v (.int .u64 x12), .v (.int .u16 x13), .v (.bool x14)], [.v (.int .u8 0), .v (.int .u8 0), .v (.int .u64 0), .sl 0 [] 0 .full, .v (.int .u8 0), .v (.int .u8 0), .v (.int .u8 0), .v (.int .u64 0), .v (.int .u64 0), .v (.int .u64 0), .v (.int .u64 0), .sl 0 [] 0 .full, .sl 0 [] 0 .full, .v (.int .u8 0), .v (.int .u64 0), .v (.int .u64 0), .sl 0 [] 0 .full, .sl 0 [] 0 .full, .v (.int .u64 0), .v (.int .u16 0), .v (.bool false)], [.v (.int .u8 x1.toNat), .v (.int .u8 (bif bE then 0 else x2 : UInt8).toNat), .v (.int .u64 (bif bE then 0 else x3 : Nat)), allA (!bE) x4, .v (.int .u8 0), .v (.int .u8 0), .v (.int .u8 0), .v (.int .u64 0), .v (.int .u64 0), .v (.int .u64 0), .v (.int .u64 0), .sl 0 [] 0 .full, .sl 0 [] 0 .full, .v (.int .u8 0), .v (.int .u64 0), .v (.int .u64 0), .sl 0 [] 0 .full, .sl 0 [] 0 .full, .v (.int .u64 0), .v (.int .u16 0), .v (.bool false)]] })) ?cy7 ?cx7
  case cy7 =>
   rintro z ρCc17 σ1 hFCc17 hσ; obtain rfl := hσ.symm
   have fCc17 := keepL hFCc17
   try simp [KeepL, F] at fCc17
   try replace F := aF fCc17 F
   refine sqc (X := Unit) [1, 2, 3, 5] (fun z ρ σ1 => (σ1 = { σ with objs := σ.objs ++ [[.v (.int .u8 x1.toNat), .v (.int .u8 x2.toNat), .v (.int .u64 x3), .sl 5 (coinsC x4) x4.length .shut, .v (.int .u8 x5.toNat), .v (.int .u8 x6.toNat), .v (.int .u8 x7.toNat), .v (.int .u64 (limb x8.v 0)), .v (.int .u64 (limb x8.v 1)), .v (.int .u64 (limb x8.v 2)), .v (.int .u64 (limb x8.v 3)), .sl 5 (coinsC x9) x9.length .shut, .sl 2 (outsC x10) x10.length .shut, .v (.int .u8 xpk.toNat), .v (.int .u64 xps), .v (.int .u64 xpe), .sl 5 (coinsC xpt) xpt.length .shut, .sl 2 (persC xpq) xpq.length .shut, .v (.int .u64 x12), .v (.int .u16 x13), .v (.bool x14)], [.v (.int .u8 0), .v (.int .u8 0), .v (.int .u64 0), .sl 0 [] 0 .full, .v (.int .u8 0), .v (.int .u8 0), .v (.int .u8 0), .v (.int .u64 0), .v (.int .u64 0), .v (.int .u64 0), .v (.int .u64 0), .sl 0 [] 0 .full, .sl 0 [] 0 .full, .v (.int .u8 0), .v (.int .u64 0), .v (.int .u64 0), .sl 0 [] 0 .full, .sl 0 [] 0 .full, .v (.int .u64 0), .v (.int .u16 0), .v (.bool false)], [.v (.int .u8 x1.toNat), .v (.int .u8 (bif bE then 0 else x2 : UInt8).toNat), .v (.int .u64 (bif bE then 0 else x3 : Nat)), allA (!bE) x4, .v (.int .u8 (bif bT then x5 else 0 : UInt8).toNat), .v (.int .u8 0), .v (.int .u8 0), .v (.int .u64 0), .v (.int .u64 0), .v (.int .u64 0), .v (.int .u64 0), .sl 0 [] 0 .full, .sl 0 [] 0 .full, .v (.int .u8 0), .v (.int .u64 0), .v (.int .u64 0), .sl 0 [] 0 .full, .sl 0 [] 0 .full, .v (.int .u64 0), .v (.int .u16 0), .v (.bool false)]] })) ?cy8 ?cx8
   case cy8 =>
    rintro z ρCc29 σ1 hFCc29 hσ; obtain rfl := hσ.symm
    have fCc29 := keepL hFCc29
    try simp [KeepL, F] at fCc29
    try replace F := aF fCc29 F
    refine sqc (X := Unit) [1, 2, 3, 5] (fun z ρ σ1 => (σ1 = { σ with objs := σ.objs ++ [[.v (.int .u8 x1.toNat), .v (.int .u8 x2.toNat), .v (.int .u64 x3), .sl 5 (coinsC x4) x4.length .shut, .v (.int .u8 x5.toNat), .v (.int .u8 x6.toNat), .v (.int .u8 x7.toNat), .v (.int .u64 (limb x8.v 0)), .v (.int .u64 (limb x8.v 1)), .v (.int .u64 (limb x8.v 2)), .v (.int .u64 (limb x8.v 3)), .sl 5 (coinsC x9) x9.length .shut, .sl 2 (outsC x10) x10.length .shut, .v (.int .u8 xpk.toNat), .v (.int .u64 xps), .v (.int .u64 xpe), .sl 5 (coinsC xpt) xpt.length .shut, .sl 2 (persC xpq) xpq.length .shut, .v (.int .u64 x12), .v (.int .u16 x13), .v (.bool x14)], [.v (.int .u8 0), .v (.int .u8 0), .v (.int .u64 0), .sl 0 [] 0 .full, .v (.int .u8 0), .v (.int .u8 0), .v (.int .u8 0), .v (.int .u64 0), .v (.int .u64 0), .v (.int .u64 0), .v (.int .u64 0), .sl 0 [] 0 .full, .sl 0 [] 0 .full, .v (.int .u8 0), .v (.int .u64 0), .v (.int .u64 0), .sl 0 [] 0 .full, .sl 0 [] 0 .full, .v (.int .u64 0), .v (.int .u16 0), .v (.bool false)], [.v (.int .u8 x1.toNat), .v (.int .u8 (bif bE then 0 else x2 : UInt8).toNat), .v (.int .u64 (bif bE then 0 else x3 : Nat)), allA (!bE) x4, .v (.int .u8 (bif bT then x5 else 0 : UInt8).toNat), .v (.int .u8 (bif bV then x6 else 0 : UInt8).toNat), .v (.int .u8 0), .v (.int .u64 0), .v (.int .u64 0), .v (.int .u64 0), .v (.int .u64 0), .sl 0 [] 0 .full, .sl 0 [] 0 .full, .v (.int .u8 0), .v (.int .u64 0), .v (.int .u64 0), .sl 0 [] 0 .full, .sl 0 [] 0 .full, .v (.int .u64 0), .v (.int .u16 0), .v (.bool false)]] })) ?cy9 ?cx9
    case cy9 =>
     rintro z ρCc35 σ1 hFCc35 hσ; obtain rfl := hσ.symm
     have fCc35 := keepL hFCc35
     try simp [KeepL, F] at fCc35
     try replace F := aF fCc35 F
     refine sqc (X := Unit) [1, 2, 3, 5] (fun z ρ σ1 => (σ1 = { σ with objs := σ.objs ++ [[.v (.int .u8 x1.toNat), .v (.int .u8 x2.toNat), .v (.int .u64 x3), .sl 5 (coinsC x4) x4.length .shut, .v (.int .u8 x5.toNat), .v (.int .u8 x6.toNat), .v (.int .u8 x7.toNat), .v (.int .u64 (limb x8.v 0)), .v (.int .u64 (limb x8.v 1)), .v (.int .u64 (limb x8.v 2)), .v (.int .u64 (limb x8.v 3)), .sl 5 (coinsC x9) x9.length .shut, .sl 2 (outsC x10) x10.length .shut, .v (.int .u8 xpk.toNat), .v (.int .u64 xps), .v (.int .u64 xpe), .sl 5 (coinsC xpt) xpt.length .shut, .sl 2 (persC xpq) xpq.length .shut, .v (.int .u64 x12), .v (.int .u16 x13), .v (.bool x14)], [.v (.int .u8 0), .v (.int .u8 0), .v (.int .u64 0), .sl 0 [] 0 .full, .v (.int .u8 0), .v (.int .u8 0), .v (.int .u8 0), .v (.int .u64 0), .v (.int .u64 0), .v (.int .u64 0), .v (.int .u64 0), .sl 0 [] 0 .full, .sl 0 [] 0 .full, .v (.int .u8 0), .v (.int .u64 0), .v (.int .u64 0), .sl 0 [] 0 .full, .sl 0 [] 0 .full, .v (.int .u64 0), .v (.int .u16 0), .v (.bool false)], [.v (.int .u8 x1.toNat), .v (.int .u8 (bif bE then 0 else x2 : UInt8).toNat), .v (.int .u64 (bif bE then 0 else x3 : Nat)), allA (!bE) x4, .v (.int .u8 (bif bT then x5 else 0 : UInt8).toNat), .v (.int .u8 (bif bV then x6 else 0 : UInt8).toNat), .v (.int .u8 (bif bO then x7 else 0 : UInt8).toNat), .v (.int .u64 0), .v (.int .u64 0), .v (.int .u64 0), .v (.int .u64 0), .sl 0 [] 0 .full, .sl 0 [] 0 .full, .v (.int .u8 0), .v (.int .u64 0), .v (.int .u64 0), .sl 0 [] 0 .full, .sl 0 [] 0 .full, .v (.int .u64 0), .v (.int .u16 0), .v (.bool false)]] })) ?cy10 ?cx10
     case cy10 =>
      rintro z ρCc41 σ1 hFCc41 hσ; obtain rfl := hσ.symm
      have fCc41 := keepL hFCc41
      try simp [KeepL, F] at fCc41
      try replace F := aF fCc41 F
      refine sqc (X := Unit) [1, 2, 3, 5] (fun z ρ σ1 => (σ1 = { σ with objs := σ.objs ++ [[.v (.int .u8 x1.toNat), .v (.int .u8 x2.toNat), .v (.int .u64 x3), .sl 5 (coinsC x4) x4.length .shut, .v (.int .u8 x5.toNat), .v (.int .u8 x6.toNat), .v (.int .u8 x7.toNat), .v (.int .u64 (limb x8.v 0)), .v (.int .u64 (limb x8.v 1)), .v (.int .u64 (limb x8.v 2)), .v (.int .u64 (limb x8.v 3)), .sl 5 (coinsC x9) x9.length .shut, .sl 2 (outsC x10) x10.length .shut, .v (.int .u8 xpk.toNat), .v (.int .u64 xps), .v (.int .u64 xpe), .sl 5 (coinsC xpt) xpt.length .shut, .sl 2 (persC xpq) xpq.length .shut, .v (.int .u64 x12), .v (.int .u16 x13), .v (.bool x14)], [.v (.int .u8 0), .v (.int .u8 0), .v (.int .u64 0), .sl 0 [] 0 .full, .v (.int .u8 0), .v (.int .u8 0), .v (.int .u8 0), .v (.int .u64 0), .v (.int .u64 0), .v (.int .u64 0), .v (.int .u64 0), .sl 0 [] 0 .full, .sl 0 [] 0 .full, .v (.int .u8 0), .v (.int .u64 0), .v (.int .u64 0), .sl 0 [] 0 .full, .sl 0 [] 0 .full, .v (.int .u64 0), .v (.int .u16 0), .v (.bool false)], [.v (.int .u8 x1.toNat), .v (.int .u8 (bif bE then 0 else x2 : UInt8).toNat), .v (.int .u64 (bif bE then 0 else x3 : Nat)), allA (!bE) x4, .v (.int .u8 (bif bT then x5 else 0 : UInt8).toNat), .v (.int .u8 (bif bV then x6 else 0 : UInt8).toNat), .v (.int .u8 (bif bO then x7 else 0 : UInt8).toNat), .v (.int .u64 (limb (bif bN then x8.v else 0 : Nat) 0)), .v (.int .u64 (limb (bif bN then x8.v else 0 : Nat) 1)), .v (.int .u64 (limb (bif bN then x8.v else 0 : Nat) 2)), .v (.int .u64 (limb (bif bN then x8.v else 0 : Nat) 3)), .sl 0 [] 0 .full, .sl 0 [] 0 .full, .v (.int .u8 0), .v (.int .u64 0), .v (.int .u64 0), .sl 0 [] 0 .full, .sl 0 [] 0 .full, .v (.int .u64 0), .v (.int .u16 0), .v (.bool false)]] })) ?cy11 ?cx11
      case cy11 =>
       rintro z ρCc47 σ1 hFCc47 hσ; obtain rfl := hσ.symm
       have fCc47 := keepL hFCc47
       try simp [KeepL, F] at fCc47
       try replace F := aF fCc47 F
       refine sqc (X := Unit) [1, 2, 3, 5] (fun z ρ σ1 => (σ1 = { σ with objs := σ.objs ++ [[.v (.int .u8 x1.toNat), .v (.int .u8 x2.toNat), .v (.int .u64 x3), .sl 5 (coinsC x4) x4.length .shut, .v (.int .u8 x5.toNat), .v (.int .u8 x6.toNat), .v (.int .u8 x7.toNat), .v (.int .u64 (limb x8.v 0)), .v (.int .u64 (limb x8.v 1)), .v (.int .u64 (limb x8.v 2)), .v (.int .u64 (limb x8.v 3)), .sl 5 (coinsC x9) x9.length .shut, .sl 2 (outsC x10) x10.length .shut, .v (.int .u8 xpk.toNat), .v (.int .u64 xps), .v (.int .u64 xpe), .sl 5 (coinsC xpt) xpt.length .shut, .sl 2 (persC xpq) xpq.length .shut, .v (.int .u64 x12), .v (.int .u16 x13), .v (.bool x14)], [.v (.int .u8 0), .v (.int .u8 0), .v (.int .u64 0), .sl 0 [] 0 .full, .v (.int .u8 0), .v (.int .u8 0), .v (.int .u8 0), .v (.int .u64 0), .v (.int .u64 0), .v (.int .u64 0), .v (.int .u64 0), .sl 0 [] 0 .full, .sl 0 [] 0 .full, .v (.int .u8 0), .v (.int .u64 0), .v (.int .u64 0), .sl 0 [] 0 .full, .sl 0 [] 0 .full, .v (.int .u64 0), .v (.int .u16 0), .v (.bool false)], [.v (.int .u8 x1.toNat), .v (.int .u8 (bif bE then 0 else x2 : UInt8).toNat), .v (.int .u64 (bif bE then 0 else x3 : Nat)), allA (!bE) x4, .v (.int .u8 (bif bT then x5 else 0 : UInt8).toNat), .v (.int .u8 (bif bV then x6 else 0 : UInt8).toNat), .v (.int .u8 (bif bO then x7 else 0 : UInt8).toNat), .v (.int .u64 (limb (bif bN then x8.v else 0 : Nat) 0)), .v (.int .u64 (limb (bif bN then x8.v else 0 : Nat) 1)), .v (.int .u64 (limb (bif bN then x8.v else 0 : Nat) 2)), .v (.int .u64 (limb (bif bN then x8.v else 0 : Nat) 3)), allA bC x9, .sl 0 [] 0 .full, .v (.int .u8 0), .v (.int .u64 0), .v (.int .u64 0), .sl 0 [] 0 .full, .sl 0 [] 0 .full, .v (.int .u64 0), .v (.int .u16 0), .v (.bool false)]] })) ?cy12 ?cx12
       case cy12 =>
        rintro z ρCc53 σ1 hFCc53 hσ; obtain rfl := hσ.symm
        have fCc53 := keepL hFCc53
        try simp [KeepL, F] at fCc53
        try replace F := aF fCc53 F
        refine sqc (X := Unit) [1, 2, 3, 5] (fun z ρ σ1 => (σ1 = { σ with objs := σ.objs ++ [[.v (.int .u8 x1.toNat), .v (.int .u8 x2.toNat), .v (.int .u64 x3), .sl 5 (coinsC x4) x4.length .shut, .v (.int .u8 x5.toNat), .v (.int .u8 x6.toNat), .v (.int .u8 x7.toNat), .v (.int .u64 (limb x8.v 0)), .v (.int .u64 (limb x8.v 1)), .v (.int .u64 (limb x8.v 2)), .v (.int .u64 (limb x8.v 3)), .sl 5 (coinsC x9) x9.length .shut, .sl 2 (outsC x10) x10.length .shut, .v (.int .u8 xpk.toNat), .v (.int .u64 xps), .v (.int .u64 xpe), .sl 5 (coinsC xpt) xpt.length .shut, .sl 2 (persC xpq) xpq.length .shut, .v (.int .u64 x12), .v (.int .u16 x13), .v (.bool x14)], [.v (.int .u8 0), .v (.int .u8 0), .v (.int .u64 0), .sl 0 [] 0 .full, .v (.int .u8 0), .v (.int .u8 0), .v (.int .u8 0), .v (.int .u64 0), .v (.int .u64 0), .v (.int .u64 0), .v (.int .u64 0), .sl 0 [] 0 .full, .sl 0 [] 0 .full, .v (.int .u8 0), .v (.int .u64 0), .v (.int .u64 0), .sl 0 [] 0 .full, .sl 0 [] 0 .full, .v (.int .u64 0), .v (.int .u16 0), .v (.bool false)], [.v (.int .u8 x1.toNat), .v (.int .u8 (bif bE then 0 else x2 : UInt8).toNat), .v (.int .u64 (bif bE then 0 else x3 : Nat)), allA (!bE) x4, .v (.int .u8 (bif bT then x5 else 0 : UInt8).toNat), .v (.int .u8 (bif bV then x6 else 0 : UInt8).toNat), .v (.int .u8 (bif bO then x7 else 0 : UInt8).toNat), .v (.int .u64 (limb (bif bN then x8.v else 0 : Nat) 0)), .v (.int .u64 (limb (bif bN then x8.v else 0 : Nat) 1)), .v (.int .u64 (limb (bif bN then x8.v else 0 : Nat) 2)), .v (.int .u64 (limb (bif bN then x8.v else 0 : Nat) 3)), allA bC x9, outA bU x10, .v (.int .u8 0), .v (.int .u64 0), .v (.int .u64 0), .sl 0 [] 0 .full, .sl 0 [] 0 .full, .v (.int .u64 0), .v (.int .u16 0), .v (.bool false)]] })) ?cy13 ?cx13
        case cy13 =>
         rintro z ρCc59 σ1 hFCc59 hσ; obtain rfl := hσ.symm
         have fCc59 := keepL hFCc59
         try simp [KeepL, F] at fCc59
         try replace F := aF fCc59 F
         refine sqc (X := Unit) [1, 2, 3, 5] (fun z ρ σ1 => (σ1 = { σ with objs := σ.objs ++ [[.v (.int .u8 x1.toNat), .v (.int .u8 x2.toNat), .v (.int .u64 x3), .sl 5 (coinsC x4) x4.length .shut, .v (.int .u8 x5.toNat), .v (.int .u8 x6.toNat), .v (.int .u8 x7.toNat), .v (.int .u64 (limb x8.v 0)), .v (.int .u64 (limb x8.v 1)), .v (.int .u64 (limb x8.v 2)), .v (.int .u64 (limb x8.v 3)), .sl 5 (coinsC x9) x9.length .shut, .sl 2 (outsC x10) x10.length .shut, .v (.int .u8 xpk.toNat), .v (.int .u64 xps), .v (.int .u64 xpe), .sl 5 (coinsC xpt) xpt.length .shut, .sl 2 (persC xpq) xpq.length .shut, .v (.int .u64 x12), .v (.int .u16 x13), .v (.bool x14)], [.v (.int .u8 0), .v (.int .u8 0), .v (.int .u64 0), .sl 0 [] 0 .full, .v (.int .u8 0), .v (.int .u8 0), .v (.int .u8 0), .v (.int .u64 0), .v (.int .u64 0), .v (.int .u64 0), .v (.int .u64 0), .sl 0 [] 0 .full, .sl 0 [] 0 .full, .v (.int .u8 0), .v (.int .u64 0), .v (.int .u64 0), .sl 0 [] 0 .full, .sl 0 [] 0 .full, .v (.int .u64 0), .v (.int .u16 0), .v (.bool false)], [.v (.int .u8 x1.toNat), .v (.int .u8 (bif bE then 0 else x2 : UInt8).toNat), .v (.int .u64 (bif bE then 0 else x3 : Nat)), allA (!bE) x4, .v (.int .u8 (bif bT then x5 else 0 : UInt8).toNat), .v (.int .u8 (bif bV then x6 else 0 : UInt8).toNat), .v (.int .u8 (bif bO then x7 else 0 : UInt8).toNat), .v (.int .u64 (limb (bif bN then x8.v else 0 : Nat) 0)), .v (.int .u64 (limb (bif bN then x8.v else 0 : Nat) 1)), .v (.int .u64 (limb (bif bN then x8.v else 0 : Nat) 2)), .v (.int .u64 (limb (bif bN then x8.v else 0 : Nat) 3)), allA bC x9, outA bU x10, .v (.int .u8 (bif bP then xpk else 0 : UInt8).toNat), .v (.int .u64 (bif bP then xps else 0 : Nat)), .v (.int .u64 (bif bP then xpe else 0 : Nat)), allA bP xpt, perA bP xpq, .v (.int .u64 0), .v (.int .u16 0), .v (.bool false)]] })) ?cy14 ?cx14
         case cy14 =>
          rintro z ρCc65 σ1 hFCc65 hσ; obtain rfl := hσ.symm
          have fCc65 := keepL hFCc65
          try simp [KeepL, F] at fCc65
          try replace F := aF fCc65 F
          refine sqc (X := Unit) [1, 2, 3, 5] (fun z ρ σ1 => (σ1 = { σ with objs := σ.objs ++ [[.v (.int .u8 x1.toNat), .v (.int .u8 x2.toNat), .v (.int .u64 x3), .sl 5 (coinsC x4) x4.length .shut, .v (.int .u8 x5.toNat), .v (.int .u8 x6.toNat), .v (.int .u8 x7.toNat), .v (.int .u64 (limb x8.v 0)), .v (.int .u64 (limb x8.v 1)), .v (.int .u64 (limb x8.v 2)), .v (.int .u64 (limb x8.v 3)), .sl 5 (coinsC x9) x9.length .shut, .sl 2 (outsC x10) x10.length .shut, .v (.int .u8 xpk.toNat), .v (.int .u64 xps), .v (.int .u64 xpe), .sl 5 (coinsC xpt) xpt.length .shut, .sl 2 (persC xpq) xpq.length .shut, .v (.int .u64 x12), .v (.int .u16 x13), .v (.bool x14)], [.v (.int .u8 0), .v (.int .u8 0), .v (.int .u64 0), .sl 0 [] 0 .full, .v (.int .u8 0), .v (.int .u8 0), .v (.int .u8 0), .v (.int .u64 0), .v (.int .u64 0), .v (.int .u64 0), .v (.int .u64 0), .sl 0 [] 0 .full, .sl 0 [] 0 .full, .v (.int .u8 0), .v (.int .u64 0), .v (.int .u64 0), .sl 0 [] 0 .full, .sl 0 [] 0 .full, .v (.int .u64 0), .v (.int .u16 0), .v (.bool false)], [.v (.int .u8 x1.toNat), .v (.int .u8 (bif bE then 0 else x2 : UInt8).toNat), .v (.int .u64 (bif bE then 0 else x3 : Nat)), allA (!bE) x4, .v (.int .u8 (bif bT then x5 else 0 : UInt8).toNat), .v (.int .u8 (bif bV then x6 else 0 : UInt8).toNat), .v (.int .u8 (bif bO then x7 else 0 : UInt8).toNat), .v (.int .u64 (limb (bif bN then x8.v else 0 : Nat) 0)), .v (.int .u64 (limb (bif bN then x8.v else 0 : Nat) 1)), .v (.int .u64 (limb (bif bN then x8.v else 0 : Nat) 2)), .v (.int .u64 (limb (bif bN then x8.v else 0 : Nat) 3)), allA bC x9, outA bU x10, .v (.int .u8 (bif bP then xpk else 0 : UInt8).toNat), .v (.int .u64 (bif bP then xps else 0 : Nat)), .v (.int .u64 (bif bP then xpe else 0 : Nat)), allA bP xpt, perA bP xpq, .v (.int .u64 (bif bM then x12 else 0 : Nat)), .v (.int .u16 0), .v (.bool false)]] })) ?cy15 ?cx15
          case cy15 =>
           rintro z ρCc71 σ1 hFCc71 hσ; obtain rfl := hσ.symm
           have fCc71 := keepL hFCc71
           try simp [KeepL, F] at fCc71
           try replace F := aF fCc71 F
           refine sqc (X := Unit) [1, 2, 3, 5] (fun z ρ σ1 => (σ1 = { σ with objs := σ.objs ++ [[.v (.int .u8 x1.toNat), .v (.int .u8 x2.toNat), .v (.int .u64 x3), .sl 5 (coinsC x4) x4.length .shut, .v (.int .u8 x5.toNat), .v (.int .u8 x6.toNat), .v (.int .u8 x7.toNat), .v (.int .u64 (limb x8.v 0)), .v (.int .u64 (limb x8.v 1)), .v (.int .u64 (limb x8.v 2)), .v (.int .u64 (limb x8.v 3)), .sl 5 (coinsC x9) x9.length .shut, .sl 2 (outsC x10) x10.length .shut, .v (.int .u8 xpk.toNat), .v (.int .u64 xps), .v (.int .u64 xpe), .sl 5 (coinsC xpt) xpt.length .shut, .sl 2 (persC xpq) xpq.length .shut, .v (.int .u64 x12), .v (.int .u16 x13), .v (.bool x14)], [.v (.int .u8 0), .v (.int .u8 0), .v (.int .u64 0), .sl 0 [] 0 .full, .v (.int .u8 0), .v (.int .u8 0), .v (.int .u8 0), .v (.int .u64 0), .v (.int .u64 0), .v (.int .u64 0), .v (.int .u64 0), .sl 0 [] 0 .full, .sl 0 [] 0 .full, .v (.int .u8 0), .v (.int .u64 0), .v (.int .u64 0), .sl 0 [] 0 .full, .sl 0 [] 0 .full, .v (.int .u64 0), .v (.int .u16 0), .v (.bool false)], [.v (.int .u8 x1.toNat), .v (.int .u8 (bif bE then 0 else x2 : UInt8).toNat), .v (.int .u64 (bif bE then 0 else x3 : Nat)), allA (!bE) x4, .v (.int .u8 (bif bT then x5 else 0 : UInt8).toNat), .v (.int .u8 (bif bV then x6 else 0 : UInt8).toNat), .v (.int .u8 (bif bO then x7 else 0 : UInt8).toNat), .v (.int .u64 (limb (bif bN then x8.v else 0 : Nat) 0)), .v (.int .u64 (limb (bif bN then x8.v else 0 : Nat) 1)), .v (.int .u64 (limb (bif bN then x8.v else 0 : Nat) 2)), .v (.int .u64 (limb (bif bN then x8.v else 0 : Nat) 3)), allA bC x9, outA bU x10, .v (.int .u8 (bif bP then xpk else 0 : UInt8).toNat), .v (.int .u64 (bif bP then xps else 0 : Nat)), .v (.int .u64 (bif bP then xpe else 0 : Nat)), allA bP xpt, perA bP xpq, .v (.int .u64 (bif bM then x12 else 0 : Nat)), .v (.int .u16 (bif bQ then x13 else 0 : Nat)), .v (.bool false)]] })) ?cy16 ?cx16
           case cy16 =>
            rintro z ρCc77 σ1 hFCc77 hσ; obtain rfl := hσ.symm
            have fCc77 := keepL hFCc77
            try simp [KeepL, F] at fCc77
            try replace F := aF fCc77 F
            refine sq fun K17 hK17 => ?_; refine rg' (h := fun J18 hJ18 => ?_); refine gs 84 (fun g23_3 => ?_) (fun g23_3 => ?_)
            · try exact nope g23_3
              all_goals have g23_3p := g23_3; try simp [F] at g23_3p
              all_goals
               replace F := aF g23_3 F; try replace F := aF g23_3p F
               iterate 2 refine go2 (k := ?_)
               refine hJ18 _ _ ?_; refine hK17 _ _ ?_; refine sq fun K19 hK19 => ?_; refine rg' (h := fun J20 hJ20 => ?_); refine hJ20 _ _ ?_; refine hK19 _ _ ?_; refine run_ret ?_; try simp only [Then, InBlock, NoGoto]
               refine acell (h := ?_)
               show Wk _ _ ∧ _
               refine gcr (hA := ?_)
               exact WkL.agg (hW _ (by simp [F]))
            try exact nope g23_3
            all_goals have g23_3p := g23_3; try simp [F] at g23_3p
            all_goals
             replace F := aF g23_3 F; try replace F := aF g23_3p F
             iterate 2 refine no2 (k := ?_)
             refine hJ18 _ _ ?_; refine hK17 _ _ ?_; refine sq fun K21 hK21 => ?_; refine rg' (h := fun J22 hJ22 => ?_); refine hJ22 _ _ ?_; refine hK21 _ _ ?_; refine run_ret ?_; try simp only [Then, InBlock, NoGoto]
             refine acell (h := ?_)
             show Wk _ _ ∧ _
             refine gcr (hA := ?_)
             exact WkL.agg (hW _ (by simp [F]))
           case cx16 =>
            intro K16 hK16
            refine sq fun K23 hK23 => ?_; refine rg' (h := fun J24 hJ24 => ?_); refine hJ24 _ _ ?_; refine hK23 _ _ ?_; refine cs (t := bQ) (fun c77 => ?_) (fun c77 => ?_)
            · try exact nope c77
              all_goals have c77p := c77; try simp [F] at c77p
              all_goals
               replace F := aF c77 F; try replace F := aF c77p F
               refine rg' (h := fun J25 hJ25 => ?_); refine hJ25 _ _ ?_; refine hK16 (()) _ _ ⟨kp, ?_⟩
               · simp [F]
            try exact nope c77
            all_goals have c77p := c77; try simp [F] at c77p
            all_goals
             replace F := aF c77 F; try replace F := aF c77p F
             refine run_skip ?_; refine hK16 (()) _ _ ⟨kp, ?_⟩
             · simp [F]
          case cx15 =>
           intro K15 hK15
           refine sq fun K26 hK26 => ?_; refine rg' (h := fun J27 hJ27 => ?_); refine hJ27 _ _ ?_; refine hK26 _ _ ?_; refine cs (t := bM) (fun c71 => ?_) (fun c71 => ?_)
           · try exact nope c71
             all_goals have c71p := c71; try simp [F] at c71p
             all_goals
              replace F := aF c71 F; try replace F := aF c71p F
              refine rg' (h := fun J28 hJ28 => ?_); refine hJ28 _ _ ?_; refine hK15 (()) _ _ ⟨kp, ?_⟩
              · simp [F]
           try exact nope c71
           all_goals have c71p := c71; try simp [F] at c71p
           all_goals
            replace F := aF c71 F; try replace F := aF c71p F
            refine run_skip ?_; refine hK15 (()) _ _ ⟨kp, ?_⟩
            · simp [F]
         case cx14 =>
          intro K14 hK14
          refine sq fun K29 hK29 => ?_; refine rg' (h := fun J30 hJ30 => ?_); refine hJ30 _ _ ?_; refine hK29 _ _ ?_; refine cs (t := bP) (fun c65 => ?_) (fun c65 => ?_)
          · try exact nope c65
            all_goals have c65p := c65; try simp [F] at c65p
            all_goals
             replace F := aF c65 F; try replace F := aF c65p F
             refine rg' (h := fun J31 hJ31 => ?_); refine hJ31 _ _ ?_; refine hK14 (()) _ _ ⟨kp, ?_⟩
             · simp [F]
          try exact nope c65
          all_goals have c65p := c65; try simp [F] at c65p
          all_goals
           replace F := aF c65 F; try replace F := aF c65p F
           refine run_skip ?_; refine hK14 (()) _ _ ⟨kp, ?_⟩
           · simp [F]
        case cx13 =>
         intro K13 hK13
         refine sq fun K32 hK32 => ?_; refine rg' (h := fun J33 hJ33 => ?_); refine hJ33 _ _ ?_; refine hK32 _ _ ?_; refine cs (t := bU) (fun c59 => ?_) (fun c59 => ?_)
         · try exact nope c59
           all_goals have c59p := c59; try simp [F] at c59p
           all_goals
            replace F := aF c59 F; try replace F := aF c59p F
            refine rg' (h := fun J34 hJ34 => ?_); refine hJ34 _ _ ?_; refine hK13 (()) _ _ ⟨kp, ?_⟩
            · simp [F]
         try exact nope c59
         all_goals have c59p := c59; try simp [F] at c59p
         all_goals
          replace F := aF c59 F; try replace F := aF c59p F
          refine run_skip ?_; refine hK13 (()) _ _ ⟨kp, ?_⟩
          · simp [F]
       case cx12 =>
        intro K12 hK12
        refine sq fun K35 hK35 => ?_; refine rg' (h := fun J36 hJ36 => ?_); refine hJ36 _ _ ?_; refine hK35 _ _ ?_; refine cs (t := bC) (fun c53 => ?_) (fun c53 => ?_)
        · try exact nope c53
          all_goals have c53p := c53; try simp [F] at c53p
          all_goals
           replace F := aF c53 F; try replace F := aF c53p F
           refine rg' (h := fun J37 hJ37 => ?_); refine hJ37 _ _ ?_; refine hK12 (()) _ _ ⟨kp, ?_⟩
           · simp [F]
        try exact nope c53
        all_goals have c53p := c53; try simp [F] at c53p
        all_goals
         replace F := aF c53 F; try replace F := aF c53p F
         refine run_skip ?_; refine hK12 (()) _ _ ⟨kp, ?_⟩
         · simp [F]
      case cx11 =>
       intro K11 hK11
       refine sq fun K38 hK38 => ?_; refine rg' (h := fun J39 hJ39 => ?_); refine hJ39 _ _ ?_; refine hK38 _ _ ?_; refine cs (t := bN) (fun c47 => ?_) (fun c47 => ?_)
       · try exact nope c47
         all_goals have c47p := c47; try simp [F] at c47p
         all_goals
          replace F := aF c47 F; try replace F := aF c47p F
          refine rg' (h := fun J40 hJ40 => ?_); refine hJ40 _ _ ?_; refine hK11 (()) _ _ ⟨kp, ?_⟩
          · simp [F]
       try exact nope c47
       all_goals have c47p := c47; try simp [F] at c47p
       all_goals
        replace F := aF c47 F; try replace F := aF c47p F
        refine run_skip ?_; refine hK11 (()) _ _ ⟨kp, ?_⟩
        · simp [F]
     case cx10 =>
      intro K10 hK10
      refine sq fun K41 hK41 => ?_; refine rg' (h := fun J42 hJ42 => ?_); refine hJ42 _ _ ?_; refine hK41 _ _ ?_; refine cs (t := bO) (fun c41 => ?_) (fun c41 => ?_)
      · try exact nope c41
        all_goals have c41p := c41; try simp [F] at c41p
        all_goals
         replace F := aF c41 F; try replace F := aF c41p F
         refine rg' (h := fun J43 hJ43 => ?_); refine hJ43 _ _ ?_; refine hK10 (()) _ _ ⟨kp, ?_⟩
         · simp [F]
      try exact nope c41
      all_goals have c41p := c41; try simp [F] at c41p
      all_goals
       replace F := aF c41 F; try replace F := aF c41p F
       refine run_skip ?_; refine hK10 (()) _ _ ⟨kp, ?_⟩
       · simp [F]
    case cx9 =>
     intro K9 hK9
     refine sq fun K44 hK44 => ?_; refine rg' (h := fun J45 hJ45 => ?_); refine hJ45 _ _ ?_; refine hK44 _ _ ?_; refine cs (t := bV) (fun c35 => ?_) (fun c35 => ?_)
     · try exact nope c35
       all_goals have c35p := c35; try simp [F] at c35p
       all_goals
        replace F := aF c35 F; try replace F := aF c35p F
        refine rg' (h := fun J46 hJ46 => ?_); refine hJ46 _ _ ?_; refine hK9 (()) _ _ ⟨kp, ?_⟩
        · simp [F]
     try exact nope c35
     all_goals have c35p := c35; try simp [F] at c35p
     all_goals
      replace F := aF c35 F; try replace F := aF c35p F
      refine run_skip ?_; refine hK9 (()) _ _ ⟨kp, ?_⟩
      · simp [F]
   case cx8 =>
    intro K8 hK8
    refine sq fun K47 hK47 => ?_; refine rg' (h := fun J48 hJ48 => ?_); refine hJ48 _ _ ?_; refine hK47 _ _ ?_; refine cs (t := bT) (fun c29 => ?_) (fun c29 => ?_)
    · try exact nope c29
      all_goals have c29p := c29; try simp [F] at c29p
      all_goals
       replace F := aF c29 F; try replace F := aF c29p F
       refine rg' (h := fun J49 hJ49 => ?_); refine hJ49 _ _ ?_; refine hK8 (()) _ _ ⟨kp, ?_⟩
       · simp [F]
    try exact nope c29
    all_goals have c29p := c29; try simp [F] at c29p
    all_goals
     replace F := aF c29 F; try replace F := aF c29p F
     refine run_skip ?_; refine hK8 (()) _ _ ⟨kp, ?_⟩
     · simp [F]
  case cx7 =>
   intro K7 hK7
   refine sq fun K50 hK50 => ?_; refine rg' (h := fun J51 hJ51 => ?_); refine hJ51 _ _ ?_; refine hK50 _ _ ?_; refine cs (t := !bE) (fun c17 => ?_) (fun c17 => ?_)
   · try exact nope c17
     all_goals have c17p := c17; try simp [F] at c17p
     all_goals
      replace F := aF c17 F; try replace F := aF c17p F
      refine run_draw (by kernel_rfl) fun J52 hJ52 => ?_
      refine rp2 0 (k := ?_); refine rp2 1 (k := ?_); refine rp2 2 (k := ?_); refine rp2 3 (k := ?_); refine rp2 4 (k := ?_); refine rp2 5 (k := ?_); refine rp2 6 (k := ?_); refine dop 7 rfl ?_; repeat (first | simp [F] | simp (disch := omega) only [wC, if_pos, if_neg])
      refine ⟨by first | exact fun _ _ h => h | (refine later_list [5, 4, 3, 2] (by kernel_rfl) (List.forall_mem_cons.2 ⟨fun _ => fact2 rfl rfl ?_, List.forall_mem_cons.2 ⟨fun _ => fact2 rfl rfl ?_, List.forall_mem_cons.2 ⟨fun _ => fact2 rfl rfl ?_, List.forall_mem_cons.2 ⟨fun _ => fact2 rfl rfl ?_, fun _ h => absurd h List.not_mem_nil⟩⟩⟩⟩) <;> constructor <;> first | rfl | (simp [F]; done)), ?_⟩
      refine rp2 8 (k := ?_); refine dop 9 rfl ?_; repeat (first | simp [F] | simp (disch := omega) only [wC, if_pos, if_neg])
      refine ⟨by first | exact fun _ _ h => h | (refine later_list [5, 4] (by kernel_rfl) (List.forall_mem_cons.2 ⟨fun _ => fact2 rfl rfl ?_, List.forall_mem_cons.2 ⟨fun _ => fact2 rfl rfl ?_, fun _ h => absurd h List.not_mem_nil⟩⟩) <;> constructor <;> first | rfl | (simp [F]; done)), ?_⟩
      refine rp2 10 (k := ?_); refine dop 11 rfl ?_; repeat (first | simp [F] | simp (disch := omega) only [wC, if_pos, if_neg])
      refine ⟨ln, ?_⟩; refine dd ?_; refine hJ52 _ _ ?_; refine hK7 (()) _ _ ⟨kp, ?_⟩
      · simp [F]
   try exact nope c17
   all_goals have c17p := c17; try simp [F] at c17p
   all_goals
    replace F := aF c17 F; try replace F := aF c17p F
    refine run_skip ?_; refine hK7 (()) _ _ ⟨kp, ?_⟩
    · simp [F]

set_option maxHeartbeats 1600000 in
attribute [local simp] undefA List.getElem?_cons_zero List.getElem?_cons_succ msgC outsC_noObj persC_noObj in
theorem rmonly_ok {σ : St} {m : Msg} :
    CallsA Try.prog 101 [.agg (msgC m)] σ (fun av σ' => av = .agg (msgC (onlyM m)) ∧ σ = σ') := by
  refine callsA_gcS ?_ (by simp [AV.under, underL, msgC, persC_under, outsC_under])
  obtain ⟨x1, x2, x3, x4, x5, x6, x7, x8, x9, x10, x11, x12, x13, x14⟩ := m
  obtain ⟨xpk, xps, xpe, xpt, xpq⟩ := x11
  have hkn : ∀ n : UInt8, x1 = n ↔ (x1.toNat : Int) = (n.toNat : Int) := fun n => ⟨fun e => by rw [e], fun e => UInt8.toNat_inj.1 (Int.ofNat_inj.1 e)⟩
  have hd21 : ∀ f : Nat → AV, List.drop 21 (List.map f (List.range 21)) = [] := fun _ => rfl
  have hl0 : ∀ i, limb 0 i = 0 := by intro i; simp [limb]
  obtain ⟨B61, hB61⟩ : ∃ b, b = (decide (x1 = 3) || decide (x1 = 4)) := ⟨_, rfl⟩
  obtain ⟨B81, hB81⟩ : ∃ b, b = (decide (x1 = 6) || decide (x1 = 7) || decide (x1 = 11)) := ⟨_, rfl⟩
  obtain ⟨B88, hB88⟩ : ∃ b, b = (decide (x1 = 8) || decide (x1 = 10)) := ⟨_, rfl⟩
  have F := And.intro hd21 (True.intro)
  refine callsA_body Try.func101 rfl rfl rfl ?_; refine sq fun K1 hK1 => ?_; refine rg' (h := fun J2 hJ2 => ?_); refine hJ2 _ _ ?_; refine hK1 _ _ ?_; refine sq fun K3 hK3 => ?_; refine sq fun K4 hK4 => ?_; refine rg' (h := fun J5 hJ5 => ?_); refine hJ5 _ _ ?_; refine hK4 _ _ ?_; refine run_block_k ?_; refine sq fun K6 hK6 => ?_; refine rg' (h := fun J7 hJ7 => ?_); refine hJ7 _ _ ?_; refine hK6 _ _ ?_; refine cs (fun c6 => ?_) (fun c6 => ?_)
  · try exact nope c6
    all_goals have c6p := c6; try simp [F] at c6p
    all_goals
     replace F := aF c6 F; try replace F := aF c6p F
     refine sq fun K8 hK8 => ?_; refine rg' (h := fun J9 hJ9 => ?_); refine hJ9 _ _ ?_; refine hK8 _ _ ?_; refine run_ret ?_; try simp only [Then, InBlock, NoGoto]
     refine acell (h := ?_)
     have hk : x1 = 32 := (hkn 32).2 (by simpa using c6)
     have hv : hasN x1 = 1152 := by rw [hk]; decide
     try subst hk
     show Wk _ _ ∧ _
     refine gcr (hA := WkL.agg ?_)
     simp [msgC, onlyM, hB, hv, hl0]
     repeat (first | exact WkL.nil | exact WkL.cons (Wk.refl _) WkL.nil | refine WkL.cons (Wk.refl _) ?_ | refine WkL.cons (Wk.nil _ _ _) ?_)
  try exact nope c6
  all_goals have c6p := c6; try simp [F] at c6p
  all_goals
   replace F := aF c6 F; try replace F := aF c6p F
   refine sq fun K10 hK10 => ?_; refine rg' (h := fun J11 hJ11 => ?_); refine hJ11 _ _ ?_; refine hK10 _ _ ?_; refine cs (fun c11 => ?_) (fun c11 => ?_)
   · try exact nope c11
     all_goals have c11p := c11; try simp [F] at c11p
     all_goals
      replace F := aF c11 F; try replace F := aF c11p F
      refine sq fun K12 hK12 => ?_; refine rg' (h := fun J13 hJ13 => ?_); refine hJ13 _ _ ?_; refine hK12 _ _ ?_; refine run_ret ?_; try simp only [Then, InBlock, NoGoto]
      refine acell (h := ?_)
      have hk : x1 = 33 := (hkn 33).2 (by simpa using c11)
      have hv : hasN x1 = 1922 := by rw [hk]; decide
      try subst hk
      show Wk _ _ ∧ _
      refine gcr (hA := WkL.agg ?_)
      simp [msgC, onlyM, hB, hv, hl0]
      repeat (first | exact WkL.nil | exact WkL.cons (Wk.refl _) WkL.nil | refine WkL.cons (Wk.refl _) ?_ | refine WkL.cons (Wk.nil _ _ _) ?_)
   try exact nope c11
   all_goals have c11p := c11; try simp [F] at c11p
   all_goals
    replace F := aF c11 F; try replace F := aF c11p F
    refine sq fun K14 hK14 => ?_; refine rg' (h := fun J15 hJ15 => ?_); refine hJ15 _ _ ?_; refine hK14 _ _ ?_; refine cs (fun c22 => ?_) (fun c22 => ?_)
    · try exact nope c22
      all_goals have c22p := c22; try simp [F] at c22p
      all_goals
       replace F := aF c22 F; try replace F := aF c22p F
       refine sq fun K16 hK16 => ?_; refine rg' (h := fun J17 hJ17 => ?_); refine hJ17 _ _ ?_; refine hK16 _ _ ?_; refine run_ret ?_; try simp only [Then, InBlock, NoGoto]
       refine acell (h := ?_)
       have hk : x1 = 34 := (hkn 34).2 (by simpa using c22)
       have hv : hasN x1 = 1042 := by rw [hk]; decide
       try subst hk
       show Wk _ _ ∧ _
       refine gcr (hA := WkL.agg ?_)
       simp [msgC, onlyM, hB, hv, hl0]
       repeat (first | exact WkL.nil | exact WkL.cons (Wk.refl _) WkL.nil | refine WkL.cons (Wk.refl _) ?_ | refine WkL.cons (Wk.nil _ _ _) ?_)
    try exact nope c22
    all_goals have c22p := c22; try simp [F] at c22p
    all_goals
     replace F := aF c22 F; try replace F := aF c22p F
     refine sq fun K18 hK18 => ?_; refine rg' (h := fun J19 hJ19 => ?_); refine hJ19 _ _ ?_; refine hK18 _ _ ?_; refine cs (fun c29 => ?_) (fun c29 => ?_)
     · try exact nope c29
       all_goals have c29p := c29; try simp [F] at c29p
       all_goals
        replace F := aF c29 F; try replace F := aF c29p F
        refine sq fun K20 hK20 => ?_; refine rg' (h := fun J21 hJ21 => ?_); refine hJ21 _ _ ?_; refine hK20 _ _ ?_; refine run_ret ?_; try simp only [Then, InBlock, NoGoto]
        refine acell (h := ?_)
        have hk : x1 = 35 := (hkn 35).2 (by simpa using c29)
        have hv : hasN x1 = 1026 := by rw [hk]; decide
        try subst hk
        show Wk _ _ ∧ _
        refine gcr (hA := WkL.agg ?_)
        simp [msgC, onlyM, hB, hv, hl0]
        repeat (first | exact WkL.nil | exact WkL.cons (Wk.refl _) WkL.nil | refine WkL.cons (Wk.refl _) ?_ | refine WkL.cons (Wk.nil _ _ _) ?_)
     try exact nope c29
     all_goals have c29p := c29; try simp [F] at c29p
     all_goals
      replace F := aF c29 F; try replace F := aF c29p F
      refine sq fun K22 hK22 => ?_; refine rg' (h := fun J23 hJ23 => ?_); refine hJ23 _ _ ?_; refine hK22 _ _ ?_; refine cs (fun c34 => ?_) (fun c34 => ?_)
      · try exact nope c34
        all_goals have c34p := c34; try simp [F] at c34p
        all_goals
         replace F := aF c34 F; try replace F := aF c34p F
         refine sq fun K24 hK24 => ?_; refine rg' (h := fun J25 hJ25 => ?_); refine hJ25 _ _ ?_; refine hK24 _ _ ?_; refine run_ret ?_; try simp only [Then, InBlock, NoGoto]
         refine acell (h := ?_)
         have hk : x1 = 36 := (hkn 36).2 (by simpa using c34)
         have hv : hasN x1 = 1024 := by rw [hk]; decide
         try subst hk
         show Wk _ _ ∧ _
         refine gcr (hA := WkL.agg ?_)
         simp [msgC, onlyM, hB, hv, hl0]
         repeat (first | exact WkL.nil | exact WkL.cons (Wk.refl _) WkL.nil | refine WkL.cons (Wk.refl _) ?_ | refine WkL.cons (Wk.nil _ _ _) ?_)
      try exact nope c34
      all_goals have c34p := c34; try simp [F] at c34p
      all_goals
       replace F := aF c34 F; try replace F := aF c34p F
       refine run_skip ?_; refine hK3 _ _ ?_; refine sq fun K26 hK26 => ?_; refine rg' (h := fun J27 hJ27 => ?_); refine hJ27 _ _ ?_; refine hK26 _ _ ?_; refine sq fun K28 hK28 => ?_; refine sq fun K29 hK29 => ?_; refine rg' (h := fun J30 hJ30 => ?_); refine hJ30 _ _ ?_; refine hK29 _ _ ?_; refine run_block_k ?_; refine sq fun K31 hK31 => ?_; refine rg' (h := fun J32 hJ32 => ?_); refine hJ32 _ _ ?_; refine hK31 _ _ ?_; refine cs (fun c48 => ?_) (fun c48 => ?_)
       · try exact nope c48
         all_goals have c48p := c48; try simp [F] at c48p
         all_goals
          replace F := aF c48 F; try replace F := aF c48p F
          refine run_draw (by kernel_rfl) fun J33 hJ33 => ?_
          refine rp2 0 (k := ?_); refine rp2 1 (k := ?_); refine rp2 2 (k := ?_); refine rp2 3 (k := ?_); refine rp2 4 (k := ?_); refine dop 5 rfl ?_; repeat (first | simp [F] | simp (disch := omega) only [wC, if_pos, if_neg])
          refine ⟨by first | exact fun _ _ h => h | (refine later_list [3, 2] (by kernel_rfl) (List.forall_mem_cons.2 ⟨fun _ => fact2 rfl rfl ?_, List.forall_mem_cons.2 ⟨fun _ => fact2 rfl rfl ?_, fun _ h => absurd h List.not_mem_nil⟩⟩) <;> constructor <;> first | rfl | (simp [F]; done)), ?_⟩
          refine rp2 6 (k := ?_); refine dop 7 rfl ?_; repeat (first | simp [F] | simp (disch := omega) only [wC, if_pos, if_neg])
          refine ⟨ln, ?_⟩; refine dd ?_; refine hJ33 _ _ ?_; refine hK28 _ _ ?_; refine sq fun K34 hK34 => ?_; refine rg' (h := fun J35 hJ35 => ?_); refine hJ35 _ _ ?_; refine hK34 _ _ ?_; refine run_ret ?_; try simp only [Then, InBlock, NoGoto]
          refine acell (h := ?_)
          have hk : x1 = 1 := (hkn 1).2 (by simpa using c48)
          have hv : hasN x1 = 17 := by rw [hk]; decide
          try subst hk
          show Wk _ _ ∧ _
          refine gcr (hA := WkL.agg ?_)
          simp [msgC, onlyM, hB, hv, hl0]
          repeat (first | exact WkL.nil | exact WkL.cons (Wk.refl _) WkL.nil | refine WkL.cons (Wk.refl _) ?_ | refine WkL.cons (Wk.nil _ _ _) ?_)
       try exact nope c48
       all_goals have c48p := c48; try simp [F] at c48p
       all_goals
        replace F := aF c48 F; try replace F := aF c48p F
        refine sq fun K36 hK36 => ?_; refine rg' (h := fun J37 hJ37 => ?_); refine hJ37 _ _ ?_; refine hK36 _ _ ?_; refine cs (fun c56 => ?_) (fun c56 => ?_)
        · try exact nope c56
          all_goals have c56p := c56; try simp [F] at c56p
          all_goals
           replace F := aF c56 F; try replace F := aF c56p F
           refine rg' (h := fun J38 hJ38 => ?_); refine hJ38 _ _ ?_; refine hK28 _ _ ?_; refine sq fun K39 hK39 => ?_; refine rg' (h := fun J40 hJ40 => ?_); refine hJ40 _ _ ?_; refine hK39 _ _ ?_; refine run_ret ?_; try simp only [Then, InBlock, NoGoto]
           refine acell (h := ?_)
           have hk : x1 = 2 := (hkn 2).2 (by simpa using c56)
           have hv : hasN x1 = 32 := by rw [hk]; decide
           try subst hk
           show Wk _ _ ∧ _
           refine gcr (hA := WkL.agg ?_)
           simp [msgC, onlyM, hB, hv, hl0]
           repeat (first | exact WkL.nil | exact WkL.cons (Wk.refl _) WkL.nil | refine WkL.cons (Wk.refl _) ?_ | refine WkL.cons (Wk.nil _ _ _) ?_)
        try exact nope c56
        all_goals have c56p := c56; try simp [F] at c56p
        all_goals
         replace F := aF c56 F; try replace F := aF c56p F
         refine sqc (X := Unit) [1, 2, 3, 47] (fun z ρ σ1 => (ρ 61 = .v (.bool B61)) ∧ (σ1 = { σ with objs := σ.objs ++ [[.v (.int .u8 x1.toNat), .v (.int .u8 x2.toNat), .v (.int .u64 x3), .sl 5 (coinsC x4) x4.length .shut, .v (.int .u8 x5.toNat), .v (.int .u8 x6.toNat), .v (.int .u8 x7.toNat), .v (.int .u64 (limb x8.v 0)), .v (.int .u64 (limb x8.v 1)), .v (.int .u64 (limb x8.v 2)), .v (.int .u64 (limb x8.v 3)), .sl 5 (coinsC x9) x9.length .shut, .sl 2 (outsC x10) x10.length .shut, .v (.int .u8 xpk.toNat), .v (.int .u64 xps), .v (.int .u64 xpe), .sl 5 (coinsC xpt) xpt.length .shut, .sl 2 (persC xpq) xpq.length .shut, .v (.int .u64 x12), .v (.int .u16 x13), .v (.bool x14)], [.v (.int .u8 0), .v (.int .u8 0), .v (.int .u64 0), .sl 0 [] 0 .full, .v (.int .u8 0), .v (.int .u8 0), .v (.int .u8 0), .v (.int .u64 0), .v (.int .u64 0), .v (.int .u64 0), .v (.int .u64 0), .sl 0 [] 0 .full, .sl 0 [] 0 .full, .v (.int .u8 0), .v (.int .u64 0), .v (.int .u64 0), .sl 0 [] 0 .full, .sl 0 [] 0 .full, .v (.int .u64 0), .v (.int .u16 0), .v (.bool false)], [.v (.int .u8 x1.toNat), .v (.int .u8 x2.toNat), .v (.int .u64 x3), .sl 5 (coinsC x4) x4.length .shut, .v (.int .u8 0), .v (.int .u8 0), .v (.int .u8 0), .v (.int .u64 0), .v (.int .u64 0), .v (.int .u64 0), .v (.int .u64 0), .sl 0 [] 0 .full, .sl 0 [] 0 .full, .v (.int .u8 0), .v (.int .u64 0), .v (.int .u64 0), .sl 0 [] 0 .full, .sl 0 [] 0 .full, .v (.int .u64 0), .v (.int .u16 0), .v (.bool false)]] })) ?cy41 ?cx41
         case cy41 =>
          rintro z ρCc61 σ1 hFCc61 ⟨h61, hσ⟩; obtain rfl := hσ.symm
          have fCc61 := keepL hFCc61
          try simp [KeepL, F] at fCc61
          replace F := aF h61 F; try replace F := aF fCc61 F
          refine cs (t := B61) (fun c61 => ?_) (fun c61 => ?_)
          · try exact nope c61
            all_goals have c61p := c61; try simp [F] at c61p
            all_goals
             replace F := aF c61 F; try replace F := aF c61p F
             refine run_draw (by kernel_rfl) fun J42 hJ42 => ?_
             refine rp2 0 (k := ?_); refine rp2 1 (k := ?_); refine rp2 2 (k := ?_); refine rp2 3 (k := ?_); refine rp2 4 (k := ?_); refine dop 5 rfl ?_; repeat (first | simp [F] | simp (disch := omega) only [wC, if_pos, if_neg])
             refine ⟨by first | exact fun _ _ h => h | (refine later_list [3, 2] (by kernel_rfl) (List.forall_mem_cons.2 ⟨fun _ => fact2 rfl rfl ?_, List.forall_mem_cons.2 ⟨fun _ => fact2 rfl rfl ?_, fun _ h => absurd h List.not_mem_nil⟩⟩) <;> constructor <;> first | rfl | (simp [F]; done)), ?_⟩
             refine rp2 6 (k := ?_); refine dop 7 rfl ?_; repeat (first | simp [F] | simp (disch := omega) only [wC, if_pos, if_neg])
             refine ⟨ln, ?_⟩; refine dd ?_; refine hJ42 _ _ ?_; refine hK28 _ _ ?_; refine sq fun K43 hK43 => ?_; refine rg' (h := fun J44 hJ44 => ?_); refine hJ44 _ _ ?_; refine hK43 _ _ ?_; refine run_ret ?_; try simp only [Then, InBlock, NoGoto]
             refine acell (h := ?_)
             have hk : x1 = 3 ∨ x1 = 4 := by rw [hB61] at c61; simpa using c61
             have hv : hasN x1 = 10 := by rcases hk with e | e <;> (rw [e]; decide)
             show Wk _ _ ∧ _
             refine gcr (hA := WkL.agg ?_)
             simp [msgC, onlyM, hB, hv, hl0]
             repeat (first | exact WkL.nil | exact WkL.cons (Wk.refl _) WkL.nil | refine WkL.cons (Wk.refl _) ?_ | refine WkL.cons (Wk.nil _ _ _) ?_)
          try exact nope c61
          all_goals have c61p := c61; try simp [F] at c61p
          all_goals
           replace F := aF c61 F; try replace F := aF c61p F
           refine sq fun K45 hK45 => ?_; refine rg' (h := fun J46 hJ46 => ?_); refine hJ46 _ _ ?_; refine hK45 _ _ ?_; refine cs (fun c70 => ?_) (fun c70 => ?_)
           · try exact nope c70
             all_goals have c70p := c70; try simp [F] at c70p
             all_goals
              replace F := aF c70 F; try replace F := aF c70p F
              refine run_draw (by kernel_rfl) fun J47 hJ47 => ?_
              refine rp2 0 (k := ?_); refine rp2 1 (k := ?_); refine rp2 2 (k := ?_); refine rp2 3 (k := ?_); refine rp2 4 (k := ?_); refine rp2 5 (k := ?_); refine rp2 6 (k := ?_); refine dop 7 rfl ?_; repeat (first | simp [F] | simp (disch := omega) only [wC, if_pos, if_neg])
              refine ⟨by first | exact fun _ _ h => h | (refine later_list [5, 4, 3, 2] (by kernel_rfl) (List.forall_mem_cons.2 ⟨fun _ => fact2 rfl rfl ?_, List.forall_mem_cons.2 ⟨fun _ => fact2 rfl rfl ?_, List.forall_mem_cons.2 ⟨fun _ => fact2 rfl rfl ?_, List.forall_mem_cons.2 ⟨fun _ => fact2 rfl rfl ?_, fun _ h => absurd h List.not_mem_nil⟩⟩⟩⟩) <;> constructor <;> first | rfl | (simp [F]; done)), ?_⟩
              refine rp2 8 (k := ?_); refine dop 9 rfl ?_; repeat (first | simp [F] | simp (disch := omega) only [wC, if_pos, if_neg])
              refine ⟨by first | exact fun _ _ h => h | (refine later_list [5, 4] (by kernel_rfl) (List.forall_mem_cons.2 ⟨fun _ => fact2 rfl rfl ?_, List.forall_mem_cons.2 ⟨fun _ => fact2 rfl rfl ?_, fun _ h => absurd h List.not_mem_nil⟩⟩) <;> constructor <;> first | rfl | (simp [F]; done)), ?_⟩
              refine rp2 10 (k := ?_); refine dop 11 rfl ?_; repeat (first | simp [F] | simp (disch := omega) only [wC, if_pos, if_neg])
              refine ⟨ln, ?_⟩; refine dd ?_; refine hJ47 _ _ ?_; refine hK28 _ _ ?_; refine sq fun K48 hK48 => ?_; refine rg' (h := fun J49 hJ49 => ?_); refine hJ49 _ _ ?_; refine hK48 _ _ ?_; refine run_ret ?_; try simp only [Then, InBlock, NoGoto]
              refine acell (h := ?_)
              have hk : x1 = 5 := (hkn 5).2 (by simpa using c70)
              have hv : hasN x1 = 14 := by rw [hk]; decide
              try subst hk
              show Wk _ _ ∧ _
              refine gcr (hA := WkL.agg ?_)
              simp [msgC, onlyM, hB, hv, hl0]
              repeat (first | exact WkL.nil | exact WkL.cons (Wk.refl _) WkL.nil | refine WkL.cons (Wk.refl _) ?_ | refine WkL.cons (Wk.nil _ _ _) ?_)
           try exact nope c70
           all_goals have c70p := c70; try simp [F] at c70p
           all_goals
            replace F := aF c70 F; try replace F := aF c70p F
            refine sqc (X := Unit) [1, 2, 3, 47] (fun z ρ σ1 => (ρ 81 = .v (.bool B81)) ∧ (σ1 = { σ with objs := σ.objs ++ [[.v (.int .u8 x1.toNat), .v (.int .u8 x2.toNat), .v (.int .u64 x3), .sl 5 (coinsC x4) x4.length .shut, .v (.int .u8 x5.toNat), .v (.int .u8 x6.toNat), .v (.int .u8 x7.toNat), .v (.int .u64 (limb x8.v 0)), .v (.int .u64 (limb x8.v 1)), .v (.int .u64 (limb x8.v 2)), .v (.int .u64 (limb x8.v 3)), .sl 5 (coinsC x9) x9.length .shut, .sl 2 (outsC x10) x10.length .shut, .v (.int .u8 xpk.toNat), .v (.int .u64 xps), .v (.int .u64 xpe), .sl 5 (coinsC xpt) xpt.length .shut, .sl 2 (persC xpq) xpq.length .shut, .v (.int .u64 x12), .v (.int .u16 x13), .v (.bool x14)], [.v (.int .u8 0), .v (.int .u8 0), .v (.int .u64 0), .sl 0 [] 0 .full, .v (.int .u8 0), .v (.int .u8 0), .v (.int .u8 0), .v (.int .u64 0), .v (.int .u64 0), .v (.int .u64 0), .v (.int .u64 0), .sl 0 [] 0 .full, .sl 0 [] 0 .full, .v (.int .u8 0), .v (.int .u64 0), .v (.int .u64 0), .sl 0 [] 0 .full, .sl 0 [] 0 .full, .v (.int .u64 0), .v (.int .u16 0), .v (.bool false)], [.v (.int .u8 x1.toNat), .v (.int .u8 x2.toNat), .v (.int .u64 x3), .sl 5 (coinsC x4) x4.length .shut, .v (.int .u8 0), .v (.int .u8 0), .v (.int .u8 0), .v (.int .u64 0), .v (.int .u64 0), .v (.int .u64 0), .v (.int .u64 0), .sl 0 [] 0 .full, .sl 0 [] 0 .full, .v (.int .u8 0), .v (.int .u64 0), .v (.int .u64 0), .sl 0 [] 0 .full, .sl 0 [] 0 .full, .v (.int .u64 0), .v (.int .u16 0), .v (.bool false)]] })) ?cy50 ?cx50
            case cy50 =>
             rintro z ρCc81 σ1 hFCc81 ⟨h81, hσ⟩; obtain rfl := hσ.symm
             have fCc81 := keepL hFCc81
             try simp [KeepL, F] at fCc81
             replace F := aF h81 F; try replace F := aF fCc81 F
             refine cs (t := B81) (fun c81 => ?_) (fun c81 => ?_)
             · try exact nope c81
               all_goals have c81p := c81; try simp [F] at c81p
               all_goals
                replace F := aF c81 F; try replace F := aF c81p F
                refine rg' (h := fun J51 hJ51 => ?_); refine hJ51 _ _ ?_; refine hK28 _ _ ?_; refine sq fun K52 hK52 => ?_; refine rg' (h := fun J53 hJ53 => ?_); refine hJ53 _ _ ?_; refine hK52 _ _ ?_; refine run_ret ?_; try simp only [Then, InBlock, NoGoto]
                refine acell (h := ?_)
                have hk : (x1 = 6 ∨ x1 = 7) ∨ x1 = 11 := by rw [hB81] at c81; simpa using c81
                have hv : hasN x1 = 2 := by rcases hk with (e | e) | e <;> (rw [e]; decide)
                show Wk _ _ ∧ _
                refine gcr (hA := WkL.agg ?_)
                simp [msgC, onlyM, hB, hv, hl0]
                repeat (first | exact WkL.nil | exact WkL.cons (Wk.refl _) WkL.nil | refine WkL.cons (Wk.refl _) ?_ | refine WkL.cons (Wk.nil _ _ _) ?_)
             try exact nope c81
             all_goals have c81p := c81; try simp [F] at c81p
             all_goals
              replace F := aF c81 F; try replace F := aF c81p F
              refine sqc (X := Unit) [1, 2, 3, 47] (fun z ρ σ1 => (ρ 88 = .v (.bool B88)) ∧ (σ1 = { σ with objs := σ.objs ++ [[.v (.int .u8 x1.toNat), .v (.int .u8 x2.toNat), .v (.int .u64 x3), .sl 5 (coinsC x4) x4.length .shut, .v (.int .u8 x5.toNat), .v (.int .u8 x6.toNat), .v (.int .u8 x7.toNat), .v (.int .u64 (limb x8.v 0)), .v (.int .u64 (limb x8.v 1)), .v (.int .u64 (limb x8.v 2)), .v (.int .u64 (limb x8.v 3)), .sl 5 (coinsC x9) x9.length .shut, .sl 2 (outsC x10) x10.length .shut, .v (.int .u8 xpk.toNat), .v (.int .u64 xps), .v (.int .u64 xpe), .sl 5 (coinsC xpt) xpt.length .shut, .sl 2 (persC xpq) xpq.length .shut, .v (.int .u64 x12), .v (.int .u16 x13), .v (.bool x14)], [.v (.int .u8 0), .v (.int .u8 0), .v (.int .u64 0), .sl 0 [] 0 .full, .v (.int .u8 0), .v (.int .u8 0), .v (.int .u8 0), .v (.int .u64 0), .v (.int .u64 0), .v (.int .u64 0), .v (.int .u64 0), .sl 0 [] 0 .full, .sl 0 [] 0 .full, .v (.int .u8 0), .v (.int .u64 0), .v (.int .u64 0), .sl 0 [] 0 .full, .sl 0 [] 0 .full, .v (.int .u64 0), .v (.int .u16 0), .v (.bool false)], [.v (.int .u8 x1.toNat), .v (.int .u8 x2.toNat), .v (.int .u64 x3), .sl 5 (coinsC x4) x4.length .shut, .v (.int .u8 0), .v (.int .u8 0), .v (.int .u8 0), .v (.int .u64 0), .v (.int .u64 0), .v (.int .u64 0), .v (.int .u64 0), .sl 0 [] 0 .full, .sl 0 [] 0 .full, .v (.int .u8 0), .v (.int .u64 0), .v (.int .u64 0), .sl 0 [] 0 .full, .sl 0 [] 0 .full, .v (.int .u64 0), .v (.int .u16 0), .v (.bool false)]] })) ?cy54 ?cx54
              case cy54 =>
               rintro z ρCc88 σ1 hFCc88 ⟨h88, hσ⟩; obtain rfl := hσ.symm
               have fCc88 := keepL hFCc88
               try simp [KeepL, F] at fCc88
               replace F := aF h88 F; try replace F := aF fCc88 F
               refine cs (t := B88) (fun c88 => ?_) (fun c88 => ?_)
               · try exact nope c88
                 all_goals have c88p := c88; try simp [F] at c88p
                 all_goals
                  replace F := aF c88 F; try replace F := aF c88p F
                  refine rg' (h := fun J55 hJ55 => ?_); refine hJ55 _ _ ?_; refine hK28 _ _ ?_; refine sq fun K56 hK56 => ?_; refine rg' (h := fun J57 hJ57 => ?_); refine hJ57 _ _ ?_; refine hK56 _ _ ?_; refine run_ret ?_; try simp only [Then, InBlock, NoGoto]
                  refine acell (h := ?_)
                  have hk : x1 = 8 ∨ x1 = 10 := by rw [hB88] at c88; simpa using c88
                  have hv : hasN x1 = 1 := by rcases hk with e | e <;> (rw [e]; decide)
                  show Wk _ _ ∧ _
                  refine gcr (hA := WkL.agg ?_)
                  simp [msgC, onlyM, hB, hv, hl0]
                  repeat (first | exact WkL.nil | exact WkL.cons (Wk.refl _) WkL.nil | refine WkL.cons (Wk.refl _) ?_ | refine WkL.cons (Wk.nil _ _ _) ?_)
               try exact nope c88
               all_goals have c88p := c88; try simp [F] at c88p
               all_goals
                replace F := aF c88 F; try replace F := aF c88p F
                refine sq fun K58 hK58 => ?_; refine rg' (h := fun J59 hJ59 => ?_); refine hJ59 _ _ ?_; refine hK58 _ _ ?_; refine cs (fun c94 => ?_) (fun c94 => ?_)
                · try exact nope c94
                  all_goals have c94p := c94; try simp [F] at c94p
                  all_goals
                   replace F := aF c94 F; try replace F := aF c94p F
                   refine run_draw (by kernel_rfl) fun J60 hJ60 => ?_
                   refine rp2 0 (k := ?_); refine rp2 1 (k := ?_); refine rp2 2 (k := ?_); refine rp2 3 (k := ?_); refine rp2 4 (k := ?_); refine dop 5 rfl ?_; repeat (first | simp [F] | simp (disch := omega) only [wC, if_pos, if_neg])
                   refine ⟨by first | exact fun _ _ h => h | (refine later_list [3, 2] (by kernel_rfl) (List.forall_mem_cons.2 ⟨fun _ => fact2 rfl rfl ?_, List.forall_mem_cons.2 ⟨fun _ => fact2 rfl rfl ?_, fun _ h => absurd h List.not_mem_nil⟩⟩) <;> constructor <;> first | rfl | (simp [F]; done)), ?_⟩
                   refine rp2 6 (k := ?_); refine dop 7 rfl ?_; repeat (first | simp [F] | simp (disch := omega) only [wC, if_pos, if_neg])
                   refine ⟨ln, ?_⟩; refine dd ?_; refine hJ60 _ _ ?_; refine hK28 _ _ ?_; refine sq fun K61 hK61 => ?_; refine rg' (h := fun J62 hJ62 => ?_); refine hJ62 _ _ ?_; refine hK61 _ _ ?_; refine run_ret ?_; try simp only [Then, InBlock, NoGoto]
                   refine acell (h := ?_)
                   have hk : x1 = 9 := (hkn 9).2 (by simpa using c94)
                   have hv : hasN x1 = 65 := by rw [hk]; decide
                   try subst hk
                   show Wk _ _ ∧ _
                   refine gcr (hA := WkL.agg ?_)
                   simp [msgC, onlyM, hB, hv, hl0]
                   repeat (first | exact WkL.nil | exact WkL.cons (Wk.refl _) WkL.nil | refine WkL.cons (Wk.refl _) ?_ | refine WkL.cons (Wk.nil _ _ _) ?_)
                try exact nope c94
                all_goals have c94p := c94; try simp [F] at c94p
                all_goals
                 replace F := aF c94 F; try replace F := aF c94p F
                 refine run_skip ?_; refine hK28 _ _ ?_; refine sq fun K63 hK63 => ?_; refine rg' (h := fun J64 hJ64 => ?_); refine hJ64 _ _ ?_; refine hK63 _ _ ?_; refine run_ret ?_; try simp only [Then, InBlock, NoGoto]
                 refine acell (h := ?_)
                 have hv : hasN x1 = 0 := by
                   rw [hB61] at c61; simp at c61
                   rw [hB81] at c81; simp at c81
                   rw [hB88] at c88; simp at c88
                   unfold hasN; rw [if_neg (by simpa [hkn] using c48)]; rw [if_neg (by simpa [hkn] using c56)]; rw [if_neg (by simp [c61])]; rw [if_neg (by simpa [hkn] using c70)]; rw [if_neg (by simp [c81])]; rw [if_neg (by simp [c88])]; rw [if_neg (by simpa [hkn] using c94)]; rw [if_neg (by simpa [hkn] using c6)]; rw [if_neg (by simpa [hkn] using c11)]; rw [if_neg (by simpa [hkn] using c22)]; rw [if_neg (by simpa [hkn] using c29)]; rw [if_neg (by simpa [hkn] using c34)]
                 show Wk _ _ ∧ _
                 refine gcr (hA := WkL.agg ?_)
                 simp [msgC, onlyM, hB, hv, hl0]
                 repeat (first | exact WkL.nil | exact WkL.cons (Wk.refl _) WkL.nil | refine WkL.cons (Wk.refl _) ?_ | refine WkL.cons (Wk.nil _ _ _) ?_)
              case cx54 =>
               intro K54 hK54
               refine sq fun K65 hK65 => ?_; refine rg' (h := fun J66 hJ66 => ?_); refine hJ66 _ _ ?_; refine hK65 _ _ ?_; refine cs (fun c88 => ?_) (fun c88 => ?_)
               · try exact nope c88
                 all_goals have c88p := c88; try simp [F] at c88p
                 all_goals
                  replace F := aF c88 F; try replace F := aF c88p F
                  refine run_skip ?_; refine hK54 (()) _ _ ⟨kp, ?_, lp⟩
                  · rw [hB88]
                    simp [hkn, F]
                    try rfl
               try exact nope c88
               all_goals have c88p := c88; try simp [F] at c88p
               all_goals
                replace F := aF c88 F; try replace F := aF c88p F
                refine rg' (h := fun J67 hJ67 => ?_); refine hJ67 _ _ ?_; refine hK54 (()) _ _ ⟨kp, ?_, lp⟩
                · rw [hB88]
                  simp [hkn, F]
                  try rfl
            case cx50 =>
             intro K50 hK50
             refine sq fun K68 hK68 => ?_; refine rg' (h := fun J69 hJ69 => ?_); refine hJ69 _ _ ?_; refine hK68 _ _ ?_; refine cs (fun c81 => ?_) (fun c81 => ?_)
             · try exact nope c81
               all_goals have c81p := c81; try simp [F] at c81p
               all_goals
                replace F := aF c81 F; try replace F := aF c81p F
                refine run_skip ?_; refine hK50 (()) _ _ ⟨kp, ?_, lp⟩
                · rw [hB81]
                  simp [hkn, F]
                  try rfl
             try exact nope c81
             all_goals have c81p := c81; try simp [F] at c81p
             all_goals
              replace F := aF c81 F; try replace F := aF c81p F
              refine sq fun K70 hK70 => ?_; refine rg' (h := fun J71 hJ71 => ?_); refine hJ71 _ _ ?_; refine hK70 _ _ ?_; refine cs (fun c81 => ?_) (fun c81 => ?_)
              · try exact nope c81
                all_goals have c81p := c81; try simp [F] at c81p
                all_goals
                 replace F := aF c81 F; try replace F := aF c81p F
                 refine run_skip ?_; refine hK50 (()) _ _ ⟨kp, ?_, lp⟩
                 · rw [hB81]
                   simp [hkn, F]
                   try rfl
              try exact nope c81
              all_goals have c81p := c81; try simp [F] at c81p
              all_goals
               replace F := aF c81 F; try replace F := aF c81p F
               refine rg' (h := fun J72 hJ72 => ?_); refine hJ72 _ _ ?_; refine hK50 (()) _ _ ⟨kp, ?_, lp⟩
               · rw [hB81]
                 simp [hkn, F]
                 try rfl
         case cx41 =>
          intro K41 hK41
          refine sq fun K73 hK73 => ?_; refine rg' (h := fun J74 hJ74 => ?_); refine hJ74 _ _ ?_; refine hK73 _ _ ?_; refine cs (fun c61 => ?_) (fun c61 => ?_)
          · try exact nope c61
            all_goals have c61p := c61; try simp [F] at c61p
            all_goals
             replace F := aF c61 F; try replace F := aF c61p F
             refine run_skip ?_; refine hK41 (()) _ _ ⟨kp, ?_, lp⟩
             · rw [hB61]
               simp [hkn, F]
               try rfl
          try exact nope c61
          all_goals have c61p := c61; try simp [F] at c61p
          all_goals
           replace F := aF c61 F; try replace F := aF c61p F
           refine rg' (h := fun J75 hJ75 => ?_); refine hJ75 _ _ ?_; refine hK41 (()) _ _ ⟨kp, ?_, lp⟩
           · rw [hB61]
             simp [hkn, F]
             try rfl
set_option maxHeartbeats 1600000 in
attribute [local simp] undefA List.getElem?_cons_zero List.getElem?_cons_succ outC in
theorem goes_ok {σ : St} {x : Out} (hx : x.c.length ≤ 9223372036854775807) :
    CallsA Try.prog 100 [.agg (outC x)] σ (fun av σ' => av = .v (.bool (outB x)) ∧ σ = σ') := by
  refine callsA_gcS ?_ rfl
  obtain ⟨l, c⟩ := x
  simp only [outB]
  have F := True.intro
  refine callsA_body Try.func100 rfl rfl rfl ?_; refine sq fun K1 hK1 => ?_; refine rg' (h := fun J2 hJ2 => ?_); refine hJ2 _ _ ?_; refine hK1 _ _ ?_; refine sq fun K3 hK3 => ?_; refine rg' (h := fun J4 hJ4 => ?_); refine gs 6 (fun g1_3 => ?_) (fun g1_3 => ?_)
  · try exact nope g1_3
    all_goals have g1_3p := g1_3; try simp [F] at g1_3p
    all_goals
     replace F := aF g1_3 F; try replace F := aF g1_3p F
     have hl : l.toNat < 200 := by have h := g1_3; simp at h; omega
     replace F := aF hl F; iterate 2 refine go2 (k := ?_)
     refine ca (c := right_ok hx) (k := ?_); rintro _ _ ⟨rfl, rfl⟩; repeat (first | simp [F] | simp (disch := omega) only [wC, if_pos, if_neg])
     refine hJ4 _ _ ?_; refine hK3 _ _ ?_; refine run_ret ?_; try simp only [Then, InBlock, NoGoto]
     refine answer_tmp rfl (.inr rfl) ?_; exact gcr
  try exact nope g1_3
  all_goals have g1_3p := g1_3; try simp [F] at g1_3p
  all_goals
   replace F := aF g1_3 F; try replace F := aF g1_3p F
   have hl : ¬ l.toNat < 200 := by have h := g1_3; simp at h; omega
   replace F := aF hl F; iterate 3 refine no2 (k := ?_)
   refine hJ4 _ _ ?_; refine hK3 _ _ ?_; refine run_ret ?_; try simp only [Then, InBlock, NoGoto]
   refine answer_tmp rfl (.inr rfl) ?_; exact gcr

set_option maxHeartbeats 1600000 in
attribute [local simp] undefA List.getElem?_cons_zero List.getElem?_cons_succ outC in
theorem right1_ok {σ : St} {x : Out} (hx : x.c.length ≤ 9223372036854775807) :
    CallsA Try.prog 99 [.agg (outC x)] σ (fun av σ' => av = .v (.bool (!outB x)) ∧ σ = σ') := by
  refine callsA_gcS ?_ rfl
  have hg := fun σ => goes_ok (σ := σ) hx
  obtain ⟨B, hB⟩ : ∃ B, B = outB x := ⟨_, rfl⟩
  rw [← hB] at hg ⊢
  clear hB
  obtain ⟨l, c⟩ := x
  have F := True.intro
  refine callsA_body Try.func99 rfl rfl rfl ?_; refine sq fun K1 hK1 => ?_; refine rg' (h := fun J2 hJ2 => ?_); refine hJ2 _ _ ?_; refine hK1 _ _ ?_; refine sq fun K3 hK3 => ?_; refine rg' (h := fun J4 hJ4 => ?_); refine ca (c := hg _) (k := ?_); rintro _ _ ⟨rfl, rfl⟩; repeat (first | simp [F] | simp (disch := omega) only [wC, if_pos, if_neg])
  refine hJ4 _ _ ?_; refine hK3 _ _ ?_; refine run_ret ?_; try simp only [Then, InBlock, NoGoto]
  refine answer_tmp rfl (.inr rfl) ?_; exact gcr

def ixO : List Out → Nat → Int
  | [], _ => -1
  | x :: l, i => if outB x then ixO l (i + 1) else i
theorem ixO_all : ∀ (l : List Out) (i : Nat), decide (0 ≤ ixO l i) = !(l.all outB)
  | [], _ => by simp [ixO]
  | x :: l, i => by
    have ih := ixO_all l (i + 1)
    unfold ixO
    cases hx : outB x
    · simp [hx]
    · simp [hx, ih]

set_option maxHeartbeats 1600000 in
attribute [local simp] undefA List.getElem?_cons_zero List.getElem?_cons_succ outC outsC_noObj in
theorem index_ok {σ : St} {l : List Out} {tl : Tail} (hl : l.length ≤ 9223372036854775807) (hx : ∀ x ∈ l, x.c.length ≤ 9223372036854775807) :
    CallsA Try.prog 132 [.sl 2 (outsC l) l.length tl, .fn 99 []] σ (fun av σ' => av = .v (.int .i64 (ixO l 0)) ∧ σ = σ') := by
  refine callsA_gcS ?_ rfl
  have F := True.intro
  refine callsA_body Try.func132 rfl rfl rfl ?_; refine sq fun K1 hK1 => ?_; refine rg' (h := fun J2 hJ2 => ?_); refine hJ2 _ _ ?_; refine hK1 _ _ ?_; refine sq fun K3 hK3 => ?_; refine sq fun K4 hK4 => ?_; refine rg' (h := fun J5 hJ5 => ?_); refine hJ5 _ _ ?_; refine hK4 _ _ ?_; refine run_block_k ?_; refine run_loopF (X := Nat) [0, 1, 7] (fun i ρ σ1 => (i ≤ l.length) ∧ (ixO l 0 = ixO (l.drop i) i) ∧ (ρ 8 = .v (.int .i64 i)) ∧ (σ1 = σ)) (fun i => l.length - i) (0) ?st1 ?rd1
  case st1 =>
   refine ⟨lp, ?_, lp, ?_⟩
   · rfl
   · rfl
  case rd1 =>
   rintro i ρ1 σ1 hF1 ⟨hi, hE, h8, hσ⟩; obtain rfl := hσ.symm
   have f1 := keepL hF1
   try simp [KeepL, F] at f1
   replace F := aF h8 F; try replace F := aF f1 F
   refine sq fun K6 hK6 => ?_; refine rg' (h := fun J7 hJ7 => ?_); refine hJ7 _ _ ?_; refine hK6 _ _ ?_; refine sq fun K8 hK8 => ?_; refine cs (fun c9 => ?_) (fun c9 => ?_)
   · try exact nope c9
     all_goals have c9p := c9; try simp [F] at c9p
     all_goals
      replace F := aF c9 F; try replace F := aF c9p F
      refine run_skip ?_; refine hK8 _ _ ?_; refine sq fun K9 hK9 => ?_; refine run_block_k ?_; refine sq fun K10 hK10 => ?_; refine rg' (h := fun J11 hJ11 => ?_); refine hJ11 _ _ ?_; refine hK10 _ _ ?_; refine sq fun K12 hK12 => ?_
      have hlt : i < l.length := by have h := c9; simp at h; omega
      have hat := outsC_at hlt
      have hb1 : i * 2 + 2 ≤ l.length * 2 := by omega
      have hx5 := hx _ (List.getElem_mem hlt)
      have hcons : l.drop i = l[i] :: l.drop (i + 1) := List.drop_eq_getElem_cons hlt
      obtain ⟨x, hxx⟩ : ∃ x, x = l[i] := ⟨_, rfl⟩
      rw [← hxx] at hat hx5 hcons
      rw [hcons] at hE
      simp only [ixO] at hE
      have hc1 := fun σ => right1_ok (σ := σ) hx5
      obtain ⟨B, hB⟩ : ∃ B, B = outB x := ⟨_, rfl⟩
      rw [← hB] at hE
      simp only [← hB] at hc1
      obtain ⟨xl, xc⟩ := x
      replace F := aF hlt F; replace F := aF hat F; replace F := aF hb1 F; refine rg' (h := fun J13 hJ13 => ?_); refine ca (c := hc1 _) (k := ?_); rintro _ _ ⟨rfl, rfl⟩; repeat (first | simp [F] | simp (disch := omega) only [wC, if_pos, if_neg])
      refine hJ13 _ _ ?_; refine hK12 _ _ ?_; refine cs (t := !B) (fun c16 => ?_) (fun c16 => ?_)
      · try exact nope c16
        all_goals have c16p := c16; try simp [F] at c16p
        all_goals
         replace F := aF c16 F; try replace F := aF c16p F
         have hr : ixO l 0 = i := by have h := c16; simp at h; rw [hE, h]; rfl
         replace F := aF hr F; refine sq fun K14 hK14 => ?_; refine rg' (h := fun J15 hJ15 => ?_); refine hJ15 _ _ ?_; refine hK14 _ _ ?_; refine run_ret ?_; try simp only [Then, InBlock, NoGoto]
         refine answer_tmp rfl (.inr rfl) ?_; exact gcr
      try exact nope c16
      all_goals have c16p := c16; try simp [F] at c16p
      all_goals
       replace F := aF c16 F; try replace F := aF c16p F
       refine run_skip ?_; refine hK9 _ _ ?_; refine rg' (h := fun J16 hJ16 => ?_); refine hJ16 _ _ ?_; refine ⟨(i + 1), ⟨kp, lp, ?_, lp, lp⟩, lp⟩
       · have h := c16
         simp at h
         rw [hE, h]
         rfl
   try exact nope c9
   all_goals have c9p := c9; try simp [F] at c9p
   all_goals
    replace F := aF c9 F; try replace F := aF c9p F
    have hr : ixO l 0 = -1 := by rw [hE, List.drop_of_length_le (by have h := c9; simp at h; omega)]; rfl
    replace F := aF hr F; refine run_exit ?_; refine hK3 _ _ ?_; refine sq fun K17 hK17 => ?_; refine rg' (h := fun J18 hJ18 => ?_); refine hJ18 _ _ ?_; refine hK17 _ _ ?_; refine run_ret ?_; try simp only [Then, InBlock, NoGoto]
    refine answer_tmp rfl (.inr rfl) ?_; exact gcr

set_option maxHeartbeats 1600000 in
attribute [local simp] undefA List.getElem?_cons_zero List.getElem?_cons_succ outsC_noObj in
theorem contains_ok {σ : St} {l : List Out} {tl : Tail} (hl : l.length ≤ 9223372036854775807) (hx : ∀ x ∈ l, x.c.length ≤ 9223372036854775807) :
    CallsA Try.prog 98 [.sl 2 (outsC l) l.length tl, .fn 99 []] σ (fun av σ' => av = .v (.bool (!(l.all outB))) ∧ σ = σ') := by
  refine callsA_gcS ?_ rfl
  have hi := ixO_all l 0
  obtain ⟨I, hI⟩ : ∃ I, I = ixO l 0 := ⟨_, rfl⟩
  have hc := fun σ => index_ok (σ := σ) (tl := tl) hl hx
  rw [← hI] at hi hc
  have F := And.intro hi (True.intro)
  refine callsA_body Try.func98 rfl rfl rfl ?_; refine sq fun K1 hK1 => ?_; refine rg' (h := fun J2 hJ2 => ?_); refine hJ2 _ _ ?_; refine hK1 _ _ ?_; refine sq fun K3 hK3 => ?_; refine rg' (h := fun J4 hJ4 => ?_); refine ca (c := hc _) (k := ?_); rintro _ _ ⟨rfl, rfl⟩; repeat (first | simp [F] | simp (disch := omega) only [wC, if_pos, if_neg])
  refine hJ4 _ _ ?_; refine hK3 _ _ ?_; refine run_ret ?_; try simp only [Then, InBlock, NoGoto]
  refine answer_tmp rfl (.inr rfl) ?_; exact gcr

set_option maxHeartbeats 1600000 in
attribute [local simp] undefA List.getElem?_cons_zero List.getElem?_cons_succ msgC outsC_noObj persC_noObj in
theorem mright_ok {σ : St} {m : Msg} (hm : m.Ok) :
    CallsA Try.prog 51 [.agg (msgC m)] σ (fun av σ' => av = .v (.bool (rightM m)) ∧ σ = σ') := by
  refine callsA_gcS ?_ rfl
  have hso := fun σ => msame_ok (σ := σ) hm (onlyM_ok hm)
  have hon := fun σ => monly_ok (σ := σ) (m := m)
  have hpr := fun σ => plright_ok (σ := σ) hm.p
  have hcf := fun σ => contains_ok (σ := σ) (tl := .shut) hm.outs hm.out
  have hfe := fun σ => right_ok (σ := σ) (tl := .shut) hm.fee
  have hco := fun σ => right_ok (σ := σ) (tl := .shut) hm.c
  obtain ⟨G, hG⟩ : ∃ G, G = rightM m := ⟨_, rfl⟩
  rw [← hG]
  unfold rightM at hG
  obtain ⟨Y, hY⟩ : ∃ Y, Y = onlyM m := ⟨_, rfl⟩
  obtain ⟨D, hD⟩ : ∃ D, D = decide (m = Y) := ⟨_, rfl⟩
  simp only [← hY] at hso hon hG
  simp only [← hD] at hso hG
  obtain ⟨R1, hR1⟩ : ∃ R, R = decide (Right m.fee) := ⟨_, rfl⟩
  obtain ⟨R2, hR2⟩ : ∃ R, R = decide (Right m.c) := ⟨_, rfl⟩
  obtain ⟨RP, hRP⟩ : ∃ R, R = rightB m.p := ⟨_, rfl⟩
  obtain ⟨A, hA⟩ : ∃ A, A = m.outs.all outB := ⟨_, rfl⟩
  simp only [Bool.decide_and, ← hR1, ← hR2, ← hRP, ← hA] at hG
  simp only [← hR1] at hfe
  simp only [← hR2] at hco
  simp only [← hRP] at hpr
  simp only [← hA] at hcf
  clear hY hD hR1 hR2 hRP hA hm
  obtain ⟨x1, x2, x3, x4, x5, x6, x7, x8, x9, x10, x11, x12, x13, x14⟩ := m
  obtain ⟨xpk, xps, xpe, xpt, xpq⟩ := x11
  simp only at hG hfe hco hcf
  have hhas := fun σ => has_ok (σ := σ) (k := x1)
  obtain ⟨K, hK⟩ : ∃ K, K = hasK x1 := ⟨_, rfl⟩
  rw [← hK] at hG hhas
  obtain ⟨h, hh⟩ : ∃ h, h = hasN x1 := ⟨_, rfl⟩
  have hlt : h < 4096 := by rw [hh]; exact hasN_lt _
  rw [← hh] at hhas
  obtain ⟨eU, heU⟩ : ∃ e, e = h &&& 32 := ⟨_, rfl⟩
  have handU : ∀ xo yo, binA Try.prog .and 3 xo yo (.v (.int .i64 (h : Nat))) (.v (.int .i64 32)) = some (.v (.int .i64 (eU : Nat))) := fun xo yo => by rw [heU]; exact binA_andN _ xo yo hlt (by decide)
  obtain ⟨bU, hbU⟩ : ∃ b, b = hB x1 32 := ⟨_, rfl⟩
  have hneU : (((eU : Nat) : Int) != 0) = bU := by rw [hbU, hB, ← hh, ← heU]; exact bitNe
  obtain ⟨eP, heP⟩ : ∃ e, e = h &&& 64 := ⟨_, rfl⟩
  have handP : ∀ xo yo, binA Try.prog .and 3 xo yo (.v (.int .i64 (h : Nat))) (.v (.int .i64 64)) = some (.v (.int .i64 (eP : Nat))) := fun xo yo => by rw [heP]; exact binA_andN _ xo yo hlt (by decide)
  obtain ⟨bP, hbP⟩ : ∃ b, b = hB x1 64 := ⟨_, rfl⟩
  have hneP : (((eP : Nat) : Int) != 0) = bP := by rw [hbP, hB, ← hh, ← heP]; exact bitNe
  rw [← hbU, ← hbP] at hG
  clear hh hbU hbP heU heP hK
  have hkn : ∀ n : UInt8, xpk = n ↔ (xpk.toNat : Int) = (n.toNat : Int) := fun n => ⟨fun e => by rw [e], fun e => UInt8.toNat_inj.1 (Int.ofNat_inj.1 e)⟩
  obtain ⟨B1, hB1⟩ : ∃ B, B = !(K && D) := ⟨_, rfl⟩
  obtain ⟨B2, hB2⟩ : ∃ B, B = !(decide (x2.toNat < 200) && decide (x5.toNat < 200) && decide (x6.toNat < 16) && decide (x7.toNat < 16)) := ⟨_, rfl⟩
  obtain ⟨B3, hB3⟩ : ∃ B, B = !(R1 && R2) := ⟨_, rfl⟩
  obtain ⟨B4, hB4⟩ : ∃ B, B = (bU && (decide (x10.length = 0) || decide (16 < x10.length))) := ⟨_, rfl⟩
  obtain ⟨B5, hB5⟩ : ∃ B, B = (bP && decide (xpk = 0)) := ⟨_, rfl⟩
  have hG2 : G = (!B1 && !B2 && !B3 && !B4 && !B5 && A && RP && decide (x12 ≤ 2 ^ 40) && decide (x13 ≤ 10000)) := by
    rw [hG, hB1, hB2, hB3, hB4, hB5]; simp [Bool.and_assoc]
  clear hG
  have f1 : B1 = true → G = false := fun e => by rw [hG2, e]; rfl
  have f2 : B2 = true → G = false := fun e => by rw [hG2, e]; simp
  have f3 : B3 = true → G = false := fun e => by rw [hG2, e]; simp
  have f4 : B4 = true → G = false := fun e => by rw [hG2, e]; simp
  have f5 : B5 = true → G = false := fun e => by rw [hG2, e]; simp
  have F := And.intro handU (And.intro handP (And.intro hneU (And.intro hneP (True.intro))))
  refine callsA_body Try.func51 rfl rfl rfl ?_; refine sq fun K1 hK1 => ?_; refine rg' (h := fun J2 hJ2 => ?_); refine hJ2 _ _ ?_; refine hK1 _ _ ?_; refine sq fun K3 hK3 => ?_; refine rg' (h := fun J4 hJ4 => ?_); refine ca (c := hhas _) (k := ?_); rintro _ _ ⟨rfl, rfl⟩; repeat (first | simp [F] | simp (disch := omega) only [wC, if_pos, if_neg])
  refine hJ4 _ _ ?_; refine hK3 _ _ ?_; refine sq fun K5 hK5 => ?_; refine run_block_k ?_
  refine sqc (X := Unit) [1, 2, 3] (fun z ρ σ1 => (ρ 12 = .v (.bool B1)) ∧ (σ1 = { σ with objs := σ.objs ++ [[.v (.int .u8 x1.toNat), .v (.int .u8 x2.toNat), .v (.int .u64 x3), .sl 5 (coinsC x4) x4.length .shut, .v (.int .u8 x5.toNat), .v (.int .u8 x6.toNat), .v (.int .u8 x7.toNat), .v (.int .u64 (limb x8.v 0)), .v (.int .u64 (limb x8.v 1)), .v (.int .u64 (limb x8.v 2)), .v (.int .u64 (limb x8.v 3)), .sl 5 (coinsC x9) x9.length .shut, .sl 2 (outsC x10) x10.length .shut, .v (.int .u8 xpk.toNat), .v (.int .u64 xps), .v (.int .u64 xpe), .sl 5 (coinsC xpt) xpt.length .shut, .sl 2 (persC xpq) xpq.length .shut, .v (.int .u64 x12), .v (.int .u16 x13), .v (.bool x14)]] })) ?cy6 ?cx6
  case cy6 =>
   rintro z ρCr2 σ1 hFCr2 ⟨h12, hσ⟩; obtain rfl := hσ.symm
   have fCr2 := keepL hFCr2
   try simp [KeepL, F] at fCr2
   replace F := aF h12 F; try replace F := aF fCr2 F
   refine cs (t := B1) (fun c12 => ?_) (fun c12 => ?_)
   · try exact nope c12
     all_goals have c12p := c12; try simp [F] at c12p
     all_goals
      replace F := aF c12 F; try replace F := aF c12p F
      have h0 : G = false := f1 c12
      replace F := aF h0 F; refine sq fun K7 hK7 => ?_; refine rg' (h := fun J8 hJ8 => ?_); refine hJ8 _ _ ?_; refine hK7 _ _ ?_; refine run_ret ?_; try simp only [Then, InBlock, NoGoto]
      refine answer_tmp rfl (.inr rfl) ?_; exact gcr
   try exact nope c12
   all_goals have c12p := c12; try simp [F] at c12p
   all_goals
    replace F := aF c12 F; try replace F := aF c12p F
    refine sqc (X := Unit) [1, 2, 3] (fun z ρ σ1 => (ρ 22 = .v (.bool B2)) ∧ (σ1 = { σ with objs := σ.objs ++ [[.v (.int .u8 x1.toNat), .v (.int .u8 x2.toNat), .v (.int .u64 x3), .sl 5 (coinsC x4) x4.length .shut, .v (.int .u8 x5.toNat), .v (.int .u8 x6.toNat), .v (.int .u8 x7.toNat), .v (.int .u64 (limb x8.v 0)), .v (.int .u64 (limb x8.v 1)), .v (.int .u64 (limb x8.v 2)), .v (.int .u64 (limb x8.v 3)), .sl 5 (coinsC x9) x9.length .shut, .sl 2 (outsC x10) x10.length .shut, .v (.int .u8 xpk.toNat), .v (.int .u64 xps), .v (.int .u64 xpe), .sl 5 (coinsC xpt) xpt.length .shut, .sl 2 (persC xpq) xpq.length .shut, .v (.int .u64 x12), .v (.int .u16 x13), .v (.bool x14)]] })) ?cy9 ?cx9
    case cy9 =>
     rintro z ρCr4 σ1 hFCr4 ⟨h22, hσ⟩; obtain rfl := hσ.symm
     have fCr4 := keepL hFCr4
     try simp [KeepL, F] at fCr4
     replace F := aF h22 F; try replace F := aF fCr4 F
     refine cs (t := B2) (fun c22 => ?_) (fun c22 => ?_)
     · try exact nope c22
       all_goals have c22p := c22; try simp [F] at c22p
       all_goals
        replace F := aF c22 F; try replace F := aF c22p F
        have h0 : G = false := f2 c22
        replace F := aF h0 F; refine sq fun K10 hK10 => ?_; refine rg' (h := fun J11 hJ11 => ?_); refine hJ11 _ _ ?_; refine hK10 _ _ ?_; refine run_ret ?_; try simp only [Then, InBlock, NoGoto]
        refine answer_tmp rfl (.inr rfl) ?_; exact gcr
     try exact nope c22
     all_goals have c22p := c22; try simp [F] at c22p
     all_goals
      replace F := aF c22 F; try replace F := aF c22p F
      refine sqc (X := Unit) [1, 2, 3] (fun z ρ σ1 => (ρ 41 = .v (.bool B3)) ∧ (σ1 = { σ with objs := σ.objs ++ [[.v (.int .u8 x1.toNat), .v (.int .u8 x2.toNat), .v (.int .u64 x3), .sl 5 (coinsC x4) x4.length .shut, .v (.int .u8 x5.toNat), .v (.int .u8 x6.toNat), .v (.int .u8 x7.toNat), .v (.int .u64 (limb x8.v 0)), .v (.int .u64 (limb x8.v 1)), .v (.int .u64 (limb x8.v 2)), .v (.int .u64 (limb x8.v 3)), .sl 5 (coinsC x9) x9.length .shut, .sl 2 (outsC x10) x10.length .shut, .v (.int .u8 xpk.toNat), .v (.int .u64 xps), .v (.int .u64 xpe), .sl 5 (coinsC xpt) xpt.length .shut, .sl 2 (persC xpq) xpq.length .shut, .v (.int .u64 x12), .v (.int .u16 x13), .v (.bool x14)]] })) ?cy12 ?cx12
      case cy12 =>
       rintro z ρCr6 σ1 hFCr6 ⟨h41, hσ⟩; obtain rfl := hσ.symm
       have fCr6 := keepL hFCr6
       try simp [KeepL, F] at fCr6
       replace F := aF h41 F; try replace F := aF fCr6 F
       refine cs (t := B3) (fun c41 => ?_) (fun c41 => ?_)
       · try exact nope c41
         all_goals have c41p := c41; try simp [F] at c41p
         all_goals
          replace F := aF c41 F; try replace F := aF c41p F
          have h0 : G = false := f3 c41
          replace F := aF h0 F; refine sq fun K13 hK13 => ?_; refine rg' (h := fun J14 hJ14 => ?_); refine hJ14 _ _ ?_; refine hK13 _ _ ?_; refine run_ret ?_; try simp only [Then, InBlock, NoGoto]
          refine answer_tmp rfl (.inr rfl) ?_; exact gcr
       try exact nope c41
       all_goals have c41p := c41; try simp [F] at c41p
       all_goals
        replace F := aF c41 F; try replace F := aF c41p F
        refine sqc (X := Unit) [1, 2, 3] (fun z ρ σ1 => (ρ 52 = .v (.bool B4)) ∧ (σ1 = { σ with objs := σ.objs ++ [[.v (.int .u8 x1.toNat), .v (.int .u8 x2.toNat), .v (.int .u64 x3), .sl 5 (coinsC x4) x4.length .shut, .v (.int .u8 x5.toNat), .v (.int .u8 x6.toNat), .v (.int .u8 x7.toNat), .v (.int .u64 (limb x8.v 0)), .v (.int .u64 (limb x8.v 1)), .v (.int .u64 (limb x8.v 2)), .v (.int .u64 (limb x8.v 3)), .sl 5 (coinsC x9) x9.length .shut, .sl 2 (outsC x10) x10.length .shut, .v (.int .u8 xpk.toNat), .v (.int .u64 xps), .v (.int .u64 xpe), .sl 5 (coinsC xpt) xpt.length .shut, .sl 2 (persC xpq) xpq.length .shut, .v (.int .u64 x12), .v (.int .u16 x13), .v (.bool x14)]] })) ?cy15 ?cx15
        case cy15 =>
         rintro z ρCr8 σ1 hFCr8 ⟨h52, hσ⟩; obtain rfl := hσ.symm
         have fCr8 := keepL hFCr8
         try simp [KeepL, F] at fCr8
         replace F := aF h52 F; try replace F := aF fCr8 F
         refine cs (t := B4) (fun c52 => ?_) (fun c52 => ?_)
         · try exact nope c52
           all_goals have c52p := c52; try simp [F] at c52p
           all_goals
            replace F := aF c52 F; try replace F := aF c52p F
            have h0 : G = false := f4 c52
            replace F := aF h0 F; refine sq fun K16 hK16 => ?_; refine rg' (h := fun J17 hJ17 => ?_); refine hJ17 _ _ ?_; refine hK16 _ _ ?_; refine run_ret ?_; try simp only [Then, InBlock, NoGoto]
            refine answer_tmp rfl (.inr rfl) ?_; exact gcr
         try exact nope c52
         all_goals have c52p := c52; try simp [F] at c52p
         all_goals
          replace F := aF c52 F; try replace F := aF c52p F
          refine sqc (X := Unit) [1, 2] (fun z ρ σ1 => (ρ 68 = .v (.bool B5)) ∧ (σ1 = { σ with objs := σ.objs ++ [[.v (.int .u8 x1.toNat), .v (.int .u8 x2.toNat), .v (.int .u64 x3), .sl 5 (coinsC x4) x4.length .shut, .v (.int .u8 x5.toNat), .v (.int .u8 x6.toNat), .v (.int .u8 x7.toNat), .v (.int .u64 (limb x8.v 0)), .v (.int .u64 (limb x8.v 1)), .v (.int .u64 (limb x8.v 2)), .v (.int .u64 (limb x8.v 3)), .sl 5 (coinsC x9) x9.length .shut, .sl 2 (outsC x10) x10.length .shut, .v (.int .u8 xpk.toNat), .v (.int .u64 xps), .v (.int .u64 xpe), .sl 5 (coinsC xpt) xpt.length .shut, .sl 2 (persC xpq) xpq.length .shut, .v (.int .u64 x12), .v (.int .u16 x13), .v (.bool x14)]] })) ?cy18 ?cx18
          case cy18 =>
           rintro z ρCr10 σ1 hFCr10 ⟨h68, hσ⟩; obtain rfl := hσ.symm
           have fCr10 := keepL hFCr10
           try simp [KeepL, F] at fCr10
           replace F := aF h68 F; try replace F := aF fCr10 F
           refine cs (t := B5) (fun c68 => ?_) (fun c68 => ?_)
           · try exact nope c68
             all_goals have c68p := c68; try simp [F] at c68p
             all_goals
              replace F := aF c68 F; try replace F := aF c68p F
              have h0 : G = false := f5 c68
              replace F := aF h0 F; refine sq fun K19 hK19 => ?_; refine rg' (h := fun J20 hJ20 => ?_); refine hJ20 _ _ ?_; refine hK19 _ _ ?_; refine run_ret ?_; try simp only [Then, InBlock, NoGoto]
              refine answer_tmp rfl (.inr rfl) ?_; exact gcr
           try exact nope c68
           all_goals have c68p := c68; try simp [F] at c68p
           all_goals
            replace F := aF c68 F; try replace F := aF c68p F
            refine run_skip ?_; refine hK5 _ _ ?_; refine sq fun K21 hK21 => ?_; refine rg' (h := fun J22 hJ22 => ?_); refine ca (c := hcf _) (k := ?_); rintro _ _ ⟨rfl, rfl⟩; repeat (first | simp [F] | simp (disch := omega) only [wC, if_pos, if_neg])
            refine hJ22 _ _ ?_; refine hK21 _ _ ?_; refine sq fun K23 hK23 => ?_; refine rg' (h := fun J24 hJ24 => ?_); refine gs 83 (fun g13_2 => ?_) (fun g13_2 => ?_)
            · try exact nope g13_2
              all_goals have g13_2p := g13_2; try simp [F] at g13_2p
              all_goals
               replace F := aF g13_2 F; try replace F := aF g13_2p F
               iterate 2 refine go2 (k := ?_)
               refine ca (c := hpr _) (k := ?_); rintro _ _ ⟨rfl, rfl⟩; repeat (first | simp [F] | simp (disch := omega) only [wC, if_pos, if_neg])
               refine gs 88 (fun g13_7 => ?_) (fun g13_7 => ?_)
               · try exact nope g13_7
                 all_goals have g13_7p := g13_7; try simp [F] at g13_7p
                 all_goals
                  replace F := aF g13_7 F; try replace F := aF g13_7p F
                  iterate 3 refine go2 (k := ?_)
                  refine gs 93 (fun g13_12 => ?_) (fun g13_12 => ?_)
                  · try exact nope g13_12
                    all_goals have g13_12p := g13_12; try simp [F] at g13_12p
                    all_goals
                     replace F := aF g13_12 F; try replace F := aF g13_12p F
                     have hq : x12 ≤ 1099511627776 := by have h := g13_12; simp at h; omega
                     replace F := aF hq F; iterate 3 refine go2 (k := ?_)
                     refine hJ24 _ _ ?_; refine hK23 _ _ ?_; refine run_ret ?_; try simp only [Then, InBlock, NoGoto]
                     refine answer_tmp rfl (.inr rfl) ?_
                     have hg : G = (A && RP && decide (x12 ≤ 1099511627776) && decide (x13 ≤ 10000)) := by rw [hG2, c12, c22, c41, c52, c68]; simp
                     rw [hg]
                     refine gcr (hA := wk_eq ?_)
                     simp [F]
                     try omega
                  try exact nope g13_12
                  all_goals have g13_12p := g13_12; try simp [F] at g13_12p
                  all_goals
                   replace F := aF g13_12 F; try replace F := aF g13_12p F
                   have hq : ¬ x12 ≤ 1099511627776 := by have h := g13_12; simp at h; omega
                   replace F := aF hq F; iterate 3 refine no2 (k := ?_)
                   refine hJ24 _ _ ?_; refine hK23 _ _ ?_; refine run_ret ?_; try simp only [Then, InBlock, NoGoto]
                   refine answer_tmp rfl (.inr rfl) ?_
                   have hg : G = (A && RP && decide (x12 ≤ 1099511627776) && decide (x13 ≤ 10000)) := by rw [hG2, c12, c22, c41, c52, c68]; simp
                   rw [hg]
                   refine gcr (hA := wk_eq ?_)
                   simp [F]
                   try omega
               try exact nope g13_7
               all_goals have g13_7p := g13_7; try simp [F] at g13_7p
               all_goals
                replace F := aF g13_7 F; try replace F := aF g13_7p F
                iterate 6 refine no2 (k := ?_)
                refine hJ24 _ _ ?_; refine hK23 _ _ ?_; refine run_ret ?_; try simp only [Then, InBlock, NoGoto]
                refine answer_tmp rfl (.inr rfl) ?_
                have hg : G = (A && RP && decide (x12 ≤ 1099511627776) && decide (x13 ≤ 10000)) := by rw [hG2, c12, c22, c41, c52, c68]; simp
                rw [hg]
                refine gcr (hA := wk_eq ?_)
                simp [F]
                try omega
            try exact nope g13_2
            all_goals have g13_2p := g13_2; try simp [F] at g13_2p
            all_goals
             replace F := aF g13_2 F; try replace F := aF g13_2p F
             iterate 9 refine no2 (k := ?_)
             refine hJ24 _ _ ?_; refine hK23 _ _ ?_; refine run_ret ?_; try simp only [Then, InBlock, NoGoto]
             refine answer_tmp rfl (.inr rfl) ?_
             have hg : G = (A && RP && decide (x12 ≤ 1099511627776) && decide (x13 ≤ 10000)) := by rw [hG2, c12, c22, c41, c52, c68]; simp
             rw [hg]
             refine gcr (hA := wk_eq ?_)
             simp [F]
             try omega
          case cx18 =>
           intro K18 hK18
           refine rg' (h := fun J25 hJ25 => ?_); refine gs 72 (fun g10_3 => ?_) (fun g10_3 => ?_)
           · try exact nope g10_3
             all_goals have g10_3p := g10_3; try simp [F] at g10_3p
             all_goals
              replace F := aF g10_3 F; try replace F := aF g10_3p F
              iterate 4 refine go2 (k := ?_)
              refine hJ25 _ _ ?_; refine hK18 (()) _ _ ⟨kp, ?_, lp⟩
              · rw [hB5]
                simp [F]
                try (simp [hkn])
                try (rw [Bool.eq_iff_iff]; simp)
           try exact nope g10_3
           all_goals have g10_3p := g10_3; try simp [F] at g10_3p
           all_goals
            replace F := aF g10_3 F; try replace F := aF g10_3p F
            iterate 4 refine no2 (k := ?_)
            refine hJ25 _ _ ?_; refine hK18 (()) _ _ ⟨kp, ?_, lp⟩
            · rw [hB5]
              simp [F]
              try (simp [hkn])
              try (rw [Bool.eq_iff_iff]; simp)
        case cx15 =>
         intro K15 hK15
         refine rg' (h := fun J26 hJ26 => ?_); refine gs 56 (fun g8_3 => ?_) (fun g8_3 => ?_)
         · try exact nope g8_3
           all_goals have g8_3p := g8_3; try simp [F] at g8_3p
           all_goals
            replace F := aF g8_3 F; try replace F := aF g8_3p F
            iterate 5 refine go2 (k := ?_)
            refine gs 61 (fun g8_8 => ?_) (fun g8_8 => ?_)
            · try exact nope g8_8
              all_goals have g8_8p := g8_8; try simp [F] at g8_8p
              all_goals
               replace F := aF g8_8 F; try replace F := aF g8_8p F
               iterate 4 refine no2 (k := ?_)
               refine go2 (k := ?_); refine hJ26 _ _ ?_; refine hK15 (()) _ _ ⟨kp, ?_, lp⟩
               · rw [hB4]
                 simp [F]
                 try (rw [Bool.eq_iff_iff]; simp)
                 try omega
            try exact nope g8_8
            all_goals have g8_8p := g8_8; try simp [F] at g8_8p
            all_goals
             replace F := aF g8_8 F; try replace F := aF g8_8p F
             iterate 5 refine go2 (k := ?_)
             refine hJ26 _ _ ?_; refine hK15 (()) _ _ ⟨kp, ?_, lp⟩
             · rw [hB4]
               simp [F]
               try (rw [Bool.eq_iff_iff]; simp)
               try omega
         try exact nope g8_3
         all_goals have g8_3p := g8_3; try simp [F] at g8_3p
         all_goals
          replace F := aF g8_3 F; try replace F := aF g8_3p F
          iterate 10 refine no2 (k := ?_)
          refine hJ26 _ _ ?_; refine hK15 (()) _ _ ⟨kp, ?_, lp⟩
          · rw [hB4]
            simp [F]
            try (rw [Bool.eq_iff_iff]; simp)
            try omega
      case cx12 =>
       intro K12 hK12
       refine rg' (h := fun J27 hJ27 => ?_); refine ca (c := hfe _) (k := ?_); rintro _ _ ⟨rfl, rfl⟩; repeat (first | simp [F] | simp (disch := omega) only [wC, if_pos, if_neg])
       refine gs 46 (fun g6_4 => ?_) (fun g6_4 => ?_)
       · try exact nope g6_4
         all_goals have g6_4p := g6_4; try simp [F] at g6_4p
         all_goals
          replace F := aF g6_4 F; try replace F := aF g6_4p F
          iterate 4 refine no2 (k := ?_)
          refine hJ27 _ _ ?_; refine hK12 (()) _ _ ⟨kp, ?_, lp⟩
          · rw [hB3]
            simp [F]
            try rfl
       try exact nope g6_4
       all_goals have g6_4p := g6_4; try simp [F] at g6_4p
       all_goals
        replace F := aF g6_4 F; try replace F := aF g6_4p F
        iterate 2 refine go2 (k := ?_)
        refine ca (c := hco _) (k := ?_); rintro _ _ ⟨rfl, rfl⟩; repeat (first | simp [F] | simp (disch := omega) only [wC, if_pos, if_neg])
        refine go2 (k := ?_); refine hJ27 _ _ ?_; refine hK12 (()) _ _ ⟨kp, ?_, lp⟩
        · rw [hB3]
          simp [F]
          try rfl
    case cx9 =>
     intro K9 hK9
     refine rg' (h := fun J28 hJ28 => ?_); refine gs 26 (fun g4_3 => ?_) (fun g4_3 => ?_)
     · try exact nope g4_3
       all_goals have g4_3p := g4_3; try simp [F] at g4_3p
       all_goals
        replace F := aF g4_3 F; try replace F := aF g4_3p F
        have hq3 : ¬ x2.toNat < 200 := by have h := g4_3; simp at h; omega
        replace F := aF hq3 F; iterate 9 refine no2 (k := ?_)
        refine hJ28 _ _ ?_; refine hK9 (()) _ _ ⟨kp, ?_, lp⟩
        · rw [hB2]
          simp [F]
          try (rw [Bool.eq_iff_iff]; simp; omega)
     try exact nope g4_3
     all_goals have g4_3p := g4_3; try simp [F] at g4_3p
     all_goals
      replace F := aF g4_3 F; try replace F := aF g4_3p F
      have hq3 : x2.toNat < 200 := by have h := g4_3; simp at h; omega
      replace F := aF hq3 F; iterate 3 refine go2 (k := ?_)
      refine gs 31 (fun g4_8 => ?_) (fun g4_8 => ?_)
      · try exact nope g4_8
        all_goals have g4_8p := g4_8; try simp [F] at g4_8p
        all_goals
         replace F := aF g4_8 F; try replace F := aF g4_8p F
         have hq8 : ¬ x5.toNat < 200 := by have h := g4_8; simp at h; omega
         replace F := aF hq8 F; iterate 6 refine no2 (k := ?_)
         refine hJ28 _ _ ?_; refine hK9 (()) _ _ ⟨kp, ?_, lp⟩
         · rw [hB2]
           simp [F]
           try (rw [Bool.eq_iff_iff]; simp; omega)
      try exact nope g4_8
      all_goals have g4_8p := g4_8; try simp [F] at g4_8p
      all_goals
       replace F := aF g4_8 F; try replace F := aF g4_8p F
       have hq8 : x5.toNat < 200 := by have h := g4_8; simp at h; omega
       replace F := aF hq8 F; iterate 3 refine go2 (k := ?_)
       refine gs 36 (fun g4_13 => ?_) (fun g4_13 => ?_)
       · try exact nope g4_13
         all_goals have g4_13p := g4_13; try simp [F] at g4_13p
         all_goals
          replace F := aF g4_13 F; try replace F := aF g4_13p F
          have hq13 : ¬ x6.toNat < 16 := by have h := g4_13; simp at h; omega
          replace F := aF hq13 F; iterate 3 refine no2 (k := ?_)
          refine hJ28 _ _ ?_; refine hK9 (()) _ _ ⟨kp, ?_, lp⟩
          · rw [hB2]
            simp [F]
            try (rw [Bool.eq_iff_iff]; simp; omega)
       try exact nope g4_13
       all_goals have g4_13p := g4_13; try simp [F] at g4_13p
       all_goals
        replace F := aF g4_13 F; try replace F := aF g4_13p F
        have hq13 : x6.toNat < 16 := by have h := g4_13; simp at h; omega
        replace F := aF hq13 F; iterate 3 refine go2 (k := ?_)
        refine hJ28 _ _ ?_; refine hK9 (()) _ _ ⟨kp, ?_, lp⟩
        · rw [hB2]
          simp [F]
          try (rw [Bool.eq_iff_iff]; simp; omega)
  case cx6 =>
   intro K6 hK6
   refine run_draw (by kernel_rfl) fun J29 hJ29 => ?_
   refine rp2 0 (k := ?_); refine rp2 1 (k := ?_); refine rp2 2 (k := ?_); refine gd 15 (fun g2_2 => ?_) (fun g2_2 => ?_)
   · try exact nope g2_2
     all_goals have g2_2p := g2_2; try simp [F] at g2_2p
     all_goals
      replace F := aF g2_2 F; try replace F := aF g2_2p F
      refine rp2 3 (k := ?_); refine rp2 4 (k := ?_); refine dop 5 rfl ?_; repeat (first | simp [F] | simp (disch := omega) only [wC, if_pos, if_neg])
      refine dop 6 rfl ?_; repeat (first | simp [F] | simp (disch := omega) only [wC, if_pos, if_neg])
      refine rp2 7 (k := ?_); refine rp2 8 (k := ?_); refine rp2 9 (k := ?_); refine dd ?_; refine hJ29 _ _ ?_; refine hK6 (()) _ _ ⟨kp, ?_, lp⟩
      · rw [hB1]
        simp [F]
        try rfl
   try exact nope g2_2
   all_goals have g2_2p := g2_2; try simp [F] at g2_2p
   all_goals
    replace F := aF g2_2 F; try replace F := aF g2_2p F
    refine rp2 3 (k := ?_); refine rp2 4 (k := ?_); refine dc 5 rfl (c := hon _) (k := ?_); rintro _ _ ⟨rfl, rfl⟩
    refine ⟨by first | exact fun _ _ h => h | (refine later_list [3, 1, 0] (by kernel_rfl) (List.forall_mem_cons.2 ⟨fun _ => fact2 rfl rfl ?_, List.forall_mem_cons.2 ⟨fun _ => fact2 rfl rfl ?_, List.forall_mem_cons.2 ⟨fun _ => fact2 rfl rfl ?_, fun _ h => absurd h List.not_mem_nil⟩⟩⟩) <;> constructor <;> first | rfl | (simp [F]; done)), ?_⟩
    repeat (first | simp [F] | simp (disch := omega) only [wC, if_pos, if_neg])
    refine dc 6 rfl (c := hso _) (k := ?_); rintro _ _ ⟨rfl, rfl⟩
    refine ⟨by first | exact fun _ _ h => h | (refine later_list [1, 0] (by kernel_rfl) (List.forall_mem_cons.2 ⟨fun _ => fact2 rfl rfl ?_, List.forall_mem_cons.2 ⟨fun _ => fact2 rfl rfl ?_, fun _ h => absurd h List.not_mem_nil⟩⟩) <;> constructor <;> first | rfl | (simp [F]; done)), ?_⟩
    repeat (first | simp [F] | simp (disch := omega) only [wC, if_pos, if_neg])
    refine rp2 7 (k := ?_); refine rp2 8 (k := ?_); refine rp2 9 (k := ?_); refine dd ?_; refine hJ29 _ _ ?_; refine hK6 (()) _ _ ⟨kp, ?_, lp⟩
    · rw [hB1]
      simp [F]
      try rfl
end Go.Proofs.Ytdbaddholggkbaa

/-
  Lists of coins: what both readers make of a list's bytes.
-/
namespace Go.Proofs.Ytdbaddholggkbaa
set_option linter.unnecessarySimpa false
open Go Go.Vm
set_option linter.unusedSimpArgs false
set_option linter.unusedVariables false
set_option maxRecDepth 100000
attribute [local simp] evalL wantedA isCall opA evalA evalAll evalsA evalOpt ofValue ofCell plain binA_eql_pn binA_neq_pn binA_gtr binA_lss binA_geq binA_leq binA_add binA_sub binA_eql binA_neq binA_or binA_shl binA_shr binA_mul binA_quo binA_rem binA_agg_eql binA_agg_neq convA_int unA_not fieldAddrA loadA partA pickA_true pickA_false pickA_bb lenA builtinA storeA splice AV.cells AV.isCell sliceA boundA intA callOf indexAddrA newObjA buildA fillA zeroA ofCells indexA fieldA coinsC_at

def byteS (s : Option (List UInt8)) : UInt8 := (takeB 1 s).headD 0
theorem be_byteS (s : Option (List UInt8)) : be (takeB 1 s) = (byteS s).toNat := by
  have h := takeB_len 1 s
  unfold byteS
  match takeB 1 s, h with
  | [], _ => rfl
  | [b], _ => simp [be]
  | _ :: _ :: _, h => simp at h

theorem numOf_lt (p : List UInt8) : numOf p < 2 ^ 256 := by
  unfold numOf
  split
  · rename_i h
    simp only [numOk, Bool.and_eq_true, decide_eq_true_eq] at h
    exact Nat.lt_of_lt_of_le (be_lt p) (Nat.le_trans (Nat.pow_le_pow_right (by omega) h.1) (by decide))
  · decide

def numN (s : Option (List UInt8)) : Num := ⟨numOf (numB s), numOf_lt _⟩
def coinS (s : Option (List UInt8)) : Coin := ⟨byteS s, numN (takeS 1 s)⟩

def coinsGo : Nat → Option (List UInt8) → List Coin → List Coin × Option (List UInt8)
  | 0, s, l => (l, s)
  | _ + 1, none, l => (l, none)
  | m + 1, some p, l => coinsGo m (numS (takeS 1 (some p))) (l ++ [coinS (some p)])

theorem coinsGo_more {m : Nat} {s : Option (List UInt8)} {l : List Coin} (hm : 0 < m) (hs : ¬ s = none) : coinsGo m s l = coinsGo (m - 1) (numS (takeS 1 s)) (l ++ [coinS s]) := by
  match m, s, hm, hs with
  | m + 1, some p, _, _ => rfl
theorem coinsGo_stop {m : Nat} {s : Option (List UInt8)} {l : List Coin} (h : m = 0 ∨ s = none) : coinsGo m s l = (l, s) := by
  match m, s, h with
  | 0, _, _ => rfl
  | m + 1, none, _ => rfl

def coinsR (s : Option (List UInt8)) : List Coin × Option (List UInt8) := coinsGo (be (takeB 1 s)) (takeS 1 s) []
def coinsS (s : Option (List UInt8)) : Option (List UInt8) := if Right (coinsR s).1 then (coinsR s).2 else none
def coinsL (s : Option (List UInt8)) : List Coin := if coinsS s = none then [] else (coinsR s).1

def slA (k : Nat) (l : List Coin) : AV := if l = [] then .sl 0 [] 0 .full else .sl 5 (coinsC l) l.length (.own k)
def tkA (l : List Coin) : List Nat := if l = [] then [] else [l.length]

theorem wk_slA (k : Nat) (l : List Coin) : Wk (slA k l) (.sl 5 (coinsC l) l.length .shut) := by
  unfold slA
  split
  · rename_i h; subst h; exact Wk.nil _ _ _
  · exact Wk.shut _ _ _ _

@[simp] theorem slA_nil (k : Nat) : slA k [] = .sl 0 [] 0 .full := rfl
@[simp] theorem tkA_nil : tkA [] = [] := rfl

theorem right_slA {σ : St} {k : Nat} {l : List Coin} (hl : l.length ≤ 1000000) : CallsA Try.prog 97 [slA k l] σ (fun av σ' => av = .v (.bool (decide (Right l))) ∧ σ = σ') :=
  callsA_wk (.cons (wk_slA k l) .nil) (right_ok (by omega))
theorem right_nilA {σ : St} : CallsA Try.prog 97 [.sl 0 [] 0 .full] σ (fun av σ' => av = .v (.bool true) ∧ σ = σ') := by
  have := right_slA (σ := σ) (k := 0) (l := []) (by simp)
  have e : decide (Right []) = true := by decide
  rw [e] at this
  exact this
theorem coinS_cells (s : Option (List UInt8)) : AV.v (.int .u8 (be (takeB 1 s) : Nat)) :: numA (numOf (numB (takeS 1 s))) = coinC (coinS s) := by
  rw [be_byteS]; rfl
theorem build_coin (c : Coin) : buildSliceA Try.prog 23 1 [(0, .agg (coinC c))] = some (.sl 5 (coinC c) 1 .full) := by kernel_rfl
class Small (l : List Coin) : Prop where
  h : l.length ≤ 1000

theorem append_slA {l : List Coin} [hsm : Small l] {c : Coin} {objs : List (List AV)} {tk : List Nat} {gl : Nat → Option (List AV)} {rows : List RowSt} :
    appendA Try.prog 23 (slA tk.length l) (.sl 5 (coinC c) 1 .full) ⟨objs, tk ++ tkA l, gl, rows⟩ = some (slA tk.length (l ++ [c]), ⟨objs, tk ++ tkA (l ++ [c]), gl, rows⟩) := by
  have hl := hsm.h
  by_cases h : l = []
  · subst h
    simp [slA, tkA, appendA, readA, roomA, maxLen, coinsC]
    rfl
  · have h1 : (l.length + 1) * 40 ≤ 140737488355328 := by omega
    have h2 : l.length + 1 ≤ 9223372036854775807 := by omega
    simp [slA, tkA, h, appendA, readA, roomA, maxLen, h1, h2, coinsC_snoc]
    rfl
theorem append_nilA {c : Coin} {σ : St} : appendA Try.prog 23 (.sl 0 [] 0 .full) (.sl 5 (coinC c) 1 .full) σ = some (slA σ.toks.length [c], { σ with toks := σ.toks ++ tkA [c] }) := by
  have : Small [] := ⟨by simp⟩
  have := append_slA (l := []) (c := c) (objs := σ.objs) (tk := σ.toks) (gl := σ.gl) (rows := σ.rows)
  simpa using this

structure CSt where
  m : Nat
  s : Option (List UInt8)
  l : List Coin

theorem coinsR_none {s : Option (List UInt8)} {L : List Coin} {S : Option (List UInt8)} (h : coinsR s = (L, S)) (h2 : ¬ Right L ∨ S = none) : coinsL s = [] ∧ coinsS s = none := by
  have e : coinsS s = none := by
    unfold coinsS
    rw [h]
    rcases h2 with h2 | h2
    · rw [if_neg h2]
    · simp [h2]
  exact ⟨by simp [coinsL, e], e⟩
theorem coinsR_some {s : Option (List UInt8)} {L : List Coin} {S : Option (List UInt8)} (h : coinsR s = (L, S)) (h1 : Right L) (h2 : ¬ S = none) : coinsL s = L ∧ coinsS s = S := by
  have e : coinsS s = S := by
    unfold coinsS
    rw [h, if_pos h1]
  exact ⟨by rw [coinsL, e, if_neg h2, h], e⟩

set_option maxHeartbeats 1600000 in
attribute [local simp] undefA List.getElem?_cons_zero List.getElem?_cons_succ coinS_cells build_coin append_nilA append_slA in
theorem rcoins_raw {σ : St} {id : Nat} {s : Option (List UInt8)} (h : σ.objs[id]? = some (rd s)) :
    CallsA Try.prog 82 [.ptr id 0] σ (fun av σ' => av = .sl 5 (coinsC (coinsL s)) (coinsL s).length .shut ∧ σ' = { σ with objs := σ.objs.set id (rd (coinsS s)) }) := by
  refine callsA_gc_obj (Q := fun av σ' => Wk av (.sl 5 (coinsC (coinsL s)) (coinsL s).length .shut) ∧ ∃ l m r, σ' = { σ with objs := σ.objs.set id (rd (coinsS s)) ++ l, toks := σ.toks ++ m, rows := σ.rows ++ r }) ?_ (fun av σ' h => h) (by simp [AV.under]) (rd_under _ _)
  have hs := set_self_of h
  have hm := be_lt1 (takeB_len 1 s)
  have F := And.intro h (And.intro hs (True.intro))
  refine callsA_body Try.func82 rfl rfl rfl ?_; refine sq fun K1 hK1 => ?_; refine rg' (h := fun J2 hJ2 => ?_); refine hJ2 _ _ ?_; refine hK1 _ _ ?_; refine run_scope_jumpsF 0 (X := CSt) [0] (fun q ρ σ1 => (q.m + q.l.length ≤ 255) ∧ (coinsGo q.m q.s q.l = coinsR s) ∧ (ρ 4 = .v (.int .u8 q.m)) ∧ (ρ 3 = slA σ.toks.length q.l) ∧ (σ1 = { σ with objs := σ.objs.set id (rd q.s), toks := σ.toks ++ tkA q.l })) (fun q => q.m) rfl ?first ?pass
  case first =>
   refine sq fun K3 hK3 => ?_; refine rg' (h := fun J4 hJ4 => ?_); refine hJ4 _ _ ?_; refine hK3 _ _ ?_; refine sq fun K5 hK5 => ?_; refine rg' (h := fun J6 hJ6 => ?_)
   refine ca (c := byte_ok (by first | exact h | exact hs _)) (k := ?_)
   rintro _ _ ⟨rfl, rfl⟩; repeat (first | simp [F] | simp (disch := omega) only [wC, if_pos, if_neg])
   refine hJ6 _ _ ?_; refine hK5 _ _ ?_; refine sq fun K7 hK7 => ?_; refine run_label ?_; refine hK7 _ _ ?_; refine sq fun K8 hK8 => ?_; refine sq fun K9 hK9 => ?_; refine rg' (h := fun J10 hJ10 => ?_); refine gs 10 (fun g3_2 => ?_) (fun g3_2 => ?_)
   · try exact nope g3_2
     all_goals have g3_2p := g3_2; try simp [F] at g3_2p
     all_goals
      replace F := aF g3_2 F; try replace F := aF g3_2p F
      refine go2 (k := ?_); refine ca (c := bad_ok (hs _)) (k := ?_); rintro _ _ ⟨rfl, rfl⟩; repeat (first | simp [F] | simp (disch := omega) only [wC, if_pos, if_neg])
      refine go2 (k := ?_); refine hJ10 _ _ ?_; refine hK9 _ _ ?_; refine cs (fun c14 => ?_) (fun c14 => ?_)
      · try exact nope c14
        all_goals have c14p := c14; try simp [F] at c14p
        all_goals
         replace F := aF c14 F; try replace F := aF c14p F
         refine sq fun K11 hK11 => ?_; refine rg' (h := fun J12 hJ12 => ?_)
         refine ca (c := byte_ok (by first | exact h | exact hs _)) (k := ?_)
         rintro _ _ ⟨rfl, rfl⟩; repeat (first | simp [F] | simp (disch := omega) only [wC, if_pos, if_neg])
         refine hJ12 _ _ ?_; refine hK11 _ _ ?_; refine sq fun K13 hK13 => ?_; try have : Small q.l := ⟨by omega⟩
         refine rg' (h := fun J14 hJ14 => ?_); refine ca (c := num_ok (hs _)) (k := ?_); rintro _ _ ⟨rfl, rfl⟩; repeat (first | simp [F] | simp (disch := omega) only [wC, if_pos, if_neg])
         refine hJ14 _ _ ?_; refine hK13 _ _ ?_; refine sq fun K15 hK15 => ?_; refine rg' (h := fun J16 hJ16 => ?_); refine hJ16 _ _ ?_; refine hK15 _ _ ?_; refine run_goto ?_; refine ⟨rfl, (⟨be (takeB 1 s) - 1, numS (takeS 1 (takeS 1 s)), [coinS (takeS 1 s)]⟩), ⟨kp, lp, ?_, lp, lp, lp⟩⟩
         · exact (coinsGo_more (l := []) g3_2p (by intro e; simp [e] at c14p)).symm
      try exact nope c14
      all_goals have c14p := c14; try simp [F] at c14p
      all_goals
       replace F := aF c14 F; try replace F := aF c14p F
       refine run_skip ?_; refine hK8 _ _ ?_; refine sq fun K17 hK17 => ?_; refine sq fun K18 hK18 => ?_; refine rg' (h := fun J19 hJ19 => ?_)
       refine ca (c := (by first | exact right_nilA | exact right_slA (by omega))) (k := ?_)
       rintro _ _ ⟨rfl, rfl⟩; repeat (first | simp [F] | simp (disch := omega) only [wC, if_pos, if_neg])
       refine hJ19 _ _ ?_; refine hK18 _ _ ?_; refine cs (fun c28 => ?_) (fun c28 => ?_)
       · try exact nope c28
         all_goals have c28p := c28; try simp [F] at c28p
         all_goals
          replace F := aF c28 F; try replace F := aF c28p F
          refine rg' (h := fun J20 hJ20 => ?_); refine ca (c := fail_ok (hs _)) (k := ?_); rintro _ _ ⟨rfl, rfl⟩; repeat (first | simp [F] | simp (disch := omega) only [wC, if_pos, if_neg])
          refine hJ20 _ _ ?_; refine hK17 _ _ ?_; refine sq fun K21 hK21 => ?_; refine sq fun K22 hK22 => ?_; refine rg' (h := fun J23 hJ23 => ?_); refine ca (c := bad_ok (hs _)) (k := ?_); rintro _ _ ⟨rfl, rfl⟩; repeat (first | simp [F] | simp (disch := omega) only [wC, if_pos, if_neg])
          refine hJ23 _ _ ?_; refine hK22 _ _ ?_; refine cs (fun c32 => ?_) (fun c32 => ?_)
          · try exact nope c32
            all_goals have c32p := c32; try simp [F] at c32p
            all_goals
             replace F := aF c32 F; try replace F := aF c32p F
             refine sq fun K24 hK24 => ?_; refine rg' (h := fun J25 hJ25 => ?_); refine hJ25 _ _ ?_; refine hK24 _ _ ?_; refine run_ret ?_; try simp only [Then, InBlock, NoGoto]
             refine answer_tmp rfl (.inr rfl) ?_
             have e : coinsR s = (q.l, q.s) := by rw [← hg]; exact coinsGo_stop (by first | (left; simp at g3_2; omega) | (right; simpa using c14))
             obtain ⟨e1, e2⟩ := coinsR_none e (.inl (by simpa using c28))
             rw [e1, e2]
             exact ⟨Wk.nil _ _ _, [], tkA q.l, [], by simp⟩
          try exact nope c32
          all_goals have c32p := c32; try simp [F] at c32p
          all_goals
           replace F := aF c32 F; try replace F := aF c32p F
           refine run_skip ?_; refine hK21 _ _ ?_; refine sq fun K26 hK26 => ?_; refine rg' (h := fun J27 hJ27 => ?_); refine hJ27 _ _ ?_; refine hK26 _ _ ?_; refine run_ret ?_; try simp only [Then, InBlock, NoGoto]
           refine answer_tmp rfl (.inr rfl) ?_
           have e : coinsR s = (q.l, q.s) := by rw [← hg]; exact coinsGo_stop (by first | (left; simp at g3_2; omega) | (right; simpa using c14))
           obtain ⟨e1, e2⟩ := coinsR_none e (.inl (by simpa using c28))
           rw [e1, e2]
           exact ⟨Wk.nil _ _ _, [], tkA q.l, [], by simp⟩
       try exact nope c28
       all_goals have c28p := c28; try simp [F] at c28p
       all_goals
        replace F := aF c28 F; try replace F := aF c28p F
        refine run_skip ?_; refine hK17 _ _ ?_; refine sq fun K28 hK28 => ?_; refine sq fun K29 hK29 => ?_; refine rg' (h := fun J30 hJ30 => ?_); refine ca (c := bad_ok (hs _)) (k := ?_); rintro _ _ ⟨rfl, rfl⟩; repeat (first | simp [F] | simp (disch := omega) only [wC, if_pos, if_neg])
        refine hJ30 _ _ ?_; refine hK29 _ _ ?_; refine cs (fun c32 => ?_) (fun c32 => ?_)
        · try exact nope c32
          all_goals have c32p := c32; try simp [F] at c32p
          all_goals
           replace F := aF c32 F; try replace F := aF c32p F
           refine sq fun K31 hK31 => ?_; refine rg' (h := fun J32 hJ32 => ?_); refine hJ32 _ _ ?_; refine hK31 _ _ ?_; refine run_ret ?_; try simp only [Then, InBlock, NoGoto]
           refine answer_tmp rfl (.inr rfl) ?_
           first | (obtain ⟨e1, e2⟩ := coinsR_none (L := q.l) (S := q.s) (by rw [← hg]; exact coinsGo_stop (.inr (by simpa using c14))) (.inr (by simpa using c14)); rw [e1, e2]; exact ⟨Wk.nil _ _ _, [], tkA q.l, [], by simp⟩) | (have h0 : takeS 1 s = none := (by simpa using c14); obtain ⟨e1, e2⟩ := coinsR_none (by rw [coinsR, coinsGo_stop (.inr h0)]) (.inr h0); rw [e1, e2]; exact ⟨Wk.nil _ _ _, [], [], [], by simp⟩)
        try exact nope c32
        all_goals have c32p := c32; try simp [F] at c32p
        all_goals
         replace F := aF c32 F; try replace F := aF c32p F
         refine run_skip ?_; refine hK28 _ _ ?_; refine sq fun K33 hK33 => ?_; refine rg' (h := fun J34 hJ34 => ?_); refine hJ34 _ _ ?_; refine hK33 _ _ ?_; refine run_ret ?_; try simp only [Then, InBlock, NoGoto]
         refine answer_tmp rfl (.inr rfl) ?_
         first | (obtain ⟨e1, e2⟩ := coinsR_none (L := q.l) (S := q.s) (by rw [← hg]; exact coinsGo_stop (.inr (by simpa using c14))) (.inr (by simpa using c14)); rw [e1, e2]; exact ⟨Wk.nil _ _ _, [], tkA q.l, [], by simp⟩) | (have h0 : takeS 1 s = none := (by simpa using c14); obtain ⟨e1, e2⟩ := coinsR_none (by rw [coinsR, coinsGo_stop (.inr h0)]) (.inr h0); rw [e1, e2]; exact ⟨Wk.nil _ _ _, [], [], [], by simp⟩)
   try exact nope g3_2
   all_goals have g3_2p := g3_2; try simp [F] at g3_2p
   all_goals
    replace F := aF g3_2 F; try replace F := aF g3_2p F
    iterate 3 refine no2 (k := ?_)
    refine hJ10 _ _ ?_; refine hK9 _ _ ?_; refine cf ?_; refine run_skip ?_; refine hK8 _ _ ?_; refine sq fun K35 hK35 => ?_; refine sq fun K36 hK36 => ?_; refine rg' (h := fun J37 hJ37 => ?_)
    refine ca (c := (by first | exact right_nilA | exact right_slA (by omega))) (k := ?_)
    rintro _ _ ⟨rfl, rfl⟩; repeat (first | simp [F] | simp (disch := omega) only [wC, if_pos, if_neg])
    refine hJ37 _ _ ?_; refine hK36 _ _ ?_; refine cs (fun c28 => ?_) (fun c28 => ?_)
    · try exact nope c28
      all_goals have c28p := c28; try simp [F] at c28p
      all_goals
       replace F := aF c28 F; try replace F := aF c28p F
       refine rg' (h := fun J38 hJ38 => ?_); refine ca (c := fail_ok (hs _)) (k := ?_); rintro _ _ ⟨rfl, rfl⟩; repeat (first | simp [F] | simp (disch := omega) only [wC, if_pos, if_neg])
       refine hJ38 _ _ ?_; refine hK35 _ _ ?_; refine sq fun K39 hK39 => ?_; refine sq fun K40 hK40 => ?_; refine rg' (h := fun J41 hJ41 => ?_); refine ca (c := bad_ok (hs _)) (k := ?_); rintro _ _ ⟨rfl, rfl⟩; repeat (first | simp [F] | simp (disch := omega) only [wC, if_pos, if_neg])
       refine hJ41 _ _ ?_; refine hK40 _ _ ?_; refine cs (fun c32 => ?_) (fun c32 => ?_)
       · try exact nope c32
         all_goals have c32p := c32; try simp [F] at c32p
         all_goals
          replace F := aF c32 F; try replace F := aF c32p F
          refine sq fun K42 hK42 => ?_; refine rg' (h := fun J43 hJ43 => ?_); refine hJ43 _ _ ?_; refine hK42 _ _ ?_; refine run_ret ?_; try simp only [Then, InBlock, NoGoto]
          refine answer_tmp rfl (.inr rfl) ?_
          have e : coinsR s = (q.l, q.s) := by rw [← hg]; exact coinsGo_stop (by first | (left; simp at g3_2; omega) | (right; simpa using c14))
          obtain ⟨e1, e2⟩ := coinsR_none e (.inl (by simpa using c28))
          rw [e1, e2]
          exact ⟨Wk.nil _ _ _, [], tkA q.l, [], by simp⟩
       try exact nope c32
       all_goals have c32p := c32; try simp [F] at c32p
       all_goals
        replace F := aF c32 F; try replace F := aF c32p F
        refine run_skip ?_; refine hK39 _ _ ?_; refine sq fun K44 hK44 => ?_; refine rg' (h := fun J45 hJ45 => ?_); refine hJ45 _ _ ?_; refine hK44 _ _ ?_; refine run_ret ?_; try simp only [Then, InBlock, NoGoto]
        refine answer_tmp rfl (.inr rfl) ?_
        have e : coinsR s = (q.l, q.s) := by rw [← hg]; exact coinsGo_stop (by first | (left; simp at g3_2; omega) | (right; simpa using c14))
        obtain ⟨e1, e2⟩ := coinsR_none e (.inl (by simpa using c28))
        rw [e1, e2]
        exact ⟨Wk.nil _ _ _, [], tkA q.l, [], by simp⟩
    try exact nope c28
    all_goals have c28p := c28; try simp [F] at c28p
    all_goals
     replace F := aF c28 F; try replace F := aF c28p F
     refine run_skip ?_; refine hK35 _ _ ?_; refine sq fun K46 hK46 => ?_; refine sq fun K47 hK47 => ?_; refine rg' (h := fun J48 hJ48 => ?_); refine ca (c := bad_ok (hs _)) (k := ?_); rintro _ _ ⟨rfl, rfl⟩; repeat (first | simp [F] | simp (disch := omega) only [wC, if_pos, if_neg])
     refine hJ48 _ _ ?_; refine hK47 _ _ ?_; refine cs (fun c32 => ?_) (fun c32 => ?_)
     · try exact nope c32
       all_goals have c32p := c32; try simp [F] at c32p
       all_goals
        replace F := aF c32 F; try replace F := aF c32p F
        refine sq fun K49 hK49 => ?_; refine rg' (h := fun J50 hJ50 => ?_); refine hJ50 _ _ ?_; refine hK49 _ _ ?_; refine run_ret ?_; try simp only [Then, InBlock, NoGoto]
        refine answer_tmp rfl (.inr rfl) ?_
        first | (obtain ⟨e1, e2⟩ := coinsR_none (L := q.l) (S := q.s) (by rw [← hg]; exact coinsGo_stop (.inr (by simpa using c32))) (.inr (by simpa using c32)); rw [e1, e2]; exact ⟨Wk.nil _ _ _, [], tkA q.l, [], by simp⟩) | (have h0 : takeS 1 s = none := (by simpa using c32); obtain ⟨e1, e2⟩ := coinsR_none (by rw [coinsR, coinsGo_stop (.inr h0)]) (.inr h0); rw [e1, e2]; exact ⟨Wk.nil _ _ _, [], [], [], by simp⟩)
     try exact nope c32
     all_goals have c32p := c32; try simp [F] at c32p
     all_goals
      replace F := aF c32 F; try replace F := aF c32p F
      refine run_skip ?_; refine hK46 _ _ ?_; refine sq fun K51 hK51 => ?_; refine rg' (h := fun J52 hJ52 => ?_); refine hJ52 _ _ ?_; refine hK51 _ _ ?_; refine run_ret ?_; try simp only [Then, InBlock, NoGoto]
      refine answer_tmp rfl (.inr rfl) ?_
      first | (obtain ⟨e1, e2⟩ := coinsR_some (L := q.l) (S := q.s) (by rw [← hg]; exact coinsGo_stop (.inl (by simp at g3_2; omega))) (by simpa using c28) (by intro e; simp [e] at c32); rw [e1, e2]; exact ⟨wk_slA _ _, [], tkA q.l, [], by simp⟩) | (have h0 : be (takeB 1 s) = 0 := (by simp at g3_2; omega); obtain ⟨e1, e2⟩ := coinsR_some (by rw [coinsR, coinsGo_stop (.inl h0)]) (by decide) (by intro e; simp [e] at c32); rw [e1, e2]; exact ⟨Wk.nil _ _ _, [], [], [], by simp⟩)
  case pass =>
   rintro q ρgoto σ1 hFgoto ⟨hm, hg, h4, h3, hσ⟩; obtain rfl := hσ.symm
   have fgoto := keepL hFgoto
   try simp [KeepL, F] at fgoto
   replace F := aF h4 F; replace F := aF h3 F; try replace F := aF fgoto F
   refine sq fun K53 hK53 => ?_; refine run_skip ?_; refine hK53 _ _ ?_; refine sq fun K54 hK54 => ?_; refine sq fun K55 hK55 => ?_; refine rg' (h := fun J56 hJ56 => ?_); refine gs 10 (fun g3_2 => ?_) (fun g3_2 => ?_)
   · try exact nope g3_2
     all_goals have g3_2p := g3_2; try simp [F] at g3_2p
     all_goals
      replace F := aF g3_2 F; try replace F := aF g3_2p F
      refine go2 (k := ?_); refine ca (c := bad_ok (hs _)) (k := ?_); rintro _ _ ⟨rfl, rfl⟩; repeat (first | simp [F] | simp (disch := omega) only [wC, if_pos, if_neg])
      refine go2 (k := ?_); refine hJ56 _ _ ?_; refine hK55 _ _ ?_; refine cs (fun c14 => ?_) (fun c14 => ?_)
      · try exact nope c14
        all_goals have c14p := c14; try simp [F] at c14p
        all_goals
         replace F := aF c14 F; try replace F := aF c14p F
         refine sq fun K57 hK57 => ?_; refine rg' (h := fun J58 hJ58 => ?_)
         refine ca (c := byte_ok (by first | exact h | exact hs _)) (k := ?_)
         rintro _ _ ⟨rfl, rfl⟩; repeat (first | simp [F] | simp (disch := omega) only [wC, if_pos, if_neg])
         refine hJ58 _ _ ?_; refine hK57 _ _ ?_; refine sq fun K59 hK59 => ?_; try have : Small q.l := ⟨by omega⟩
         refine rg' (h := fun J60 hJ60 => ?_); refine ca (c := num_ok (hs _)) (k := ?_); rintro _ _ ⟨rfl, rfl⟩; repeat (first | simp [F] | simp (disch := omega) only [wC, if_pos, if_neg])
         refine hJ60 _ _ ?_; refine hK59 _ _ ?_; refine sq fun K61 hK61 => ?_; refine rg' (h := fun J62 hJ62 => ?_); refine hJ62 _ _ ?_; refine hK61 _ _ ?_; refine run_goto ?_; refine ⟨rfl, (⟨q.m - 1, numS (takeS 1 q.s), q.l ++ [coinS q.s]⟩), ⟨kp, ?_, ?_, lp, lp, ?_⟩, ?_⟩
         · simp
           omega
         · rw [← hg]
           exact (coinsGo_more g3_2p (by intro e; simp [e] at c14p)).symm
         · rfl
         · simp
           omega
      try exact nope c14
      all_goals have c14p := c14; try simp [F] at c14p
      all_goals
       replace F := aF c14 F; try replace F := aF c14p F
       refine run_skip ?_; refine hK54 _ _ ?_; refine sq fun K63 hK63 => ?_; refine sq fun K64 hK64 => ?_; refine rg' (h := fun J65 hJ65 => ?_)
       refine ca (c := (by first | exact right_nilA | exact right_slA (by omega))) (k := ?_)
       rintro _ _ ⟨rfl, rfl⟩; repeat (first | simp [F] | simp (disch := omega) only [wC, if_pos, if_neg])
       refine hJ65 _ _ ?_; refine hK64 _ _ ?_; refine cs (fun c28 => ?_) (fun c28 => ?_)
       · try exact nope c28
         all_goals have c28p := c28; try simp [F] at c28p
         all_goals
          replace F := aF c28 F; try replace F := aF c28p F
          refine rg' (h := fun J66 hJ66 => ?_); refine ca (c := fail_ok (hs _)) (k := ?_); rintro _ _ ⟨rfl, rfl⟩; repeat (first | simp [F] | simp (disch := omega) only [wC, if_pos, if_neg])
          refine hJ66 _ _ ?_; refine hK63 _ _ ?_; refine sq fun K67 hK67 => ?_; refine sq fun K68 hK68 => ?_; refine rg' (h := fun J69 hJ69 => ?_); refine ca (c := bad_ok (hs _)) (k := ?_); rintro _ _ ⟨rfl, rfl⟩; repeat (first | simp [F] | simp (disch := omega) only [wC, if_pos, if_neg])
          refine hJ69 _ _ ?_; refine hK68 _ _ ?_; refine cs (fun c32 => ?_) (fun c32 => ?_)
          · try exact nope c32
            all_goals have c32p := c32; try simp [F] at c32p
            all_goals
             replace F := aF c32 F; try replace F := aF c32p F
             refine sq fun K70 hK70 => ?_; refine rg' (h := fun J71 hJ71 => ?_); refine hJ71 _ _ ?_; refine hK70 _ _ ?_; refine run_ret ?_; try simp only [Then, InBlock, NoGoto]
             refine answer_tmp rfl (.inr rfl) ?_
             have e : coinsR s = (q.l, q.s) := by rw [← hg]; exact coinsGo_stop (by first | (left; simp at g3_2; omega) | (right; simpa using c14))
             obtain ⟨e1, e2⟩ := coinsR_none e (.inl (by simpa using c28))
             rw [e1, e2]
             exact ⟨Wk.nil _ _ _, [], tkA q.l, [], by simp⟩
          try exact nope c32
          all_goals have c32p := c32; try simp [F] at c32p
          all_goals
           replace F := aF c32 F; try replace F := aF c32p F
           refine run_skip ?_; refine hK67 _ _ ?_; refine sq fun K72 hK72 => ?_; refine rg' (h := fun J73 hJ73 => ?_); refine hJ73 _ _ ?_; refine hK72 _ _ ?_; refine run_ret ?_; try simp only [Then, InBlock, NoGoto]
           refine answer_tmp rfl (.inr rfl) ?_
           have e : coinsR s = (q.l, q.s) := by rw [← hg]; exact coinsGo_stop (by first | (left; simp at g3_2; omega) | (right; simpa using c14))
           obtain ⟨e1, e2⟩ := coinsR_none e (.inl (by simpa using c28))
           rw [e1, e2]
           exact ⟨Wk.nil _ _ _, [], tkA q.l, [], by simp⟩
       try exact nope c28
       all_goals have c28p := c28; try simp [F] at c28p
       all_goals
        replace F := aF c28 F; try replace F := aF c28p F
        refine run_skip ?_; refine hK63 _ _ ?_; refine sq fun K74 hK74 => ?_; refine sq fun K75 hK75 => ?_; refine rg' (h := fun J76 hJ76 => ?_); refine ca (c := bad_ok (hs _)) (k := ?_); rintro _ _ ⟨rfl, rfl⟩; repeat (first | simp [F] | simp (disch := omega) only [wC, if_pos, if_neg])
        refine hJ76 _ _ ?_; refine hK75 _ _ ?_; refine cs (fun c32 => ?_) (fun c32 => ?_)
        · try exact nope c32
          all_goals have c32p := c32; try simp [F] at c32p
          all_goals
           replace F := aF c32 F; try replace F := aF c32p F
           refine sq fun K77 hK77 => ?_; refine rg' (h := fun J78 hJ78 => ?_); refine hJ78 _ _ ?_; refine hK77 _ _ ?_; refine run_ret ?_; try simp only [Then, InBlock, NoGoto]
           refine answer_tmp rfl (.inr rfl) ?_
           first | (obtain ⟨e1, e2⟩ := coinsR_none (L := q.l) (S := q.s) (by rw [← hg]; exact coinsGo_stop (.inr (by simpa using c14))) (.inr (by simpa using c14)); rw [e1, e2]; exact ⟨Wk.nil _ _ _, [], tkA q.l, [], by simp⟩) | (have h0 : takeS 1 s = none := (by simpa using c14); obtain ⟨e1, e2⟩ := coinsR_none (by rw [coinsR, coinsGo_stop (.inr h0)]) (.inr h0); rw [e1, e2]; exact ⟨Wk.nil _ _ _, [], [], [], by simp⟩)
        try exact nope c32
        all_goals have c32p := c32; try simp [F] at c32p
        all_goals
         replace F := aF c32 F; try replace F := aF c32p F
         refine run_skip ?_; refine hK74 _ _ ?_; refine sq fun K79 hK79 => ?_; refine rg' (h := fun J80 hJ80 => ?_); refine hJ80 _ _ ?_; refine hK79 _ _ ?_; refine run_ret ?_; try simp only [Then, InBlock, NoGoto]
         refine answer_tmp rfl (.inr rfl) ?_
         first | (obtain ⟨e1, e2⟩ := coinsR_none (L := q.l) (S := q.s) (by rw [← hg]; exact coinsGo_stop (.inr (by simpa using c14))) (.inr (by simpa using c14)); rw [e1, e2]; exact ⟨Wk.nil _ _ _, [], tkA q.l, [], by simp⟩) | (have h0 : takeS 1 s = none := (by simpa using c14); obtain ⟨e1, e2⟩ := coinsR_none (by rw [coinsR, coinsGo_stop (.inr h0)]) (.inr h0); rw [e1, e2]; exact ⟨Wk.nil _ _ _, [], [], [], by simp⟩)
   try exact nope g3_2
   all_goals have g3_2p := g3_2; try simp [F] at g3_2p
   all_goals
    replace F := aF g3_2 F; try replace F := aF g3_2p F
    iterate 3 refine no2 (k := ?_)
    refine hJ56 _ _ ?_; refine hK55 _ _ ?_; refine cf ?_; refine run_skip ?_; refine hK54 _ _ ?_; refine sq fun K81 hK81 => ?_; refine sq fun K82 hK82 => ?_; refine rg' (h := fun J83 hJ83 => ?_)
    refine ca (c := (by first | exact right_nilA | exact right_slA (by omega))) (k := ?_)
    rintro _ _ ⟨rfl, rfl⟩; repeat (first | simp [F] | simp (disch := omega) only [wC, if_pos, if_neg])
    refine hJ83 _ _ ?_; refine hK82 _ _ ?_; refine cs (fun c28 => ?_) (fun c28 => ?_)
    · try exact nope c28
      all_goals have c28p := c28; try simp [F] at c28p
      all_goals
       replace F := aF c28 F; try replace F := aF c28p F
       refine rg' (h := fun J84 hJ84 => ?_); refine ca (c := fail_ok (hs _)) (k := ?_); rintro _ _ ⟨rfl, rfl⟩; repeat (first | simp [F] | simp (disch := omega) only [wC, if_pos, if_neg])
       refine hJ84 _ _ ?_; refine hK81 _ _ ?_; refine sq fun K85 hK85 => ?_; refine sq fun K86 hK86 => ?_; refine rg' (h := fun J87 hJ87 => ?_); refine ca (c := bad_ok (hs _)) (k := ?_); rintro _ _ ⟨rfl, rfl⟩; repeat (first | simp [F] | simp (disch := omega) only [wC, if_pos, if_neg])
       refine hJ87 _ _ ?_; refine hK86 _ _ ?_; refine cs (fun c32 => ?_) (fun c32 => ?_)
       · try exact nope c32
         all_goals have c32p := c32; try simp [F] at c32p
         all_goals
          replace F := aF c32 F; try replace F := aF c32p F
          refine sq fun K88 hK88 => ?_; refine rg' (h := fun J89 hJ89 => ?_); refine hJ89 _ _ ?_; refine hK88 _ _ ?_; refine run_ret ?_; try simp only [Then, InBlock, NoGoto]
          refine answer_tmp rfl (.inr rfl) ?_
          have e : coinsR s = (q.l, q.s) := by rw [← hg]; exact coinsGo_stop (by first | (left; simp at g3_2; omega) | (right; simpa using c14))
          obtain ⟨e1, e2⟩ := coinsR_none e (.inl (by simpa using c28))
          rw [e1, e2]
          exact ⟨Wk.nil _ _ _, [], tkA q.l, [], by simp⟩
       try exact nope c32
       all_goals have c32p := c32; try simp [F] at c32p
       all_goals
        replace F := aF c32 F; try replace F := aF c32p F
        refine run_skip ?_; refine hK85 _ _ ?_; refine sq fun K90 hK90 => ?_; refine rg' (h := fun J91 hJ91 => ?_); refine hJ91 _ _ ?_; refine hK90 _ _ ?_; refine run_ret ?_; try simp only [Then, InBlock, NoGoto]
        refine answer_tmp rfl (.inr rfl) ?_
        have e : coinsR s = (q.l, q.s) := by rw [← hg]; exact coinsGo_stop (by first | (left; simp at g3_2; omega) | (right; simpa using c14))
        obtain ⟨e1, e2⟩ := coinsR_none e (.inl (by simpa using c28))
        rw [e1, e2]
        exact ⟨Wk.nil _ _ _, [], tkA q.l, [], by simp⟩
    try exact nope c28
    all_goals have c28p := c28; try simp [F] at c28p
    all_goals
     replace F := aF c28 F; try replace F := aF c28p F
     refine run_skip ?_; refine hK81 _ _ ?_; refine sq fun K92 hK92 => ?_; refine sq fun K93 hK93 => ?_; refine rg' (h := fun J94 hJ94 => ?_); refine ca (c := bad_ok (hs _)) (k := ?_); rintro _ _ ⟨rfl, rfl⟩; repeat (first | simp [F] | simp (disch := omega) only [wC, if_pos, if_neg])
     refine hJ94 _ _ ?_; refine hK93 _ _ ?_; refine cs (fun c32 => ?_) (fun c32 => ?_)
     · try exact nope c32
       all_goals have c32p := c32; try simp [F] at c32p
       all_goals
        replace F := aF c32 F; try replace F := aF c32p F
        refine sq fun K95 hK95 => ?_; refine rg' (h := fun J96 hJ96 => ?_); refine hJ96 _ _ ?_; refine hK95 _ _ ?_; refine run_ret ?_; try simp only [Then, InBlock, NoGoto]
        refine answer_tmp rfl (.inr rfl) ?_
        first | (obtain ⟨e1, e2⟩ := coinsR_none (L := q.l) (S := q.s) (by rw [← hg]; exact coinsGo_stop (.inr (by simpa using c32))) (.inr (by simpa using c32)); rw [e1, e2]; exact ⟨Wk.nil _ _ _, [], tkA q.l, [], by simp⟩) | (have h0 : takeS 1 s = none := (by simpa using c32); obtain ⟨e1, e2⟩ := coinsR_none (by rw [coinsR, coinsGo_stop (.inr h0)]) (.inr h0); rw [e1, e2]; exact ⟨Wk.nil _ _ _, [], [], [], by simp⟩)
     try exact nope c32
     all_goals have c32p := c32; try simp [F] at c32p
     all_goals
      replace F := aF c32 F; try replace F := aF c32p F
      refine run_skip ?_; refine hK92 _ _ ?_; refine sq fun K97 hK97 => ?_; refine rg' (h := fun J98 hJ98 => ?_); refine hJ98 _ _ ?_; refine hK97 _ _ ?_; refine run_ret ?_; try simp only [Then, InBlock, NoGoto]
      refine answer_tmp rfl (.inr rfl) ?_
      first | (obtain ⟨e1, e2⟩ := coinsR_some (L := q.l) (S := q.s) (by rw [← hg]; exact coinsGo_stop (.inl (by simp at g3_2; omega))) (by simpa using c28) (by intro e; simp [e] at c32); rw [e1, e2]; exact ⟨wk_slA _ _, [], tkA q.l, [], by simp⟩) | (have h0 : be (takeB 1 s) = 0 := (by simp at g3_2; omega); obtain ⟨e1, e2⟩ := coinsR_some (by rw [coinsR, coinsGo_stop (.inl h0)]) (by decide) (by intro e; simp [e] at c32); rw [e1, e2]; exact ⟨Wk.nil _ _ _, [], [], [], by simp⟩)

theorem coinsGo_len : ∀ (m : Nat) (s : Option (List UInt8)) (l : List Coin), (coinsGo m s l).1.length ≤ m + l.length
  | 0, _, _ => by simp [coinsGo]
  | m + 1, none, l => by simp [coinsGo]
  | m + 1, some p, l => by
    have := coinsGo_len m (numS (takeS 1 (some p))) (l ++ [coinS (some p)])
    simp only [coinsGo, List.length_append, List.length_cons, List.length_nil] at this ⊢
    omega
theorem coinsL_le (s : Option (List UInt8)) : (coinsL s).length ≤ 255 := by
  unfold coinsL
  split
  · simp
  · have := coinsGo_len (be (takeB 1 s)) (takeS 1 s) []
    have hm := be_lt1 (takeB_len 1 s)
    simp only [List.length_nil] at this
    unfold coinsR
    omega

end Go.Proofs.Ytdbaddholggkbaa

/-
  The codec's writer, whatever it holds.
-/
namespace Go.Proofs.Ytdbaddholggkbaa
set_option linter.unnecessarySimpa false
open Go Go.Vm
set_option linter.unusedSimpArgs false
set_option linter.unusedVariables false
set_option maxRecDepth 100000
attribute [local simp] evalL wantedA isCall opA evalA evalAll evalsA evalOpt ofValue ofCell plain binA_eql_pn binA_neq_pn binA_gtr binA_lss binA_geq binA_leq binA_add binA_sub binA_eql binA_neq binA_or binA_shl binA_shr binA_mul binA_quo binA_rem binA_agg_eql binA_agg_neq convA_int unA_not fieldAddrA loadA partA pickA_true pickA_false pickA_bb lenA builtinA storeA splice AV.cells AV.isCell sliceA boundA intA callOf indexAddrA newObjA buildA fillA zeroA ofCells buildSliceA indexA fieldA coinsC_at

theorem callsA_gcO {σ : St} {P : Program} {f : FuncId} {args : List AV} {Q Q' : AV → St → Prop} (k : CallsA P f args σ Q) (h : ∀ av σ0, Q av σ0 → GoneO σ σ0 ∧ Q' (av.gcO σ.objs.length) (σ.trimO σ0)) : CallsA P f args σ Q' := by
  intro G w vs R hS hl hr hK
  refine k G w vs R hS hl hr (fun v av σ0 G' w' hq hE hS' hv => ?_)
  obtain ⟨hg, hq'⟩ := h av σ0 hq
  obtain ⟨hE2, hS2⟩ := hS.trimO hS' hE hg
  exact hK v _ _ _ _ hq' hE2 hS2 (hv.gcO hE hS.tot)

theorem callsA_gcOI {σ : St} {P : Program} {f : FuncId} {args : List AV} {A : AV} {ι : Type} {Pi : ι → Prop} {τ : ι → St} (k : CallsA P f args σ (fun av σ' => ∃ i, Pi i ∧ av = A ∧ ∃ l, σ' = { τ i with objs := (τ i).objs ++ l }))
    (hA : A.gcO σ.objs.length = A) (hl : ∀ i, (τ i).objs.length = σ.objs.length) (hgl : ∀ i, (τ i).gl = σ.gl) (hkp : ∀ i, Kp σ.objs.length σ.objs (τ i).objs) (hkr : ∀ i, KpR σ.objs.length σ.rows (τ i).rows) : CallsA P f args σ (fun av σ' => av = A ∧ ∃ i, Pi i ∧ σ' = τ i) := by
  refine callsA_gcO k (fun av σ0 ⟨i, hi, hv, l, h⟩ => ?_)
  subst h hv
  refine ⟨gone_kp (hgl i) (kp_more (hkp i)) (hkr i), hA, i, hi, ?_⟩
  have := hl i
  simp [St.trimO, ← this]

/-! ### What a writer holds -/
def wrA (k : Nat) (l : List UInt8) : AV := if l = [] then .sl 0 [] 0 .full else .sl 1 (bytesA l) l.length (.own k)
def Tk (tk : List Nat) (k : Nat) (l : List UInt8) : Prop := l = [] ∨ tk[k]? = some l.length

structure Wr (tk : List Nat) (k : Nat) (l : List UInt8) (tk' : List Nat) (k' : Nat) (l' : List UInt8) : Prop where
  tok : Tk tk' k' l'
  len : tk.length ≤ tk'.length
  keep : ∀ (j v : Nat), (l = [] ∨ j ≠ k) → tk[j]? = some v → tk'[j]? = some v
  own : l' = [] ∨ (k' = k ∧ l ≠ []) ∨ tk.length ≤ k'

theorem Wr.refl {tk : List Nat} {k : Nat} {l : List UInt8} (h : Tk tk k l) : Wr tk k l tk k l := ⟨h, Nat.le_refl _, fun _ _ _ h => h, by
  by_cases e : l = []
  · exact .inl e
  · exact .inr (.inl ⟨rfl, e⟩)⟩

theorem lt_get {l : List Nat} {i v : Nat} (h : l[i]? = some v) : i < l.length := (List.getElem?_eq_some_iff.1 h).1

theorem Wr.trans {tk tk1 tk2 : List Nat} {k k1 k2 : Nat} {l l1 l2 : List UInt8} (h : Wr tk k l tk1 k1 l1) (g : Wr tk1 k1 l1 tk2 k2 l2) : Wr tk k l tk2 k2 l2 := by
  refine ⟨g.tok, Nat.le_trans h.len g.len, fun j v hj hv => g.keep j v ?_ (h.keep j v hj hv), ?_⟩
  · have hlt := lt_get hv
    rcases h.own with e | ⟨e, e2⟩ | e
    · exact .inl e
    · rcases hj with hj | hj
      · exact absurd hj e2
      · exact .inr (by omega)
    · exact .inr (by omega)
  · rcases g.own with e | ⟨e, e2⟩ | e
    · exact .inl e
    · rcases h.own with e3 | ⟨e3, e4⟩ | e3
      · exact absurd e3 e2
      · exact .inr (.inl ⟨by omega, e4⟩)
      · exact .inr (.inr (by omega))
    · have := h.len
      exact .inr (.inr (by omega))

theorem Wr.pre {tk tk' : List Nat} {k k' : Nat} {l' : List UInt8} (h : Wr tk k [] tk' k' l') : ∃ m, tk' = tk ++ m := by
  refine ⟨tk'.drop tk.length, ?_⟩; refine List.ext_getElem? fun i => ?_
  by_cases hi : i < tk.length
  · rw [List.getElem?_append_left hi]
    rw [List.getElem?_eq_getElem hi]
    exact h.keep i _ (.inl rfl) (List.getElem?_eq_getElem hi)
  · rw [List.getElem?_append_right (by omega), List.getElem?_drop]
    congr 1; omega

theorem noObj_wrA' (n k : Nat) (l : List UInt8) : AV.noObj n (wrA k l) = true := by
  unfold wrA
  split <;> simp [noObjL, AV.noObj]
theorem noObj_wrA (n k : Nat) (l : List UInt8) : noObjL n [wrA k l] = true := by
  unfold wrA
  split <;> simp [noObjL, AV.noObj]

def WP (id : Nat) (σ : St) (k : Nat) (l q : List UInt8) : AV → St → Prop := fun av σ' => av = .ptr id 0 ∧ ∃ k' tk', Wr σ.toks k l tk' k' (l ++ q) ∧ σ' = { σ with objs := σ.objs.set id [wrA k' (l ++ q)], toks := tk' }

theorem lay_ok {σ : St} {id k : Nat} {l q : List UInt8} {tq : Tail} (h : σ.objs[id]? = some [wrA k l]) (ht : Tk σ.toks k l) (hne : l ++ q ≠ []) (hl : l.length ≤ 1000000) (hq : q.length ≤ 1000000) :
    CallsA Try.prog 129 [.ptr id 0, .sl 1 (bytesA q) q.length tq] σ (WP id σ k l q) := by
  by_cases e : l = []
  · subst e
    refine callsA_mono (lay_new (by simpa [wrA] using h) hq) (fun av σ' ⟨h1, h2⟩ => ⟨h1, σ.toks.length, σ.toks ++ [q.length], ⟨.inr ?_, ?_, fun j v _ hj => ?_, .inr (.inr (Nat.le_refl _))⟩, ?_⟩)
    · simp
    · simp
    · rw [List.getElem?_append_left (lt_get hj)]; exact hj
    · rw [h2]; simp at hne; simp [wrA, hne]
  · have hk := ht.resolve_left e
    refine callsA_mono (lay_more (by simpa [wrA, e] using h) hk hl hq) (fun av σ' ⟨h1, h2⟩ => ⟨h1, k, σ.toks.set k (l ++ q).length, ⟨.inr (set_self_of hk _), by simp, fun j v hj hv => ?_, .inr (.inl ⟨rfl, e⟩)⟩, ?_⟩)
    · rw [List.getElem?_set_ne (Ne.symm (hj.resolve_left e))]; exact hv
    · rw [h2]; simp [wrA, e]

set_option maxHeartbeats 1600000 in
attribute [local simp] undefA List.getElem?_cons_zero List.getElem?_cons_succ in
theorem wbyte_ok {σ : St} {id k : Nat} {l : List UInt8} {b : UInt8} (h : σ.objs[id]? = some [wrA k l]) (ht : Tk σ.toks k l) (hl : l.length ≤ 1000000) :
    CallsA Try.prog 88 [.ptr id 0, .v (.int .u8 b.toNat)] σ (WP id σ k l [b]) := by
  have hv : (Value.int IntKind.u8 0).cells.size = 1 := rfl
  have F := And.intro hv (True.intro)
  refine callsA_body Try.func88 rfl rfl rfl ?_; refine sq fun K1 hK1 => ?_; refine rg' (h := fun J2 hJ2 => ?_); refine hJ2 _ _ ?_; refine hK1 _ _ ?_; refine sq fun K3 hK3 => ?_; refine rg' (h := fun J4 hJ4 => ?_)
  refine ca (c := lay_ok (q := [b]) h ht (by simp) hl (by simp)) (k := ?_)
  rintro _ _ ⟨rfl, k1, tk1, hw1, rfl⟩; repeat (first | simp [F] | simp (disch := omega) only [wC, if_pos, if_neg])
  refine hJ4 _ _ ?_; refine hK3 _ _ ?_; refine run_ret ?_; try simp only [Then, InBlock, NoGoto]
  refine answer_tmp rfl (.inr rfl) ?_
  exact ⟨rfl, k1, tk1, hw1, rfl⟩

set_option maxHeartbeats 1600000 in
attribute [local simp] undefA List.getElem?_cons_zero List.getElem?_cons_succ in
theorem wflag_ok {σ : St} {id k : Nat} {l : List UInt8} {b : Bool} (h : σ.objs[id]? = some [wrA k l]) (ht : Tk σ.toks k l) (hl : l.length ≤ 1000000) :
    CallsA Try.prog 105 [.ptr id 0, .v (.bool b)] σ (WP id σ k l [if b then 1 else 0]) := by
  have hv : (Value.int IntKind.u8 0).cells.size = 1 := rfl
  have F := And.intro hv (True.intro)
  refine callsA_body Try.func105 rfl rfl rfl ?_; refine sq fun K1 hK1 => ?_; refine rg' (h := fun J2 hJ2 => ?_); refine hJ2 _ _ ?_; refine hK1 _ _ ?_; refine sq fun K3 hK3 => ?_; refine sq fun K4 hK4 => ?_; refine rg' (h := fun J5 hJ5 => ?_); refine hJ5 _ _ ?_; refine hK4 _ _ ?_; refine cs (fun c5 => ?_) (fun c5 => ?_)
  · try exact nope c5
    all_goals have c5p := c5; try simp [F] at c5p
    all_goals
     replace F := aF c5 F; try replace F := aF c5p F
     refine sq fun K6 hK6 => ?_; refine rg' (h := fun J7 hJ7 => ?_)
     refine ca (c := lay_ok (q := [1]) h ht (by simp) hl (by simp)) (k := ?_)
     rintro _ _ ⟨rfl, k1, tk1, hw1, rfl⟩; repeat (first | simp [F] | simp (disch := omega) only [wC, if_pos, if_neg])
     refine hJ7 _ _ ?_; refine hK6 _ _ ?_; refine run_ret ?_; try simp only [Then, InBlock, NoGoto]
     refine answer_tmp rfl (.inr rfl) ?_
     have e : b = true := (by simpa using c5)
     subst e
     exact ⟨rfl, k1, tk1, hw1, rfl⟩
  try exact nope c5
  all_goals have c5p := c5; try simp [F] at c5p
  all_goals
   replace F := aF c5 F; try replace F := aF c5p F
   refine run_skip ?_; refine hK3 _ _ ?_; refine sq fun K8 hK8 => ?_; refine rg' (h := fun J9 hJ9 => ?_)
   refine ca (c := lay_ok (q := [0]) h ht (by simp) hl (by simp)) (k := ?_)
   rintro _ _ ⟨rfl, k1, tk1, hw1, rfl⟩; repeat (first | simp [F] | simp (disch := omega) only [wC, if_pos, if_neg])
   refine hJ9 _ _ ?_; refine hK8 _ _ ?_; refine run_ret ?_; try simp only [Then, InBlock, NoGoto]
   refine answer_tmp rfl (.inr rfl) ?_
   have e : b = false := (by simpa using c5)
   subst e
   exact ⟨rfl, k1, tk1, hw1, rfl⟩

def encN (x : Nat) : List UInt8 := UInt8.ofNat (natBytes x).length :: natBytes x

set_option maxHeartbeats 1600000 in
attribute [local simp] undefA List.getElem?_cons_zero List.getElem?_cons_succ in
theorem wnum_ok {σ : St} {id k x : Nat} {l : List UInt8} (h : σ.objs[id]? = some [wrA k l]) (ht : Tk σ.toks k l) (hx : x < 2 ^ 256) (hl : l.length ≤ 900000) :
    CallsA Try.prog 103 [.ptr id 0, .agg (numA x)] σ (WP id σ k l (encN x)) := by
  have hlt := lt_of_get h
  refine callsA_mono (callsA_gcOI (A := .ptr id 0) (Pi := fun i : Nat × List Nat => Wr σ.toks k l i.2 i.1 (l ++ encN x)) (τ := fun i => { σ with objs := σ.objs.set id [wrA i.1 (l ++ encN x)], toks := i.2 }) ?_ (by simp [AV.gcO, hlt]) (fun _ => by simp) (fun _ => rfl) (fun _ => kp_set (kp_refl _) (noObj_wrA _ _ _)) (fun _ => kpr_refl _)) (fun av σ' ⟨h1, i, h2, h3⟩ => ⟨h1, i.1, i.2, h2, h3⟩)
  have hs := set_self_of h
  have hlen : (natBytes x).length ≤ 32 := natBytes_len x 32 (by simpa using hx)
  obtain ⟨c, hc⟩ : ∃ c, c = UInt8.ofNat (natBytes x).length := ⟨_, rfl⟩
  have hcn : c.toNat = (natBytes x).length := by rw [hc]; exact toNat_ofNat (by omega)
  have hw : IntKind.u8.wrap ((natBytes x).length : Int) = (c.toNat : Int) := by rw [wrap_u8, hcn, Nat.mod_eq_of_lt (by omega)]
  have ho1 : ∀ r, (σ.objs ++ r)[id]? = some [wrA k l] := fun r => by rw [List.getElem?_append_left hlt]; exact h
  have ho2 : ∀ x r, (σ.objs.set id x ++ r)[id]? = some x := fun x r => by rw [List.getElem?_append_left (by simpa using hlt)]; exact hs x
  have ho3 : ∀ x r, (σ.objs ++ r).set id x = σ.objs.set id x ++ r := fun x r => List.set_append_left _ _ hlt
  have ho4 : ∀ x y r, (σ.objs.set id y ++ r).set id x = σ.objs.set id x ++ r := fun x y r => by rw [List.set_append_left _ _ (by simpa using hlt), List.set_set]
  have hv : (Value.int IntKind.u8 0).cells.size = 1 := rfl
  have F := And.intro hw (And.intro hv (And.intro ho1 (And.intro ho2 (And.intro ho3 (And.intro ho4 (True.intro))))))
  refine callsA_body Try.func103 rfl rfl rfl ?_; refine sq fun K1 hK1 => ?_; refine rg' (h := fun J2 hJ2 => ?_); refine hJ2 _ _ ?_; refine hK1 _ _ ?_; refine sq fun K3 hK3 => ?_; refine rg' (h := fun J4 hJ4 => ?_); refine ca (c := bytes_ok hx) (k := ?_); rintro _ _ ⟨rfl, rfl⟩; repeat (first | simp [F] | simp (disch := omega) only [wC, if_pos, if_neg])
  refine hJ4 _ _ ?_; refine hK3 _ _ ?_; refine sq fun K5 hK5 => ?_; refine rg' (h := fun J6 hJ6 => ?_)
  refine ca (c := lay_ok (q := [c]) (ho1 _) ht (by simp) (by omega) (by simp)) (k := ?_)
  rintro _ _ ⟨rfl, k1, tk1, hw1, rfl⟩; repeat (first | simp [F] | simp (disch := omega) only [wC, if_pos, if_neg])
  refine ca (c := lay_ok (l := l ++ [c]) (k := k1) (ho2 _ _) hw1.tok (by simp) (by simp; omega) (by omega)) (k := ?_)
  rintro _ _ ⟨rfl, k2, tk2, hw2, rfl⟩; repeat (first | simp [F] | simp (disch := omega) only [wC, if_pos, if_neg])
  refine hJ6 _ _ ?_; refine hK5 _ _ ?_; refine run_ret ?_; try simp only [Then, InBlock, NoGoto]
  refine answer_tmp rfl (.inr rfl) ?_
  have e : l ++ [c] ++ natBytes x = l ++ encN x := (by simp [encN, hc])
  rw [e] at hw2
  have e2 : c :: natBytes x = encN x := (by simp [encN, hc])
  simp only [e2]
  exact ⟨(k2, tk2), hw1.trans hw2, rfl, _, rfl⟩

def nBytes (size n : Nat) : List UInt8 := (List.range size).map fun j => UInt8.ofNat (n / 2 ^ (8 * (size - 1 - j)) % 256)
theorem nBytes_len (size n : Nat) : (nBytes size n).length = size := by simp [nBytes]

structure WSt where
  j : Nat
  k : Nat
  tk : List Nat

set_option maxHeartbeats 1600000 in
attribute [local simp] undefA List.getElem?_cons_zero List.getElem?_cons_succ in
theorem wnumber_ok {σ : St} {id k n size : Nat} {l : List UInt8} (h : σ.objs[id]? = some [wrA k l]) (ht : Tk σ.toks k l) (hn : n < 2 ^ 64) (hsz : size ≤ 8) (hl : l.length ≤ 900000) :
    CallsA Try.prog 87 [.ptr id 0, .v (.int .u64 n), .v (.int .i64 size)] σ (WP id σ k l (nBytes size n)) := by
  have hs := set_self_of h
  have hs0 := St.set_same h
  have hv : (Value.int IntKind.u8 0).cells.size = 1 := rfl
  have F := And.intro hv (True.intro)
  refine callsA_body Try.func87 rfl rfl rfl ?_; refine sq fun K1 hK1 => ?_; refine rg' (h := fun J2 hJ2 => ?_); refine hJ2 _ _ ?_; refine hK1 _ _ ?_; refine sq fun K3 hK3 => ?_; refine sq fun K4 hK4 => ?_; refine rg' (h := fun J5 hJ5 => ?_); refine hJ5 _ _ ?_; refine hK4 _ _ ?_; refine run_block_k ?_
  refine run_loopF (X := WSt) [1, 6] (fun q ρ σ1 => (q.j ≤ size) ∧ (Wr σ.toks k l q.tk q.k (l ++ (nBytes size n).take q.j)) ∧ (ρ 0 = .ptr id 0) ∧ (ρ 7 = .v (.int .i64 ((size : Int) - 1 - q.j))) ∧ (σ1 = { σ with objs := σ.objs.set id [wrA q.k (l ++ (nBytes size n).take q.j)], toks := q.tk })) (fun q => size - q.j) (⟨0, k, σ.toks⟩) ?st1 ?rd1
  case st1 =>
   refine ⟨lp, ?_, lp, lp, ?_⟩
   · simpa using Wr.refl ht
   · simpa using hs0.symm
  case rd1 =>
   rintro q ρ1 σ1 hF1 ⟨hj, hw, h0, h7, hσ⟩; obtain rfl := hσ.symm
   have f1 := keepL hF1
   try simp [KeepL, F] at f1
   replace F := aF h0 F; replace F := aF h7 F; try replace F := aF f1 F
   refine sq fun K6 hK6 => ?_; refine sq fun K7 hK7 => ?_; refine rg' (h := fun J8 hJ8 => ?_); refine hJ8 _ _ ?_; refine hK7 _ _ ?_; refine cs (fun c11 => ?_) (fun c11 => ?_)
   · try exact nope c11
     all_goals have c11p := c11; try simp [F] at c11p
     all_goals
      replace F := aF c11 F; try replace F := aF c11p F
      refine run_skip ?_; refine hK6 _ _ ?_; refine sq fun K9 hK9 => ?_; refine run_block_k ?_
      obtain ⟨i, hi⟩ : ∃ i, i = size - 1 - q.j := ⟨_, rfl⟩
      have he : (size : Int) - 1 - q.j = (i : Int) := by omega
      have hi8 : i < 8 := by omega
      obtain ⟨b, hb⟩ : ∃ b, b = UInt8.ofNat (n / 2 ^ (8 * i) % 256) := ⟨_, rfl⟩
      have hbn : b.toNat = n / 2 ^ (8 * i) % 256 := by rw [hb]; exact toNat_ofNat (by omega)
      have hnx : (nBytes size n).take (q.j + 1) = (nBytes size n).take q.j ++ [b] := by rw [take_snoc (by rw [nBytes_len]; omega)]; simp [nBytes, hb, hi]
      have htl : ((nBytes size n).take q.j).length ≤ 8 := by simp [nBytes_len]; omega
      have hnn : ¬ 8 * (i : Int) < 0 := by omega
      have hsh : Int.fdiv (n : Int) (2 ^ (min (8 * (i : Int)).toNat 64)) = ((n / 2 ^ (8 * i) : Nat) : Int) := by rw [show min (8 * (i : Int)).toNat 64 = 8 * i by omega, Int.fdiv_eq_ediv_of_nonneg _ (by exact Int.le_of_lt (Int.pow_pos (by omega)))]; simp
      have hcv : IntKind.u8.wrap ((n / 2 ^ (8 * i) : Nat) : Int) = (b.toNat : Int) := by rw [wrap_u8, hbn]
      generalize n / 2 ^ (8 * i) = z at *
      replace F := aF he F; replace F := aF hnn F; replace F := aF hsh F; replace F := aF hcv F; refine rg' (h := fun J10 hJ10 => ?_)
      refine ca (c := lay_ok (q := [b]) (hs _) hw.tok (by simp) (by simp; omega) (by simp)) (k := ?_)
      rintro _ _ ⟨rfl, k1, tk1, hw1, rfl⟩; repeat (first | simp [F] | simp (disch := omega) only [wC, if_pos, if_neg])
      refine hJ10 _ _ ?_; refine hK9 _ _ ?_; refine rg' (h := fun J11 hJ11 => ?_); refine hJ11 _ _ ?_; refine ⟨(⟨q.j + 1, k1, tk1⟩), ⟨kp, lp, ?_, lp, ?_, ?_⟩, lp⟩
      · have hq2 := hw.trans hw1
        rw [List.append_assoc, ← hnx] at hq2
        exact hq2
      · simp
        omega
      · simp [hnx]
   try exact nope c11
   all_goals have c11p := c11; try simp [F] at c11p
   all_goals
    replace F := aF c11 F; try replace F := aF c11p F
    refine run_exit ?_; refine hK3 _ _ ?_; refine sq fun K12 hK12 => ?_; refine rg' (h := fun J13 hJ13 => ?_); refine hJ13 _ _ ?_; refine hK12 _ _ ?_; refine run_ret ?_; try simp only [Then, InBlock, NoGoto]
    refine answer_tmp rfl (.inr rfl) ?_
    have hfull : (nBytes size n).take q.j = nBytes size n := List.take_of_length_le (by rw [nBytes_len]; simp at c11; omega)
    rw [hfull] at hw
    rw [hfull]
    exact ⟨by simp [F], q.k, q.tk, hw, rfl⟩

set_option maxHeartbeats 1600000 in
attribute [local simp] undefA List.getElem?_cons_zero List.getElem?_cons_succ in
theorem wshort_ok {σ : St} {id k n : Nat} {l : List UInt8} (h : σ.objs[id]? = some [wrA k l]) (ht : Tk σ.toks k l) (hn : n < 2 ^ 16) (hl : l.length ≤ 900000) :
    CallsA Try.prog 104 [.ptr id 0, .v (.int .u16 n)] σ (WP id σ k l (nBytes 2 n)) := by
  have F := True.intro
  refine callsA_body Try.func104 rfl rfl rfl ?_; refine sq fun K1 hK1 => ?_; refine rg' (h := fun J2 hJ2 => ?_); refine hJ2 _ _ ?_; refine hK1 _ _ ?_; refine sq fun K3 hK3 => ?_; refine rg' (h := fun J4 hJ4 => ?_)
  refine ca (c := wnumber_ok (size := 2) h ht (by omega) (by omega) hl) (k := ?_)
  rintro _ _ ⟨rfl, k1, tk1, hw1, rfl⟩; repeat (first | simp [F] | simp (disch := omega) only [wC, if_pos, if_neg])
  refine hJ4 _ _ ?_; refine hK3 _ _ ?_; refine run_ret ?_; try simp only [Then, InBlock, NoGoto]
  refine answer_tmp rfl (.inr rfl) ?_
  exact ⟨rfl, k1, tk1, hw1, rfl⟩

set_option maxHeartbeats 1600000 in
attribute [local simp] undefA List.getElem?_cons_zero List.getElem?_cons_succ in
theorem wlong_ok {σ : St} {id k n : Nat} {l : List UInt8} (h : σ.objs[id]? = some [wrA k l]) (ht : Tk σ.toks k l) (hn : n < 2 ^ 64) (hl : l.length ≤ 900000) :
    CallsA Try.prog 39 [.ptr id 0, .v (.int .u64 n)] σ (WP id σ k l (nBytes 8 n)) := by
  have F := True.intro
  refine callsA_body Try.func39 rfl rfl rfl ?_; refine sq fun K1 hK1 => ?_; refine rg' (h := fun J2 hJ2 => ?_); refine hJ2 _ _ ?_; refine hK1 _ _ ?_; refine sq fun K3 hK3 => ?_; refine rg' (h := fun J4 hJ4 => ?_)
  refine ca (c := wnumber_ok (size := 8) h ht hn (by omega) hl) (k := ?_)
  rintro _ _ ⟨rfl, k1, tk1, hw1, rfl⟩; repeat (first | simp [F] | simp (disch := omega) only [wC, if_pos, if_neg])
  refine hJ4 _ _ ?_; refine hK3 _ _ ?_; refine run_ret ?_; try simp only [Then, InBlock, NoGoto]
  refine answer_tmp rfl (.inr rfl) ?_
  exact ⟨rfl, k1, tk1, hw1, rfl⟩

def encC (c : Coin) : List UInt8 := c.d :: encN c.n.v
def encCs (l : List Coin) : List UInt8 := l.flatMap encC
def encL (l : List Coin) : List UInt8 := UInt8.ofNat l.length :: encCs l

theorem encC_len (c : Coin) : (encC c).length ≤ 34 := by
  have := natBytes_len c.n.v 32 (by simpa using c.n.h)
  simp [encC, encN]; omega
theorem encCs_len : ∀ l : List Coin, (encCs l).length ≤ 34 * l.length
  | [] => by simp [encCs]
  | c :: l => by
    have h1 := encC_len c
    have h2 := encCs_len l
    simp [encCs] at h2 ⊢
    omega
theorem encCs_snoc (l : List Coin) (c : Coin) : encCs (l ++ [c]) = encCs l ++ encC c := by simp [encCs]

set_option maxHeartbeats 1600000 in
attribute [local simp] undefA List.getElem?_cons_zero List.getElem?_cons_succ noObj_wrA noObj_wrA' coinC in
theorem wcoins_ok {σ : St} {id k : Nat} {l : List UInt8} {L : List Coin} {tL : Tail} (h : σ.objs[id]? = some [wrA k l]) (ht : Tk σ.toks k l) (hL : L.length ≤ 255) (hl : l.length ≤ 500000) :
    CallsA Try.prog 89 [.ptr id 0, .sl 5 (coinsC L) L.length tL] σ (WP id σ k l (encL L)) := by
  have hlt := lt_of_get h
  refine callsA_mono (callsA_gcOI (A := .ptr id 0) (Pi := fun i : Nat × List Nat => Wr σ.toks k l i.2 i.1 (l ++ encL L)) (τ := fun i => { σ with objs := σ.objs.set id [wrA i.1 (l ++ encL L)], toks := i.2 }) ?_ (by simp [AV.gcO, hlt]) (fun _ => by simp) (fun _ => rfl) (fun _ => kp_set (kp_refl _) (noObj_wrA _ _ _)) (fun _ => kpr_refl _)) (fun av σ' ⟨h1, i, h2, h3⟩ => ⟨h1, i.1, i.2, h2, h3⟩)
  have hs := set_self_of h
  obtain ⟨c, hc⟩ : ∃ c, c = UInt8.ofNat L.length := ⟨_, rfl⟩
  have hcn : c.toNat = L.length := by rw [hc]; exact toNat_ofNat (by omega)
  have hw : IntKind.u8.wrap (L.length : Int) = (c.toNat : Int) := by rw [wrap_u8, hcn, Nat.mod_eq_of_lt (by omega)]
  have ho1 : ∀ r, (σ.objs ++ r)[id]? = some [wrA k l] := fun r => by rw [List.getElem?_append_left hlt]; exact h
  have ho2 : ∀ x r, (σ.objs.set id x ++ r)[id]? = some x := fun x r => by rw [List.getElem?_append_left (by simpa using hlt)]; exact hs x
  have ho3 : ∀ x r, (σ.objs ++ r).set id x = σ.objs.set id x ++ r := fun x r => List.set_append_left _ _ hlt
  have ho4 : ∀ x y r, (σ.objs.set id y ++ r).set id x = σ.objs.set id x ++ r := fun x y r => by rw [List.set_append_left _ _ (by simpa using hlt), List.set_set]
  have hv : (Value.int IntKind.u8 0).cells.size = 1 := rfl
  have F := And.intro hw (And.intro hv (And.intro ho1 (And.intro ho2 (And.intro ho3 (And.intro ho4 (And.intro hlt (True.intro)))))))
  refine callsA_body Try.func89 rfl rfl rfl ?_; refine sq fun K1 hK1 => ?_; refine rg' (h := fun J2 hJ2 => ?_); refine hJ2 _ _ ?_; refine hK1 _ _ ?_; refine sq fun K3 hK3 => ?_; refine rg' (h := fun J4 hJ4 => ?_)
  refine ca (c := lay_ok (q := [c]) h ht (by simp) (by omega) (by simp)) (k := ?_)
  rintro _ _ ⟨rfl, k1, tk1, hw1, rfl⟩; repeat (first | simp [F] | simp (disch := omega) only [wC, if_pos, if_neg])
  refine hJ4 _ _ ?_; refine hK3 _ _ ?_; refine sq fun K5 hK5 => ?_; refine sq fun K6 hK6 => ?_; refine rg' (h := fun J7 hJ7 => ?_); refine hJ7 _ _ ?_; refine hK6 _ _ ?_; refine run_block_k ?_; refine run_loopG (X := WSt) [4, 13, 14] (fun q ρ σ1 => (q.j ≤ L.length) ∧ (Wr σ.toks k l q.tk q.k (l ++ c :: encCs (L.take q.j))) ∧ (ρ 0 = .ptr id 0) ∧ (ρ 15 = .v (.int .i64 q.j)) ∧ (σ1 = { σ with objs := σ.objs.set id [wrA q.k (l ++ c :: encCs (L.take q.j))], toks := q.tk })) (fun q => L.length - q.j) (⟨0, k1, tk1⟩) ?st1 ?rd1
  case st1 =>
   refine ⟨lp, ?_, lp, lp, ?_⟩
   · simpa [encCs] using hw1
   · simp [encCs]
  case rd1 =>
   rintro q ρ1 σ1 hF1 ⟨hj, hq, h0, h15, hσ⟩; obtain rfl := hσ.symm
   have f1 := keepL hF1
   try simp [KeepL, F] at f1
   replace F := aF h0 F; replace F := aF h15 F; try replace F := aF f1 F
   refine sq fun K8 hK8 => ?_; refine rg' (h := fun J9 hJ9 => ?_); refine hJ9 _ _ ?_; refine hK8 _ _ ?_; refine sq fun K10 hK10 => ?_; refine cs (fun c16 => ?_) (fun c16 => ?_)
   · try exact nope c16
     all_goals have c16p := c16; try simp [F] at c16p
     all_goals
      replace F := aF c16 F; try replace F := aF c16p F
      refine run_skip ?_; refine hK10 _ _ ?_; refine sq fun K11 hK11 => ?_; refine run_block_k ?_; refine sq fun K12 hK12 => ?_; refine rg' (h := fun J13 hJ13 => ?_); refine hJ13 _ _ ?_; refine hK12 _ _ ?_
      have hel := encCs_len (L.take q.j)
      have htl : (L.take q.j).length ≤ 255 := by simp; omega
      refine run_draw (by kernel_rfl) fun J14 hJ14 => ?_
      refine rp2 0 (k := ?_); refine rp2 1 (k := ?_); refine rp2 2 (k := ?_); refine rp2 3 (k := ?_); refine rp2 5 (k := ?_); refine rp2 6 (k := ?_)
      refine dc 4 rfl (c := lay_ok (l := l ++ c :: encCs (L.take q.j)) (q := [L[q.j].d]) (ho2 _ _) hq.tok (by simp) (by simp; omega) (by simp)) (k := ?_)
      rintro _ _ ⟨rfl, k2, tk2, hw2, rfl⟩
      refine ⟨by first | exact fun _ _ h => h | (refine later_list [6, 5, 2, 1] (by kernel_rfl) (List.forall_mem_cons.2 ⟨fun _ => fact2 rfl rfl ?_, List.forall_mem_cons.2 ⟨fun _ => fact2 rfl rfl ?_, List.forall_mem_cons.2 ⟨fun _ => fact2 rfl rfl ?_, List.forall_mem_cons.2 ⟨fun _ => fact2 rfl rfl ?_, fun _ h => absurd h List.not_mem_nil⟩⟩⟩⟩) <;> constructor <;> first | rfl | (simp [F]; done)), ?_⟩
      repeat (first | simp [F] | simp (disch := omega) only [wC, if_pos, if_neg])
      refine dc 7 rfl (c := wnum_ok (l := l ++ c :: (encCs (L.take q.j) ++ [L[q.j].d])) (x := L[q.j].n.v) (ho2 _ _) (by simpa using hw2.tok) L[q.j].n.h (by simp; omega)) (k := ?_)
      rintro _ _ ⟨rfl, k3, tk3, hw3, rfl⟩
      refine ⟨by first | exact fun _ _ h => h | (refine later_list [5, 2, 1] (by kernel_rfl) (List.forall_mem_cons.2 ⟨fun _ => fact2 rfl rfl ?_, List.forall_mem_cons.2 ⟨fun _ => fact2 rfl rfl ?_, List.forall_mem_cons.2 ⟨fun _ => fact2 rfl rfl ?_, fun _ h => absurd h List.not_mem_nil⟩⟩⟩) <;> constructor <;> first | rfl | (simp [F]; done)), ?_⟩
      repeat (first | simp [F] | simp (disch := omega) only [wC, if_pos, if_neg])
      refine dop 8 rfl ?_; repeat (first | simp [F] | simp (disch := omega) only [wC, if_pos, if_neg])
      try refine ⟨ln, ?_⟩
      refine dd ?_; refine hJ14 _ _ ?_; refine hK11 _ _ ?_; refine rg' (h := fun J15 hJ15 => ?_); refine hJ15 _ _ ?_
      have e3 : encCs (L.take (q.j + 1)) = encCs (L.take q.j) ++ L[q.j].d :: encN L[q.j].n.v := by rw [take_snoc (by simp at c16; omega), encCs_snoc]; rfl
      simp only [List.append_assoc, List.cons_append, List.nil_append] at hw2 hw3
      refine ⟨gk, (⟨q.j + 1, k3, tk3⟩), ⟨kpG, lpG, ?_, lpG, lpG, ?_⟩, lpG⟩
      · simp only [e3]
        exact (hq.trans hw2).trans hw3
      · simp [St.trimO, e3]
   try exact nope c16
   all_goals have c16p := c16; try simp [F] at c16p
   all_goals
    replace F := aF c16 F; try replace F := aF c16p F
    refine run_exit ?_; refine hK5 _ _ ?_; refine sq fun K16 hK16 => ?_; refine rg' (h := fun J17 hJ17 => ?_); refine hJ17 _ _ ?_; refine hK16 _ _ ?_; refine run_ret ?_; try simp only [Then, InBlock, NoGoto]
    refine answer_tmp rfl (.inr rfl) ?_
    have hfull : L.take q.j = L := List.take_of_length_le (by simp at c16; omega)
    rw [hfull] at hq
    rw [hfull]
    have e2 : c :: encCs L = encL L := (by simp [encL, hc])
    rw [e2] at hq
    simp only [e2]
    exact ⟨(q.k, q.tk), hq, by simp [F], [], by simp⟩

end Go.Proofs.Ytdbaddholggkbaa

/-
  A plan without what is locked..
-/
namespace Go.Proofs.Ytdbaddholggkbaa
set_option linter.unnecessarySimpa false
set_option maxRecDepth 100000
open Go Go.Vm
set_option linter.unusedSimpArgs false
set_option linter.unusedVariables false
attribute [local simp] evalL wantedA isCall opA evalA evalAll evalsA evalOpt ofValue ofCell plain binA_eql_pn binA_neq_pn binA_gtr binA_lss binA_geq binA_leq binA_add binA_sub binA_eql binA_neq binA_orI binA_andI binA_shl binA_shr binA_mul binA_quo binA_rem binA_agg_eql binA_agg_neq convA_int unA_not fieldAddrA loadA partA pickA_true pickA_false pickA_bb lenA builtinA storeA splice AV.cells AV.isCell sliceA boundA intA callOf indexAddrA newObjA buildA fillA zeroA ofCells buildSliceA indexA fieldA numA_len4 numA_take4 numA_drop4 set_appN get_appN take_appN List.getElem?_cons_zero List.getElem?_cons_succ makeA zeros64

theorem cut_nil {k : UInt8} (h : k = 0) : WkL [.v (.int .u8 k.toNat), .v (.int .u64 0), .v (.int .u64 0), .sl 0 [] 0 .full, .sl 0 [] 0 .full] (plnC ⟨0, 0, 0, [], []⟩) := by
  subst h
  exact .cons (Wk.refl _) (.cons (Wk.refl _) (.cons (Wk.refl _) (.cons (Wk.nil _ _ _) (.cons (Wk.nil _ _ _) .nil))))

end Go.Proofs.Ytdbaddholggkbaa

/-
  Lists of coins: what both readers make of a list's bytes.
-/
namespace Go.Proofs.Ytdbaddholggkbaa
set_option linter.unnecessarySimpa false
open Go Go.Vm
set_option linter.unusedSimpArgs false
set_option linter.unusedVariables false
set_option maxRecDepth 100000
attribute [local simp] evalL wantedA isCall opA evalA evalAll evalsA evalOpt ofValue ofCell plain binA_eql_pn binA_neq_pn binA_gtr binA_lss binA_geq binA_leq binA_add binA_sub binA_eql binA_neq binA_or binA_shl binA_shr binA_mul binA_quo binA_rem binA_agg_eql binA_agg_neq convA_int unA_not fieldAddrA loadA partA pickA_true pickA_false pickA_bb lenA builtinA storeA splice AV.cells AV.isCell sliceA boundA intA callOf indexAddrA newObjA buildA fillA zeroA ofCells indexA fieldA coinsC_at

structure CSk where
  m : Nat
  s : Option (List UInt8)
  l : List Coin
  k : Nat

end Go.Proofs.Ytdbaddholggkbaa

/-
  A plan, read of any bytes..
-/
namespace Go.Proofs.Ytdbaddholggkbaa
set_option linter.unnecessarySimpa false
set_option maxRecDepth 100000
open Go Go.Vm
set_option linter.unusedSimpArgs false
set_option linter.unusedVariables false
attribute [local simp] evalL wantedA isCall opA evalA evalAll evalsA evalOpt ofValue ofCell plain binA_eql_pn binA_neq_pn binA_gtr binA_lss binA_geq binA_leq binA_add binA_sub binA_eql binA_neq binA_orI binA_andI binA_shl binA_shr binA_mul binA_quo binA_rem binA_agg_eql binA_agg_neq convA_int unA_not fieldAddrA loadA partA pickA_true pickA_false pickA_bb lenA builtinA storeA splice AV.cells AV.isCell sliceA boundA intA callOf indexAddrA newObjA buildA fillA zeroA ofCells buildSliceA indexA fieldA numA_len4 numA_take4 numA_drop4 set_appN get_appN take_appN List.getElem?_cons_zero List.getElem?_cons_succ makeA zeros64

def perS (s : Option (List UInt8)) : Per := ⟨be (takeB 8 s), coinsL (takeS 8 s)⟩
def perT (s : Option (List UInt8)) : Option (List UInt8) := coinsS (takeS 8 s)
def persGo : Nat → Option (List UInt8) → List Per → List Per × Option (List UInt8)
  | 0, s, l => (l, s)
  | _ + 1, none, l => (l, none)
  | m + 1, some p, l => persGo m (perT (some p)) (l ++ [perS (some p)])
theorem persGo_more {m : Nat} {s : Option (List UInt8)} {l : List Per} (hm : 0 < m) (hs : ¬ s = none) : persGo m s l = persGo (m - 1) (perT s) (l ++ [perS s]) := by
  match m, s, hm, hs with
  | m + 1, some p, _, _ => rfl
theorem persGo_stop {m : Nat} {s : Option (List UInt8)} {l : List Per} (h : m = 0 ∨ s = none) : persGo m s l = (l, s) := by
  match m, s, h with
  | 0, _, _ => rfl
  | m + 1, none, _ => rfl
def s4S (s : Option (List UInt8)) : Option (List UInt8) := coinsS (takeS 8 (takeS 8 (takeS 1 s)))
def planR (s : Option (List UInt8)) : List Per × Option (List UInt8) := persGo (be (takeB 1 (s4S s))) (takeS 1 (s4S s)) []
def planP (s : Option (List UInt8)) (L : List Per) : Pln := ⟨byteS s, be (takeB 8 (takeS 1 s)), be (takeB 8 (takeS 8 (takeS 1 s))), coinsL (takeS 8 (takeS 8 (takeS 1 s))), L⟩
def takeT (s : Option (List UInt8)) : Option (List UInt8) := if rightB (planP s (planR s).1) = true then (planR s).2 else none
def takeP (s : Option (List UInt8)) : Pln := if takeT s = none then ⟨0, 0, 0, [], []⟩ else planP s (planR s).1
theorem take_none {s S : Option (List UInt8)} {L : List Per} (h : planR s = (L, S)) (h2 : rightB (planP s L) = false ∨ S = none) : takeP s = ⟨0, 0, 0, [], []⟩ ∧ takeT s = none := by
  have e : takeT s = none := by
    unfold takeT
    rw [h]
    rcases h2 with h2 | h2
    · simp [h2]
    · simp [h2]
  exact ⟨by simp [takeP, e], e⟩
theorem take_some {s S : Option (List UInt8)} {L : List Per} (h : planR s = (L, S)) (h1 : rightB (planP s L) = true) (h2 : ¬ S = none) : takeP s = planP s L ∧ takeT s = S := by
  have e : takeT s = S := by
    unfold takeT
    rw [h, if_pos h1]
  exact ⟨by rw [takeP, e, if_neg h2, h], e⟩
theorem planP_ok {s : Option (List UInt8)} {L : List Per} (hl : L.length ≤ 255) (hx : ∀ x ∈ L, x.l < 2 ^ 64 ∧ x.c.length ≤ 255) : (planP s L).Ok := by
  refine ⟨be_lt8 _ (takeB_len 8 _), be_lt8 _ (takeB_len 8 _), ?_, ?_, fun x h => ⟨(hx x h).1, ?_⟩⟩
  · have := coinsL_le (takeS 8 (takeS 8 (takeS 1 s))); simp only [planP]; omega
  · simp only [planP]; omega
  · have := (hx x h).2; omega
theorem perS_ok (s : Option (List UInt8)) : (perS s).l < 2 ^ 64 ∧ (perS s).c.length ≤ 255 := ⟨be_lt8 _ (takeB_len 8 _), coinsL_le _⟩

structure TSt where
  m : Nat
  s : Option (List UInt8)
  l : List Per

theorem nil0 {L : List Per} (h : posB L.length = false) : persC L = [] ∧ L.length = 0 := by
  have h0 := posB_no h
  have : L = [] := List.length_eq_zero_iff.1 h0
  subst this
  exact ⟨rfl, rfl⟩
theorem take_wk {s : Option (List UInt8)} {L : List Per} {k : Nat} : WkL [.v (.int .u8 (be (takeB 1 s))), .v (.int .u64 (be (takeB 8 (takeS 1 s)))), .v (.int .u64 (be (takeB 8 (takeS 8 (takeS 1 s))))), .sl 5 (coinsC (coinsL (takeS 8 (takeS 8 (takeS 1 s))))) (coinsL (takeS 8 (takeS 8 (takeS 1 s)))).length .shut, grA k 2 (posB L.length) (persC L) L.length] (plnC (planP s L)) :=
  .cons (by rw [be_byteS]; exact Wk.refl _) (.cons (Wk.refl _) (.cons (Wk.refl _) (.cons (Wk.refl _) (.cons (wk_grA nil0) .nil))))

set_option maxHeartbeats 1600000 in
attribute [local simp] undefA List.getElem?_cons_zero List.getElem?_cons_succ perC persC_noObj in
theorem ptake_ok {σ : St} {id : Nat} {s : Option (List UInt8)} (h : σ.objs[id]? = some (rd s)) :
    CallsA Try.prog 34 [.ptr id 0] σ (fun av σ' => av = .agg (plnC (takeP s)) ∧ σ' = { σ with objs := σ.objs.set id (rd (takeT s)) }) := by
  refine callsA_gc_obj (Q := fun av σ' => Wk av (.agg (plnC (takeP s))) ∧ ∃ l m r, σ' = { σ with objs := σ.objs.set id (rd (takeT s)) ++ l, toks := σ.toks ++ m, rows := σ.rows ++ r }) ?_ (fun av σ' h => h) (by simp [AV.under, underL, plnC, persC_under]) (rd_under _ _)
  have hs := set_self_of h
  have hlt := lt_of_get h
  have ho1 : ∀ r, (σ.objs ++ r)[id]? = some (rd s) := fun r => by rw [List.getElem?_append_left hlt]; exact h
  have ho2 : ∀ x r, (σ.objs.set id x ++ r)[id]? = some x := fun x r => by rw [List.getElem?_append_left (by simpa using hlt)]; exact hs x
  have ho3 : ∀ x r, (σ.objs ++ r).set id x = σ.objs.set id x ++ r := fun x r => List.set_append_left _ _ hlt
  have ho4 : ∀ x y r, (σ.objs.set id y ++ r).set id x = σ.objs.set id x ++ r := fun x y r => by rw [List.set_append_left _ _ (by simpa using hlt), List.set_set]
  have hm := be_lt1 (takeB_len 1 (s4S s))
  have hgc : ∀ (k : Nat) (b : Bool) (cs : List AV) (n : Nat), (grA k 2 b cs n).isCell = true := fun k b cs n => by cases b <;> rfl
  simp only [AV.isCell] at hgc
  have hdr : ∀ f : Nat → AV, List.drop 2 (List.map f (List.range 2)) = [] := fun _ => rfl
  have hdr5 : ∀ f : Nat → AV, List.drop 5 (List.map f (List.range 5)) = [] := fun _ => rfl
  have hR : ∀ (L : List Per) (k : Nat) (τ : St), L.length ≤ 255 → (∀ x ∈ L, x.l < 2 ^ 64 ∧ x.c.length ≤ 255) → CallsA Try.prog 18 [.agg [.v (.int .u8 (be (takeB 1 s))), .v (.int .u64 (be (takeB 8 (takeS 1 s)))), .v (.int .u64 (be (takeB 8 (takeS 8 (takeS 1 s))))), .sl 5 (coinsC (coinsL (takeS 8 (takeS 8 (takeS 1 s))))) (coinsL (takeS 8 (takeS 8 (takeS 1 s)))).length .shut, grA k 2 (posB L.length) (persC L) L.length]] τ (fun av σ' => av = .v (.bool (rightB (planP s L))) ∧ τ = σ') :=
    fun L k τ hl hx => callsA_wk (.cons (WkL.agg take_wk) .nil) (plright_ok (planP_ok hl hx))
  have F := And.intro ho1 (And.intro ho2 (And.intro ho3 (And.intro ho4 (And.intro hlt (And.intro hdr (And.intro hdr5 (And.intro hgc (True.intro))))))))
  refine callsA_body Try.func34 rfl rfl rfl ?_; refine sq fun K1 hK1 => ?_; refine rg' (h := fun J2 hJ2 => ?_); refine hJ2 _ _ ?_; refine hK1 _ _ ?_; refine sq fun K3 hK3 => ?_; refine rg' (h := fun J4 hJ4 => ?_); refine ca (c := byte_ok (ho1 _)) (k := ?_); rintro _ _ ⟨rfl, rfl⟩; repeat (first | simp [F] | simp (disch := omega) only [wC, if_pos, if_neg])
  refine ca (c := long_ok (ho2 _ _)) (k := ?_); rintro _ _ ⟨rfl, rfl⟩; repeat (first | simp [F] | simp (disch := omega) only [wC, if_pos, if_neg])
  refine ca (c := long_ok (ho2 _ _)) (k := ?_); rintro _ _ ⟨rfl, rfl⟩; repeat (first | simp [F] | simp (disch := omega) only [wC, if_pos, if_neg])
  refine ca (c := rcoins_raw (ho2 _ _)) (k := ?_); rintro _ _ ⟨rfl, rfl⟩; repeat (first | simp [F] | simp (disch := omega) only [wC, if_pos, if_neg])
  refine hJ4 _ _ ?_; refine hK3 _ _ ?_; refine sq fun K5 hK5 => ?_; refine sq fun K6 hK6 => ?_; refine rg' (h := fun J7 hJ7 => ?_); refine ca (c := byte_ok (ho2 _ _)) (k := ?_); rintro _ _ ⟨rfl, rfl⟩; repeat (first | simp [F] | simp (disch := omega) only [wC, if_pos, if_neg])
  refine hJ7 _ _ ?_; refine hK6 _ _ ?_; refine run_block_k ?_
  refine run_loopF (X := TSt) [0, 2, 3] (fun q ρ σ1 => (q.m + q.l.length ≤ 255) ∧ (∀ x ∈ q.l, x.l < 2 ^ 64 ∧ x.c.length ≤ 255) ∧ (persGo q.m q.s q.l = planR s) ∧ (ρ 4 = .v (.int .u8 q.m)) ∧ (σ1 = { σ with objs := σ.objs.set id (rd q.s) ++ [[.v (.int .u8 0), .v (.int .u64 0), .v (.int .u64 0), .sl 0 [] 0 .full, .sl 0 [] 0 .full], [.v (.int .u8 (be (takeB 1 s))), .v (.int .u64 (be (takeB 8 (takeS 1 s)))), .v (.int .u64 (be (takeB 8 (takeS 8 (takeS 1 s))))), .sl 5 (coinsC (coinsL (takeS 8 (takeS 8 (takeS 1 s))))) (coinsL (takeS 8 (takeS 8 (takeS 1 s)))).length .shut, grA σ.toks.length 2 (posB q.l.length) (persC q.l) q.l.length]], toks := σ.toks ++ grT (posB q.l.length) q.l.length })) (fun q => q.m) (⟨be (takeB 1 (s4S s)), takeS 1 (s4S s), []⟩) ?st1 ?rd1
  case st1 =>
   refine ⟨?_, ?_, ?_, lp, ?_⟩
   · simp
     omega
   · simp
   · rfl
   · simp [F, s4S]
  case rd1 =>
   rintro q ρ1 σ1 hF1 ⟨hm, hx, hg, h4, hσ⟩; obtain rfl := hσ.symm
   have f1 := keepL hF1
   try simp [KeepL, F] at f1
   replace F := aF h4 F; try replace F := aF f1 F
   refine sq fun K8 hK8 => ?_
   refine sqc (X := Unit) [0, 2, 3, 4] (fun k ρ σ1 => (ρ 22 = .v (.bool (decide (0 < q.m) && !q.s.isNone))) ∧ (σ1 = { σ with objs := σ.objs.set id (rd q.s) ++ [[.v (.int .u8 0), .v (.int .u64 0), .v (.int .u64 0), .sl 0 [] 0 .full, .sl 0 [] 0 .full], [.v (.int .u8 (be (takeB 1 s))), .v (.int .u64 (be (takeB 8 (takeS 1 s)))), .v (.int .u64 (be (takeB 8 (takeS 8 (takeS 1 s))))), .sl 5 (coinsC (coinsL (takeS 8 (takeS 8 (takeS 1 s))))) (coinsL (takeS 8 (takeS 8 (takeS 1 s)))).length .shut, grA σ.toks.length 2 (posB q.l.length) (persC q.l) q.l.length]], toks := σ.toks ++ grT (posB q.l.length) q.l.length })) ?cy9 ?cx9
   case cy9 =>
    rintro k ρCr3 σ1 hFCr3 ⟨h22, hσ⟩; obtain rfl := hσ.symm
    have fCr3 := keepL hFCr3
    try simp [KeepL, F] at fCr3
    replace F := aF h22 F; try replace F := aF fCr3 F
    refine cs (t := (decide (0 < q.m) && !q.s.isNone)) (fun c22 => ?_) (fun c22 => ?_)
    · try exact nope c22
      all_goals have c22p := c22; try simp [F] at c22p
      all_goals
       replace F := aF c22 F; try replace F := aF c22p F
       refine run_skip ?_; refine hK8 _ _ ?_; refine sq fun K10 hK10 => ?_; refine run_block_k ?_
       obtain ⟨m, S, L⟩ := q
       simp only at hm hx hg h4
       have hmS : 0 < m ∧ ¬ S = none := by have h := c22; simp at h; exact ⟨h.1, by intro e; rw [e] at h; simp at h⟩
       have hnx := persGo_more (l := L) hmS.1 hmS.2
       have hP : persC (L ++ [perS S]) = persC L ++ [.v (.int .u64 (be (takeB 8 S))), .sl 5 (coinsC (coinsL (takeS 8 S))) (coinsL (takeS 8 S)).length .shut] := by rw [← persC_append]; rfl
       have hLl : L.length ≤ 254 := by omega
       have happ : ∀ objs, appendA Try.prog 24 (grA σ.toks.length 2 (posB L.length) (persC L) L.length) (.sl 2 [.v (.int .u64 (be (takeB 8 S))), .sl 5 (coinsC (coinsL (takeS 8 S))) (coinsL (takeS 8 S)).length .shut] 1 .full) ⟨objs, σ.toks ++ grT (posB L.length) L.length, σ.gl, σ.rows⟩ = some (grA σ.toks.length 2 true (persC L ++ [.v (.int .u64 (be (takeB 8 S))), .sl 5 (coinsC (coinsL (takeS 8 S))) (coinsL (takeS 8 S)).length .shut]) (L.length + 1), ⟨objs, σ.toks ++ grT true (L.length + 1), σ.gl, σ.rows⟩) := fun objs => append_gr elemT_24 ti_88 (by decide) rfl nil0 (.inl rfl) (by simp [roomA]; omega) (by simp [maxLen]; omega)
       have hwm : IntKind.u8.wrap ((m : Int) - 1) = ((m - 1 : Nat) : Int) := by rw [wrap_u8c (by omega)]; omega
       replace F := aF happ F
       refine run_draw (by kernel_rfl) fun J11 hJ11 => ?_
       refine rp2 0 (k := ?_); refine rp2 1 (k := ?_); refine rp2 2 (k := ?_); refine rp2 4 (k := ?_); refine dc 3 rfl (c := long_ok (ho2 _ _)) (k := ?_); rintro _ _ ⟨rfl, rfl⟩
       refine ⟨by first | exact fun _ _ h => h | (refine later_list [4, 1, 0] (by kernel_rfl) (List.forall_mem_cons.2 ⟨fun _ => fact2 rfl rfl ?_, List.forall_mem_cons.2 ⟨fun _ => fact2 rfl rfl ?_, List.forall_mem_cons.2 ⟨fun _ => fact2 rfl rfl ?_, fun _ h => absurd h List.not_mem_nil⟩⟩⟩) <;> constructor <;> first | rfl | (simp [F]; done)), ?_⟩
       repeat (first | simp [F] | simp (disch := omega) only [wC, if_pos, if_neg])
       refine dc 5 rfl (c := rcoins_raw (ho2 _ _)) (k := ?_); rintro _ _ ⟨rfl, rfl⟩
       refine ⟨by first | exact fun _ _ h => h | (refine later_list [1, 0] (by kernel_rfl) (List.forall_mem_cons.2 ⟨fun _ => fact2 rfl rfl ?_, List.forall_mem_cons.2 ⟨fun _ => fact2 rfl rfl ?_, fun _ h => absurd h List.not_mem_nil⟩⟩) <;> constructor <;> first | rfl | (simp [F]; done)), ?_⟩
       repeat (first | simp [F] | simp (disch := omega) only [wC, if_pos, if_neg])
       refine rp2 6 (k := ?_); refine rp2 7 (k := ?_); refine dop 8 rfl ?_; repeat (first | simp [F] | simp (disch := omega) only [wC, if_pos, if_neg])
       refine ⟨by first | exact fun _ _ h => h | (refine later_list [6, 0] (by kernel_rfl) (List.forall_mem_cons.2 ⟨fun _ => fact2 rfl rfl ?_, List.forall_mem_cons.2 ⟨fun _ => fact2 rfl rfl ?_, fun _ h => absurd h List.not_mem_nil⟩⟩) <;> constructor <;> first | rfl | (simp [F]; done)), ?_⟩
       refine rp2 9 (k := ?_); refine dop 10 rfl ?_; repeat (first | simp [F] | simp (disch := omega) only [wC, if_pos, if_neg])
       refine ⟨ln, ?_⟩; refine dd ?_; refine hJ11 _ _ ?_; refine hK10 _ _ ?_; replace F := aF hwm F; refine rg' (h := fun J12 hJ12 => ?_); refine hJ12 _ _ ?_; refine ⟨(⟨m - 1, perT S, L ++ [perS S]⟩), ⟨kp, ?_, ?_, ?_, lp, ?_⟩, ?_⟩
       · simp
         omega
       · intro x hxm
         rcases List.mem_append.1 hxm with h | h
         · exact hx x h
         · simp at h; subst h; exact perS_ok S
       · rw [← hg]
         exact hnx.symm
       · simp [F, hP, perT]
       · simp
         omega
    try exact nope c22
    all_goals have c22p := c22; try simp [F] at c22p
    all_goals
     replace F := aF c22 F; try replace F := aF c22p F
     have he : planR s = (q.l, q.s) := by rw [← hg]; exact persGo_stop (by have h := c22; simp at h; by_cases h0 : q.m = 0; exact .inl h0; exact .inr (h (by omega)))
     have hql : q.l.length ≤ 255 := by omega
     refine run_exit ?_; refine hK5 _ _ ?_; refine sq fun K13 hK13 => ?_; refine sq fun K14 hK14 => ?_; refine rg' (h := fun J15 hJ15 => ?_); refine ca (c := hR q.l _ _ hql hx) (k := ?_); rintro _ _ ⟨rfl, rfl⟩; repeat (first | simp [F] | simp (disch := omega) only [wC, if_pos, if_neg])
     refine hJ15 _ _ ?_; refine hK14 _ _ ?_; refine cs (fun c37 => ?_) (fun c37 => ?_)
     · try exact nope c37
       all_goals have c37p := c37; try simp [F] at c37p
       all_goals
        replace F := aF c37 F; try replace F := aF c37p F
        refine rg' (h := fun J16 hJ16 => ?_); refine ca (c := fail_ok (ho2 _ _)) (k := ?_); rintro _ _ ⟨rfl, rfl⟩; repeat (first | simp [F] | simp (disch := omega) only [wC, if_pos, if_neg])
        refine hJ16 _ _ ?_; refine hK13 _ _ ?_; refine sq fun K17 hK17 => ?_; refine sq fun K18 hK18 => ?_; refine rg' (h := fun J19 hJ19 => ?_); refine ca (c := bad_ok (ho2 _ _)) (k := ?_); rintro _ _ ⟨rfl, rfl⟩; repeat (first | simp [F] | simp (disch := omega) only [wC, if_pos, if_neg])
        refine hJ19 _ _ ?_; refine hK18 _ _ ?_; refine cs (fun c41 => ?_) (fun c41 => ?_)
        · try exact nope c41
          all_goals have c41p := c41; try simp [F] at c41p
          all_goals
           replace F := aF c41 F; try replace F := aF c41p F
           refine sq fun K20 hK20 => ?_; refine rg' (h := fun J21 hJ21 => ?_); refine hJ21 _ _ ?_; refine hK20 _ _ ?_; refine run_ret ?_; try simp only [Then, InBlock, NoGoto]
           refine acell (h := ?_)
           obtain ⟨e1, e2⟩ := take_none he (.inl (by simpa using c37))
           rw [e1, e2]
           refine gcr (τ := { σ with objs := σ.objs.set id (rd none) }) (hA := ?_)
           exact WkL.agg (cut_nil rfl)
        try exact nope c41
        all_goals have c41p := c41; try simp [F] at c41p
        all_goals
         replace F := aF c41 F; try replace F := aF c41p F
         refine run_skip ?_; refine hK17 _ _ ?_; refine sq fun K22 hK22 => ?_; refine rg' (h := fun J23 hJ23 => ?_); refine hJ23 _ _ ?_; refine hK22 _ _ ?_; refine run_ret ?_; try simp only [Then, InBlock, NoGoto]
         refine acell (h := ?_)
         obtain ⟨e1, e2⟩ := take_none he (.inl (by simpa using c37))
         rw [e1, e2]
         refine gcr (τ := { σ with objs := σ.objs.set id (rd none) }) (hA := ?_)
         exact WkL.agg (cut_nil rfl)
     try exact nope c37
     all_goals have c37p := c37; try simp [F] at c37p
     all_goals
      replace F := aF c37 F; try replace F := aF c37p F
      refine run_skip ?_; refine hK13 _ _ ?_; refine sq fun K24 hK24 => ?_; refine sq fun K25 hK25 => ?_; refine rg' (h := fun J26 hJ26 => ?_); refine ca (c := bad_ok (ho2 _ _)) (k := ?_); rintro _ _ ⟨rfl, rfl⟩; repeat (first | simp [F] | simp (disch := omega) only [wC, if_pos, if_neg])
      refine hJ26 _ _ ?_; refine hK25 _ _ ?_; refine cs (fun c41 => ?_) (fun c41 => ?_)
      · try exact nope c41
        all_goals have c41p := c41; try simp [F] at c41p
        all_goals
         replace F := aF c41 F; try replace F := aF c41p F
         refine sq fun K27 hK27 => ?_; refine rg' (h := fun J28 hJ28 => ?_); refine hJ28 _ _ ?_; refine hK27 _ _ ?_; refine run_ret ?_; try simp only [Then, InBlock, NoGoto]
         refine acell (h := ?_)
         obtain ⟨e1, e2⟩ := take_none he (.inr (by simpa using c41))
         rw [e1, e2]
         refine gcr (τ := { σ with objs := σ.objs.set id (rd none) }) (hA := ?_)
         exact WkL.agg (cut_nil rfl)
      try exact nope c41
      all_goals have c41p := c41; try simp [F] at c41p
      all_goals
       replace F := aF c41 F; try replace F := aF c41p F
       refine run_skip ?_; refine hK24 _ _ ?_; refine sq fun K29 hK29 => ?_; refine rg' (h := fun J30 hJ30 => ?_); refine hJ30 _ _ ?_; refine hK29 _ _ ?_; refine run_ret ?_; try simp only [Then, InBlock, NoGoto]
       refine acell (h := ?_)
       obtain ⟨e1, e2⟩ := take_some he (by simpa using c37) (by intro e; rw [e] at c41; simp at c41)
       rw [e1, e2]
       refine gcr (τ := { σ with objs := σ.objs.set id (rd q.s) }) (hA := ?_)
       exact WkL.agg take_wk
   case cx9 =>
    intro K9 hK9
    refine rg' (h := fun J31 hJ31 => ?_); refine gs 18 (fun g3_2 => ?_) (fun g3_2 => ?_)
    · try exact nope g3_2
      all_goals have g3_2p := g3_2; try simp [F] at g3_2p
      all_goals
       replace F := aF g3_2 F; try replace F := aF g3_2p F
       refine go2 (k := ?_); refine ca (c := bad_ok (ho2 _ _)) (k := ?_); rintro _ _ ⟨rfl, rfl⟩; repeat (first | simp [F] | simp (disch := omega) only [wC, if_pos, if_neg])
       refine go2 (k := ?_); refine hJ31 _ _ ?_; refine hK9 (()) _ _ ⟨kp, ?_, lp⟩
       · have h := g3_2
         simp at h
         simp [F, h]
    try exact nope g3_2
    all_goals have g3_2p := g3_2; try simp [F] at g3_2p
    all_goals
     replace F := aF g3_2 F; try replace F := aF g3_2p F
     iterate 3 refine no2 (k := ?_)
     refine hJ31 _ _ ?_; refine hK9 (()) _ _ ⟨kp, ?_, lp⟩
     · have h := g3_2
       simp at h
       simp [F, h]

end Go.Proofs.Ytdbaddholggkbaa

/-
  What was laid of a plan reads back: the plain law.
-/
namespace Go.Proofs.Ytdbaddholggkbaa
set_option linter.unnecessarySimpa false
set_option maxRecDepth 100000
set_option linter.unusedSimpArgs false
open Go Go.Vm
set_option linter.unusedVariables false

def encPer (x : Per) : List UInt8 := nBytes 8 x.l ++ encL x.c
def encPers (l : List Per) : List UInt8 := l.flatMap encPer
def encPl (p : Pln) : List UInt8 := p.k :: (nBytes 8 p.s ++ (nBytes 8 p.e ++ (encL p.tot ++ (UInt8.ofNat p.ps.length :: encPers p.ps))))
theorem encPers_snoc (l : List Per) (x : Per) : encPers (l ++ [x]) = encPers l ++ encPer x := by simp [encPers]
theorem encL_len {l : List Coin} (h : l.length ≤ 8) : (encL l).length ≤ 273 := by
  have := encCs_len l
  simp only [encL, List.length_cons]; omega
theorem encPers_len : ∀ l : List Per, (∀ x ∈ l, x.c.length ≤ 8) → (encPers l).length ≤ 281 * l.length
  | [], _ => by simp [encPers]
  | x :: l, h => by
    have h1 := encPers_len l (fun y hy => h y (by simp [hy]))
    have h2 := encL_len (h x (by simp))
    have e : encPers (x :: l) = encPer x ++ encPers l := rfl
    rw [e]
    simp only [encPer, List.length_append, nBytes_len, List.length_cons]
    omega

end Go.Proofs.Ytdbaddholggkbaa

/-
  A plan is laid..
-/
namespace Go.Proofs.Ytdbaddholggkbaa
set_option linter.unnecessarySimpa false
set_option maxRecDepth 100000
open Go Go.Vm
set_option linter.unusedSimpArgs false
set_option linter.unusedVariables false
attribute [local simp] evalL wantedA isCall opA evalA evalAll evalsA evalOpt ofValue ofCell plain binA_eql_pn binA_neq_pn binA_gtr binA_lss binA_geq binA_leq binA_add binA_sub binA_eql binA_neq binA_orI binA_andI binA_shl binA_shr binA_mul binA_quo binA_rem binA_agg_eql binA_agg_neq convA_int unA_not fieldAddrA loadA partA pickA_true pickA_false pickA_bb lenA builtinA storeA splice AV.cells AV.isCell sliceA boundA intA callOf indexAddrA newObjA buildA fillA zeroA ofCells buildSliceA indexA fieldA numA_len4 numA_take4 numA_drop4 set_appN get_appN take_appN List.getElem?_cons_zero List.getElem?_cons_succ makeA zeros64

def WQ (id : Nat) (σ : St) (k : Nat) (l A : List UInt8) : AV → St → Prop := fun av σ' => av = .ptr id 0 ∧ ∃ k' tk', Wr σ.toks k l tk' k' A ∧ σ' = { σ with objs := σ.objs.set id [wrA k' A], toks := tk' }
theorem wbyteA {σ : St} {id k : Nat} {l A : List UInt8} {b : UInt8} (hA : A = l ++ [b]) (h : σ.objs[id]? = some [wrA k l]) (ht : Tk σ.toks k l) (hl : l.length ≤ 300000) :
    CallsA Try.prog 88 [.ptr id 0, .v (.int .u8 b.toNat)] σ (WQ id σ k l A) := by
  subst hA; exact wbyte_ok h ht (by omega)
theorem wlongA {σ : St} {id k n : Nat} {l A : List UInt8} (hA : A = l ++ nBytes 8 n) (h : σ.objs[id]? = some [wrA k l]) (ht : Tk σ.toks k l) (hn : n < 2 ^ 64) (hl : l.length ≤ 300000) :
    CallsA Try.prog 39 [.ptr id 0, .v (.int .u64 n)] σ (WQ id σ k l A) := by
  subst hA; exact wlong_ok h ht hn (by omega)
theorem wcoinsA {σ : St} {id k : Nat} {l A : List UInt8} {L : List Coin} {tL : Tail} (hA : A = l ++ encL L) (h : σ.objs[id]? = some [wrA k l]) (ht : Tk σ.toks k l) (hL : L.length ≤ 255) (hl : l.length ≤ 300000) :
    CallsA Try.prog 89 [.ptr id 0, .sl 5 (coinsC L) L.length tL] σ (WQ id σ k l A) := by
  subst hA; exact wcoins_ok h ht hL (by omega)

structure LSt where
  i : Nat
  k : Nat
  tk : List Nat

set_option maxHeartbeats 1600000 in
attribute [local simp] undefA List.getElem?_cons_zero List.getElem?_cons_succ plnC perC persC_noObj noObj_wrA noObj_wrA' in
theorem play_ok {σ : St} {id k : Nat} {l A : List UInt8} {p : Pln} (hA : A = l ++ encPl p) (h : σ.objs[id]? = some [wrA k l]) (ht : Tk σ.toks k l) (hl : l.length ≤ 100000)
    (p1 : p.s < 2 ^ 64) (p2 : p.e < 2 ^ 64) (p3 : p.tot.length ≤ 8) (p4 : p.ps.length ≤ 255) (p5 : ∀ x ∈ p.ps, x.l < 2 ^ 64 ∧ x.c.length ≤ 8) :
    CallsA Try.prog 40 [.ptr id 0, .agg (plnC p)] σ (fun av σ' => av = .tup [] ∧ ∃ k' tk', Wr σ.toks k l tk' k' A ∧ σ' = { σ with objs := σ.objs.set id [wrA k' A], toks := tk' }) := by
  have hlt := lt_of_get h
  refine callsA_mono (callsA_gcOI (A := .tup []) (Pi := fun i : Nat × List Nat => Wr σ.toks k l i.2 i.1 A) (τ := fun i => { σ with objs := σ.objs.set id [wrA i.1 A], toks := i.2 }) ?_ (by simp [AV.gcO, gcOL]) (fun _ => by simp) (fun _ => rfl) (fun _ => kp_set (kp_refl _) (noObj_wrA _ _ _)) (fun _ => kpr_refl _)) (fun av σ' ⟨h1, i, h2, h3⟩ => ⟨h1, i.1, i.2, h2, h3⟩)
  have hs := set_self_of h
  obtain ⟨pk, ps, pe, pt, pp⟩ := p
  simp only at p1 p2 p3 p4 p5
  obtain ⟨c, hc⟩ : ∃ c, c = UInt8.ofNat pp.length := ⟨_, rfl⟩
  have hcn : c.toNat = pp.length := by rw [hc]; exact toNat_ofNat (by omega)
  have hw : IntKind.u8.wrap (pp.length : Int) = (c.toNat : Int) := by rw [wrap_u8, hcn, Nat.mod_eq_of_lt (by omega)]
  obtain ⟨A1, hA1⟩ : ∃ A1, A1 = l ++ [pk] := ⟨_, rfl⟩
  obtain ⟨A2, hA2⟩ : ∃ A2, A2 = A1 ++ nBytes 8 ps := ⟨_, rfl⟩
  obtain ⟨A3, hA3⟩ : ∃ A3, A3 = A2 ++ nBytes 8 pe := ⟨_, rfl⟩
  obtain ⟨A4, hA4⟩ : ∃ A4, A4 = A3 ++ encL pt := ⟨_, rfl⟩
  obtain ⟨A5, hA5⟩ : ∃ A5, A5 = A4 ++ [c] := ⟨_, rfl⟩
  have n1 : A1.length = l.length + 1 := by rw [hA1]; simp
  have n2 : A2.length = l.length + 9 := by rw [hA2, List.length_append, nBytes_len, n1]
  have n3 : A3.length = l.length + 17 := by rw [hA3, List.length_append, nBytes_len, n2]
  have n4 : A4.length ≤ l.length + 290 := by have := encL_len p3; rw [hA4, List.length_append, n3]; omega
  have n5 : A5.length ≤ l.length + 291 := by rw [hA5, List.length_append]; simp; omega
  obtain ⟨Bf, hBf⟩ : ∃ Bf : Nat → List UInt8, Bf = fun i => A5 ++ encPers (pp.take i) := ⟨_, rfl⟩
  have hB0 : A5 = Bf 0 := by rw [hBf]; simp [encPers]
  have hBl : ∀ i, i ≤ pp.length → (Bf i).length ≤ 200000 := fun i hi => by
    have := encPers_len (pp.take i) (fun x hx => (p5 x (List.mem_of_mem_take hx)).2)
    have e : (pp.take i).length = i := by simp; omega
    rw [hBf]; simp only [List.length_append]; rw [e] at this; omega
  have hBs : ∀ i (hi : i < pp.length), Bf (i + 1) = Bf i ++ nBytes 8 pp[i].l ++ encL pp[i].c := fun i hi => by
    rw [hBf]; simp only; rw [← List.take_append_getElem hi, encPers_snoc]; simp [encPer]
  have hBA : Bf pp.length = A := by
    rw [hA, hBf]; simp only; rw [List.take_length, hA5, hA4, hA3, hA2, hA1, hc]; simp [encPl]
  clear hBf hA
  have ho1 : ∀ r, (σ.objs ++ r)[id]? = some [wrA k l] := fun r => by rw [List.getElem?_append_left hlt]; exact h
  have ho2 : ∀ x r, (σ.objs.set id x ++ r)[id]? = some x := fun x r => by rw [List.getElem?_append_left (by simpa using hlt)]; exact hs x
  have ho3 : ∀ x r, (σ.objs ++ r).set id x = σ.objs.set id x ++ r := fun x r => List.set_append_left _ _ hlt
  have ho4 : ∀ x y r, (σ.objs.set id y ++ r).set id x = σ.objs.set id x ++ r := fun x y r => by rw [List.set_append_left _ _ (by simpa using hlt), List.set_set]
  have hlt1 : id < σ.objs.length + 1 := by omega
  have htk : ∀ (x a b : List AV), List.take (σ.objs.length + 1) (σ.objs.set id x ++ [a, b]) = σ.objs.set id x ++ [a] := fun x a b => by
    have := List.take_length_add_append (l₁ := σ.objs.set id x) (l₂ := [a, b]) 1
    rw [List.length_set] at this
    exact this
  have F := And.intro hw (And.intro ho1 (And.intro ho2 (And.intro ho3 (And.intro ho4 (And.intro hlt (And.intro hlt1 (And.intro htk (True.intro))))))))
  refine callsA_body Try.func40 rfl rfl rfl ?_; refine sq fun K1 hK1 => ?_; refine rg' (h := fun J2 hJ2 => ?_); refine hJ2 _ _ ?_; refine hK1 _ _ ?_; refine sq fun K3 hK3 => ?_
  refine run_draw (by kernel_rfl) fun J4 hJ4 => ?_
  refine rp2 0 (k := ?_); refine rp2 1 (k := ?_); refine rp2 2 (k := ?_); refine rp2 4 (k := ?_); refine rp2 5 (k := ?_); refine rp2 7 (k := ?_); refine rp2 8 (k := ?_); refine rp2 10 (k := ?_); refine rp2 11 (k := ?_); refine rp2 13 (k := ?_); refine rp2 14 (k := ?_); refine rp2 15 (k := ?_); refine rp2 16 (k := ?_)
  refine dc 3 rfl (c := wbyteA hA1 (ho1 _) ht (by omega)) (k := ?_)
  rintro _ _ ⟨rfl, k1, tk1, hw1, rfl⟩
  refine ⟨by first | exact fun _ _ h => h | (refine later_list [16, 15, 14, 13, 11, 10, 8, 7, 5, 4, 1] (by kernel_rfl) (List.forall_mem_cons.2 ⟨fun _ => fact2 rfl rfl ?_, List.forall_mem_cons.2 ⟨fun _ => fact2 rfl rfl ?_, List.forall_mem_cons.2 ⟨fun _ => fact2 rfl rfl ?_, List.forall_mem_cons.2 ⟨fun _ => fact2 rfl rfl ?_, List.forall_mem_cons.2 ⟨fun _ => fact2 rfl rfl ?_, List.forall_mem_cons.2 ⟨fun _ => fact2 rfl rfl ?_, List.forall_mem_cons.2 ⟨fun _ => fact2 rfl rfl ?_, List.forall_mem_cons.2 ⟨fun _ => fact2 rfl rfl ?_, List.forall_mem_cons.2 ⟨fun _ => fact2 rfl rfl ?_, List.forall_mem_cons.2 ⟨fun _ => fact2 rfl rfl ?_, List.forall_mem_cons.2 ⟨fun _ => fact2 rfl rfl ?_, fun _ h => absurd h List.not_mem_nil⟩⟩⟩⟩⟩⟩⟩⟩⟩⟩⟩) <;> constructor <;> first | rfl | (simp [F]; done)), ?_⟩
  repeat (first | simp [F] | simp (disch := omega) only [wC, if_pos, if_neg])
  refine dc 6 rfl (c := wlongA hA2 (ho2 _ _) hw1.tok p1 (by omega)) (k := ?_)
  rintro _ _ ⟨rfl, k2, tk2, hw2, rfl⟩
  refine ⟨by first | exact fun _ _ h => h | (refine later_list [16, 15, 14, 13, 11, 10, 8, 7, 4, 1] (by kernel_rfl) (List.forall_mem_cons.2 ⟨fun _ => fact2 rfl rfl ?_, List.forall_mem_cons.2 ⟨fun _ => fact2 rfl rfl ?_, List.forall_mem_cons.2 ⟨fun _ => fact2 rfl rfl ?_, List.forall_mem_cons.2 ⟨fun _ => fact2 rfl rfl ?_, List.forall_mem_cons.2 ⟨fun _ => fact2 rfl rfl ?_, List.forall_mem_cons.2 ⟨fun _ => fact2 rfl rfl ?_, List.forall_mem_cons.2 ⟨fun _ => fact2 rfl rfl ?_, List.forall_mem_cons.2 ⟨fun _ => fact2 rfl rfl ?_, List.forall_mem_cons.2 ⟨fun _ => fact2 rfl rfl ?_, List.forall_mem_cons.2 ⟨fun _ => fact2 rfl rfl ?_, fun _ h => absurd h List.not_mem_nil⟩⟩⟩⟩⟩⟩⟩⟩⟩⟩) <;> constructor <;> first | rfl | (simp [F]; done)), ?_⟩
  repeat (first | simp [F] | simp (disch := omega) only [wC, if_pos, if_neg])
  refine dc 9 rfl (c := wlongA hA3 (ho2 _ _) hw2.tok p2 (by omega)) (k := ?_)
  rintro _ _ ⟨rfl, k3, tk3, hw3, rfl⟩
  refine ⟨by first | exact fun _ _ h => h | (refine later_list [16, 15, 14, 13, 11, 10, 7, 4, 1] (by kernel_rfl) (List.forall_mem_cons.2 ⟨fun _ => fact2 rfl rfl ?_, List.forall_mem_cons.2 ⟨fun _ => fact2 rfl rfl ?_, List.forall_mem_cons.2 ⟨fun _ => fact2 rfl rfl ?_, List.forall_mem_cons.2 ⟨fun _ => fact2 rfl rfl ?_, List.forall_mem_cons.2 ⟨fun _ => fact2 rfl rfl ?_, List.forall_mem_cons.2 ⟨fun _ => fact2 rfl rfl ?_, List.forall_mem_cons.2 ⟨fun _ => fact2 rfl rfl ?_, List.forall_mem_cons.2 ⟨fun _ => fact2 rfl rfl ?_, List.forall_mem_cons.2 ⟨fun _ => fact2 rfl rfl ?_, fun _ h => absurd h List.not_mem_nil⟩⟩⟩⟩⟩⟩⟩⟩⟩) <;> constructor <;> first | rfl | (simp [F]; done)), ?_⟩
  repeat (first | simp [F] | simp (disch := omega) only [wC, if_pos, if_neg])
  refine dc 12 rfl (c := wcoinsA hA4 (ho2 _ _) hw3.tok (by omega) (by omega)) (k := ?_)
  rintro _ _ ⟨rfl, k4, tk4, hw4, rfl⟩
  refine ⟨by first | exact fun _ _ h => h | (refine later_list [16, 15, 14, 13, 10, 7, 4, 1] (by kernel_rfl) (List.forall_mem_cons.2 ⟨fun _ => fact2 rfl rfl ?_, List.forall_mem_cons.2 ⟨fun _ => fact2 rfl rfl ?_, List.forall_mem_cons.2 ⟨fun _ => fact2 rfl rfl ?_, List.forall_mem_cons.2 ⟨fun _ => fact2 rfl rfl ?_, List.forall_mem_cons.2 ⟨fun _ => fact2 rfl rfl ?_, List.forall_mem_cons.2 ⟨fun _ => fact2 rfl rfl ?_, List.forall_mem_cons.2 ⟨fun _ => fact2 rfl rfl ?_, List.forall_mem_cons.2 ⟨fun _ => fact2 rfl rfl ?_, fun _ h => absurd h List.not_mem_nil⟩⟩⟩⟩⟩⟩⟩⟩) <;> constructor <;> first | rfl | (simp [F]; done)), ?_⟩
  repeat (first | simp [F] | simp (disch := omega) only [wC, if_pos, if_neg])
  refine dc 17 rfl (c := wbyteA hA5 (ho2 _ _) hw4.tok (by omega)) (k := ?_)
  rintro _ _ ⟨rfl, k5, tk5, hw5, rfl⟩
  refine ⟨by first | exact fun _ _ h => h | (refine later_list [15, 14, 13, 10, 7, 4, 1] (by kernel_rfl) (List.forall_mem_cons.2 ⟨fun _ => fact2 rfl rfl ?_, List.forall_mem_cons.2 ⟨fun _ => fact2 rfl rfl ?_, List.forall_mem_cons.2 ⟨fun _ => fact2 rfl rfl ?_, List.forall_mem_cons.2 ⟨fun _ => fact2 rfl rfl ?_, List.forall_mem_cons.2 ⟨fun _ => fact2 rfl rfl ?_, List.forall_mem_cons.2 ⟨fun _ => fact2 rfl rfl ?_, List.forall_mem_cons.2 ⟨fun _ => fact2 rfl rfl ?_, fun _ h => absurd h List.not_mem_nil⟩⟩⟩⟩⟩⟩⟩) <;> constructor <;> first | rfl | (simp [F]; done)), ?_⟩
  repeat (first | simp [F] | simp (disch := omega) only [wC, if_pos, if_neg])
  refine dd ?_; refine hJ4 _ _ ?_; refine hK3 _ _ ?_; refine sq fun K5 hK5 => ?_; refine rg' (h := fun J6 hJ6 => ?_); refine hJ6 _ _ ?_; refine hK5 _ _ ?_; refine run_block_k ?_; refine run_loopG (X := LSt) [0, 25, 26] (fun q ρ σ1 => (q.i ≤ pp.length) ∧ (Wr σ.toks k l q.tk q.k (Bf q.i)) ∧ (ρ 27 = .v (.int .i64 q.i)) ∧ (σ1 = { σ with objs := σ.objs.set id [wrA q.k (Bf q.i)] ++ [[.v (.int .u8 pk.toNat), .v (.int .u64 ps), .v (.int .u64 pe), .sl 5 (coinsC pt) pt.length .shut, .sl 2 (persC pp) pp.length .shut]], toks := q.tk })) (fun q => pp.length - q.i) (⟨0, k5, tk5⟩) ?st1 ?rd1
  case st1 =>
   refine ⟨lp, ?_, lp, ?_⟩
   · rw [← hB0]
     exact (((hw1.trans hw2).trans hw3).trans hw4).trans hw5
   · simp only [← hB0]
  case rd1 =>
   rintro q ρ1 σ1 hF1 ⟨hj, hq, h27, hσ⟩; obtain rfl := hσ.symm
   have f1 := keepL hF1
   try simp [KeepL, F] at f1
   replace F := aF h27 F; try replace F := aF f1 F
   refine sq fun K7 hK7 => ?_; refine rg' (h := fun J8 hJ8 => ?_); refine hJ8 _ _ ?_; refine hK7 _ _ ?_; refine sq fun K9 hK9 => ?_; refine cs (fun c28 => ?_) (fun c28 => ?_)
   · try exact nope c28
     all_goals have c28p := c28; try simp [F] at c28p
     all_goals
      replace F := aF c28 F; try replace F := aF c28p F
      refine run_skip ?_; refine hK9 _ _ ?_; refine sq fun K10 hK10 => ?_; refine run_block_k ?_; refine sq fun K11 hK11 => ?_
      have hlt2 : q.i < pp.length := by have h := c28; simp at h; omega
      have hat := persC_at hlt2
      have hb1 : q.i * 2 + 2 ≤ pp.length * 2 := by omega
      have hx5 := p5 _ (List.getElem_mem hlt2)
      have hBs1 := hBs _ hlt2
      have hBl1 := hBl q.i hj
      obtain ⟨x, hx⟩ : ∃ x, x = pp[q.i] := ⟨_, rfl⟩
      rw [← hx] at hat hx5 hBs1
      obtain ⟨xl, xc⟩ := x
      simp only at hx5 hBs1
      obtain ⟨C1, hC1⟩ : ∃ C1, C1 = Bf q.i ++ nBytes 8 xl := ⟨_, rfl⟩
      rw [← hC1] at hBs1
      have nC : C1.length = (Bf q.i).length + 8 := by rw [hC1, List.length_append, nBytes_len]
      replace F := aF hlt2 F; replace F := aF hat F; replace F := aF hb1 F; refine rg' (h := fun J12 hJ12 => ?_); refine hJ12 _ _ ?_; refine hK11 _ _ ?_
      refine run_draw (by kernel_rfl) fun J13 hJ13 => ?_
      refine rp2 0 (k := ?_); refine rp2 1 (k := ?_); refine rp2 2 (k := ?_); refine rp2 4 (k := ?_); refine rp2 5 (k := ?_)
      refine dc 3 rfl (c := wlongA hC1 (ho2 _ _) hq.tok hx5.1 (by omega)) (k := ?_)
      rintro _ _ ⟨rfl, k6, tk6, hw6, rfl⟩
      refine ⟨by first | exact fun _ _ h => h | (refine later_list [5, 4, 1] (by kernel_rfl) (List.forall_mem_cons.2 ⟨fun _ => fact2 rfl rfl ?_, List.forall_mem_cons.2 ⟨fun _ => fact2 rfl rfl ?_, List.forall_mem_cons.2 ⟨fun _ => fact2 rfl rfl ?_, fun _ h => absurd h List.not_mem_nil⟩⟩⟩) <;> constructor <;> first | rfl | (simp [F]; done)), ?_⟩
      repeat (first | simp [F] | simp (disch := omega) only [wC, if_pos, if_neg])
      refine dc 6 rfl (c := wcoinsA hBs1 (ho2 _ _) hw6.tok (by omega) (by omega)) (k := ?_)
      rintro _ _ ⟨rfl, k7, tk7, hw7, rfl⟩
      refine ⟨by first | exact fun _ _ h => h | (refine later_list [4, 1] (by kernel_rfl) (List.forall_mem_cons.2 ⟨fun _ => fact2 rfl rfl ?_, List.forall_mem_cons.2 ⟨fun _ => fact2 rfl rfl ?_, fun _ h => absurd h List.not_mem_nil⟩⟩) <;> constructor <;> first | rfl | (simp [F]; done)), ?_⟩
      repeat (first | simp [F] | simp (disch := omega) only [wC, if_pos, if_neg])
      refine dd ?_; refine hJ13 _ _ ?_; refine hK10 _ _ ?_; refine rg' (h := fun J14 hJ14 => ?_); refine hJ14 _ _ ?_; refine ⟨gk, (⟨q.i + 1, k7, tk7⟩), ⟨kpG, lpG, ?_, lpG, ?_⟩, lpG⟩
      · exact (hq.trans hw6).trans hw7
      · simp [St.trimO, F]
   try exact nope c28
   all_goals have c28p := c28; try simp [F] at c28p
   all_goals
    replace F := aF c28 F; try replace F := aF c28p F
    refine run_exit ?_; try simp only [Then, InBlock, NoGoto, if_true]
    refine answer_none rfl (.inl rfl) ?_
    have hii : q.i = pp.length := by have h := c28; simp at h; omega
    rw [hii, hBA] at hq
    rw [hii, hBA]
    exact ⟨(q.k, q.tk), hq, rfl, _, rfl⟩

end Go.Proofs.Ytdbaddholggkbaa

/-
  The document's writer: numbers and lists of coins.
-/
namespace Go.Proofs.Ytdbaddholggkbaa
set_option linter.unnecessarySimpa false
open Go Go.Vm
set_option linter.unusedSimpArgs false
set_option linter.unusedVariables false
set_option maxRecDepth 100000
attribute [local simp] evalL wantedA isCall opA evalA evalAll evalsA evalOpt ofValue ofCell plain binA_eql_pn binA_neq_pn binA_gtr binA_lss binA_geq binA_leq binA_add binA_sub binA_eql binA_neq binA_or binA_shl binA_shr binA_mul binA_quo binA_rem binA_agg_eql binA_agg_neq convA_int unA_not fieldAddrA loadA partA pickA_true pickA_false pickA_bb lenA builtinA storeA splice AV.cells AV.isCell sliceA boundA intA callOf indexAddrA newObjA buildA fillA zeroA ofCells buildSliceA indexA fieldA coinsC_at
/-! ### Lists of bytes that are being made -/

def tkB (l : List UInt8) : List Nat := if l = [] then [] else [l.length]
@[simp] theorem tkB_nil : tkB [] = [] := rfl
theorem wrA_nil (k : Nat) : wrA k [] = .sl 0 [] 0 .full := rfl
class SmallB (l : List UInt8) : Prop where
  h : l.length ≤ 500000

/-! ### The sixteen digits of a number -/
def dgA (l : List Nat) : List AV := l.map fun d => .v (.int .u64 (d : Nat))
def tkD (l : List Nat) : List Nat := if l = [] then [] else [l.length]
@[simp] theorem tkD_nil : tkD [] = [] := rfl
@[simp] theorem dgA_len (l : List Nat) : (dgA l).length = l.length := by simp [dgA]
theorem under_dgA (B : Bd) : ∀ l : List Nat, underL B (dgA l) = true
  | [] => rfl
  | d :: l => under_dgA B l
class SmallN (l : List Nat) : Prop where
  h : l.length ≤ 1000
end Go.Proofs.Ytdbaddholggkbaa
