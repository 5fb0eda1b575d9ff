import Derived.Test.YtdbaddholggkbaaZ7
import Derived.Test.YtdbaddholggkbaaZ14
import Derived.Test.YtdbaddholggkbaaZ12
import Derived.Test.YtdbaddholggkbaaZ13
/-
  The bytes of a message..
-/
namespace Go.Proofs.Ytdbaddholggkbaa
set_option linter.unnecessarySimpa false
set_option maxRecDepth 100000
open Go Go.Vm
set_option linter.unusedSimpArgs false
set_option linter.unusedVariables false
attribute [local simp] evalL wantedA isCall opA evalA evalAll evalsA evalOpt ofValue ofCell plain binA_eql_pn binA_neq_pn binA_gtr binA_lss binA_geq binA_leq binA_add binA_sub binA_eql binA_neq binA_orI binA_shl binA_shr binA_mul binA_quo binA_rem binA_agg_eql binA_agg_neq convA_int unA_not fieldAddrA loadA partA pickA_true pickA_false pickA_bb lenA builtinA storeA splice AV.cells AV.isCell sliceA boundA intA callOf indexAddrA newObjA buildA fillA zeroA ofCells buildSliceA indexA fieldA numA_len4 numA_take4 numA_drop4 set_appN get_appN take_appN List.getElem?_cons_zero List.getElem?_cons_succ makeA zeros64

def encO (x : Out) : List UInt8 := x.t :: encL x.c
def encOs (l : List Out) : List UInt8 := l.flatMap encO
theorem encOs_snoc (l : List Out) (x : Out) : encOs (l ++ [x]) = encOs l ++ encO x := by simp [encOs]
theorem encOs_len : ∀ l : List Out, (∀ x ∈ l, x.c.length ≤ 8) → (encOs l).length ≤ 274 * l.length
  | [], _ => by simp [encOs]
  | x :: l, h => by
    have h1 := encOs_len l (fun y hy => h y (by simp [hy]))
    have h2 := encL_len (h x (by simp))
    have e : encOs (x :: l) = encO x ++ encOs l := rfl
    rw [e]
    simp only [encO, List.length_append, List.length_cons]
    omega
def ncE (m : Msg) : List UInt8 := bif hB m.k 1024 then [] else m.f :: (nBytes 8 m.s ++ encL m.fee)
def ncT (m : Msg) : List UInt8 := bif hB m.k 1 then [m.t] else []
def ncV (m : Msg) : List UInt8 := bif hB m.k 2 then [m.v] else []
def ncO (m : Msg) : List UInt8 := bif hB m.k 4 then [m.o] else []
def ncN (m : Msg) : List UInt8 := bif hB m.k 8 then encN m.n.v else []
def ncC (m : Msg) : List UInt8 := bif hB m.k 16 then encL m.c else []
def ncU (m : Msg) : List UInt8 := bif hB m.k 32 then UInt8.ofNat m.outs.length :: encOs m.outs else []
def ncP (m : Msg) : List UInt8 := bif hB m.k 64 then encPl m.p else []
def ncM (m : Msg) : List UInt8 := bif hB m.k 128 then nBytes 8 m.tm else []
def ncQ (m : Msg) : List UInt8 := bif hB m.k 256 then nBytes 2 m.pt else []
def ncJ (m : Msg) : List UInt8 := bif hB m.k 512 then [if m.j then 1 else 0] else []
def encM (m : Msg) : List UInt8 := m.k :: (ncE m ++ (ncT m ++ (ncV m ++ (ncO m ++ (ncN m ++ (ncC m ++ (ncU m ++ (ncP m ++ (ncM m ++ (ncQ m ++ ncJ m))))))))))

theorem perOk_mem : ∀ (l : List Per) (E : Nat) (a : List Coin) (r : Nat × List Coin), perOk l E a = some r → ∀ x ∈ l, Right x.c
  | [], _, _, _, _ => by simp
  | x :: l, E, a, r, h => by
    simp only [perOk] at h
    split at h
    · cases h
    · rename_i hn
      split at h
      · intro y hy
        rcases List.mem_cons.1 hy with e | hy
        · subst e
          exact Classical.byContradiction fun hc => hn (.inr (.inr (.inr (fun hh => hc hh.2))))
        · exact perOk_mem l _ _ _ h y hy
      · cases h
theorem rightB_bounds {p : Pln} (h : rightB p = true) : Right p.tot ∧ p.ps.length ≤ 16 ∧ ∀ x ∈ p.ps, Right x.c := by
  unfold rightB at h
  split at h
  · rw [of_decide_eq_true h]; exact ⟨Go.Vm.right_nil, by simp, by simp⟩
  · split at h
    · cases h
    · rename_i hn
      have hr : Right p.tot := Classical.byContradiction fun hc => hn (.inl (fun hh => hc hh.2))
      have nps : p.ps = [] → Right p.tot ∧ p.ps.length ≤ 16 ∧ ∀ x ∈ p.ps, Right x.c := fun e => ⟨hr, by rw [e]; simp, by rw [e]; simp⟩
      split at h
      · exact nps (of_decide_eq_true h).2
      · split at h
        · exact nps (of_decide_eq_true h).2
        · split at h
          · exact nps (of_decide_eq_true h).2.2
          · split at h
            · simp only [perB, Bool.and_eq_true, decide_eq_true_eq] at h
              exact ⟨hr, h.1, perOk_mem _ _ _ _ h.2⟩
            · cases h
structure MB (m : Msg) : Prop where
  fee : Right m.fee
  c : Right m.c
  outs : m.outs.length ≤ 16
  out : ∀ x ∈ m.outs, Right x.c
  p : Right m.p.tot ∧ m.p.ps.length ≤ 16 ∧ ∀ x ∈ m.p.ps, Right x.c
theorem right_mb {m : Msg} (h : rightM m = true) : MB m := by
  unfold rightM at h
  simp only [Bool.and_eq_true, decide_eq_true_eq, Bool.not_eq_true', List.all_eq_true] at h
  obtain ⟨⟨⟨⟨⟨⟨⟨⟨⟨h1, h2⟩, h3⟩, h4⟩, h5⟩, h6⟩, h7⟩, h8⟩, h9⟩, h10⟩ := h
  refine ⟨h4.1, h4.2, ?_, fun x hx => ?_, rightB_bounds h8⟩
  · cases hu : hB m.k 32
    · have : m.outs = [] := by rw [h2]; simp [onlyM, hu]
      rw [this]; simp
    · rw [hu] at h5
      simp at h5
      omega
  · have := h7 x hx
    simp only [outB, Bool.and_eq_true, decide_eq_true_eq] at this
    exact this.2

theorem wnumA {σ : St} {id k x : Nat} {l A : List UInt8} (hA : A = l ++ encN x) (h : σ.objs[id]? = some [wrA k l]) (ht : Tk σ.toks k l) (hx : x < 2 ^ 256) (hl : l.length ≤ 300000) :
    CallsA Try.prog 103 [.ptr id 0, .agg (numA x)] σ (WQ id σ k l A) := by
  subst hA; exact wnum_ok h ht hx (by omega)
theorem wshortA {σ : St} {id k n : Nat} {l A : List UInt8} (hA : A = l ++ nBytes 2 n) (h : σ.objs[id]? = some [wrA k l]) (ht : Tk σ.toks k l) (hn : n < 2 ^ 16) (hl : l.length ≤ 300000) :
    CallsA Try.prog 104 [.ptr id 0, .v (.int .u16 n)] σ (WQ id σ k l A) := by
  subst hA; exact wshort_ok h ht hn (by omega)
theorem wflagA {σ : St} {id k : Nat} {l A : List UInt8} {b : Bool} (hA : A = l ++ [if b then 1 else 0]) (h : σ.objs[id]? = some [wrA k l]) (ht : Tk σ.toks k l) (hl : l.length ≤ 300000) :
    CallsA Try.prog 105 [.ptr id 0, .v (.bool b)] σ (WQ id σ k l A) := by
  subst hA; exact wflag_ok h ht (by omega)
theorem mdoneA {σ : St} {id k : Nat} {l : List UInt8} (h : σ.objs[id]? = some [wrA k l]) (hne : l ≠ []) (hl : l.length ≤ 1000000) :
    CallsA Try.prog 41 [.ptr id 0] σ (fun av σ' => av = .sl 1 (bytesA l) l.length .shut ∧ σ = σ') := done_ok (tl := .own k) (by simpa [wrA, hne] using h) hl

set_option maxHeartbeats 1600000 in
attribute [local simp] undefA List.getElem?_cons_zero List.getElem?_cons_succ msgC outC outsC_noObj persC_noObj noObj_wrA noObj_wrA' in
theorem encode_ok {σ : St} {m : Msg} (hm : m.Ok) :
    CallsA Try.prog 54 [.agg (msgC m)] σ (fun av σ' => av = (bif rightM m then .tup [.sl 1 (bytesA (encM m)) (encM m).length .shut, .v (.int .i64 0)] else .tup [.sl 1 [] 0 .shut, .v (.int .i64 4)]) ∧ σ = σ') := by
  refine callsA_gcS ?_ (by cases rightM m <;> simp [AV.under, underL])
  have hmr := fun σ => mright_ok (σ := σ) hm
  obtain ⟨G, hG⟩ : ∃ G, G = rightM m := ⟨_, rfl⟩
  rw [← hG] at hmr ⊢
  have hb : G = true → MB m := fun e => right_mb (by rw [← hG]; exact e)
  obtain ⟨h1, h2, h3, h4, h5, h6, h7, h8⟩ := hm
  obtain ⟨A, hA⟩ : ∃ A, A = encM m := ⟨_, rfl⟩
  have hne : A ≠ [] := by rw [hA]; simp [encM]
  rw [← hA]
  obtain ⟨x1, x2, x3, x4, x5, x6, x7, x8, x9, x10, x11, x12, x13, x14⟩ := m
  simp only at h1 h2 h3 h4 h5 h6 h7 h8
  have hhas := fun σ => has_ok (σ := σ) (k := x1)
  obtain ⟨h, hh⟩ : ∃ h, h = hasN x1 := ⟨_, rfl⟩
  have hlt : h < 4096 := by rw [hh]; exact hasN_lt _
  rw [← hh] at hhas
  obtain ⟨eE, heE⟩ : ∃ e, e = h &&& 1024 := ⟨_, rfl⟩
  have handE : ∀ xo yo, binA Try.prog .and 3 xo yo (.v (.int .i64 (h : Nat))) (.v (.int .i64 1024)) = some (.v (.int .i64 (eE : Nat))) := fun xo yo => by rw [heE]; exact binA_andN _ xo yo hlt (by decide)
  obtain ⟨bE, hbE⟩ : ∃ b, b = hB x1 1024 := ⟨_, rfl⟩
  have hneE : (((eE : Nat) : Int) != 0) = bE := by rw [hbE, hB, ← hh, ← heE]; simp [bne, Int.natCast_eq_zero]; rw [Bool.eq_iff_iff]; simp
  obtain ⟨eT, heT⟩ : ∃ e, e = h &&& 1 := ⟨_, rfl⟩
  have handT : ∀ xo yo, binA Try.prog .and 3 xo yo (.v (.int .i64 (h : Nat))) (.v (.int .i64 1)) = some (.v (.int .i64 (eT : Nat))) := fun xo yo => by rw [heT]; exact binA_andN _ xo yo hlt (by decide)
  obtain ⟨bT, hbT⟩ : ∃ b, b = hB x1 1 := ⟨_, rfl⟩
  have hneT : (((eT : Nat) : Int) != 0) = bT := by rw [hbT, hB, ← hh, ← heT]; simp [bne, Int.natCast_eq_zero]; rw [Bool.eq_iff_iff]; simp
  obtain ⟨eV, heV⟩ : ∃ e, e = h &&& 2 := ⟨_, rfl⟩
  have handV : ∀ xo yo, binA Try.prog .and 3 xo yo (.v (.int .i64 (h : Nat))) (.v (.int .i64 2)) = some (.v (.int .i64 (eV : Nat))) := fun xo yo => by rw [heV]; exact binA_andN _ xo yo hlt (by decide)
  obtain ⟨bV, hbV⟩ : ∃ b, b = hB x1 2 := ⟨_, rfl⟩
  have hneV : (((eV : Nat) : Int) != 0) = bV := by rw [hbV, hB, ← hh, ← heV]; simp [bne, Int.natCast_eq_zero]; rw [Bool.eq_iff_iff]; simp
  obtain ⟨eO, heO⟩ : ∃ e, e = h &&& 4 := ⟨_, rfl⟩
  have handO : ∀ xo yo, binA Try.prog .and 3 xo yo (.v (.int .i64 (h : Nat))) (.v (.int .i64 4)) = some (.v (.int .i64 (eO : Nat))) := fun xo yo => by rw [heO]; exact binA_andN _ xo yo hlt (by decide)
  obtain ⟨bO, hbO⟩ : ∃ b, b = hB x1 4 := ⟨_, rfl⟩
  have hneO : (((eO : Nat) : Int) != 0) = bO := by rw [hbO, hB, ← hh, ← heO]; simp [bne, Int.natCast_eq_zero]; rw [Bool.eq_iff_iff]; simp
  obtain ⟨eN, heN⟩ : ∃ e, e = h &&& 8 := ⟨_, rfl⟩
  have handN : ∀ xo yo, binA Try.prog .and 3 xo yo (.v (.int .i64 (h : Nat))) (.v (.int .i64 8)) = some (.v (.int .i64 (eN : Nat))) := fun xo yo => by rw [heN]; exact binA_andN _ xo yo hlt (by decide)
  obtain ⟨bN, hbN⟩ : ∃ b, b = hB x1 8 := ⟨_, rfl⟩
  have hneN : (((eN : Nat) : Int) != 0) = bN := by rw [hbN, hB, ← hh, ← heN]; simp [bne, Int.natCast_eq_zero]; rw [Bool.eq_iff_iff]; simp
  obtain ⟨eC, heC⟩ : ∃ e, e = h &&& 16 := ⟨_, rfl⟩
  have handC : ∀ xo yo, binA Try.prog .and 3 xo yo (.v (.int .i64 (h : Nat))) (.v (.int .i64 16)) = some (.v (.int .i64 (eC : Nat))) := fun xo yo => by rw [heC]; exact binA_andN _ xo yo hlt (by decide)
  obtain ⟨bC, hbC⟩ : ∃ b, b = hB x1 16 := ⟨_, rfl⟩
  have hneC : (((eC : Nat) : Int) != 0) = bC := by rw [hbC, hB, ← hh, ← heC]; simp [bne, Int.natCast_eq_zero]; rw [Bool.eq_iff_iff]; simp
  obtain ⟨eU, heU⟩ : ∃ e, e = h &&& 32 := ⟨_, rfl⟩
  have handU : ∀ xo yo, binA Try.prog .and 3 xo yo (.v (.int .i64 (h : Nat))) (.v (.int .i64 32)) = some (.v (.int .i64 (eU : Nat))) := fun xo yo => by rw [heU]; exact binA_andN _ xo yo hlt (by decide)
  obtain ⟨bU, hbU⟩ : ∃ b, b = hB x1 32 := ⟨_, rfl⟩
  have hneU : (((eU : Nat) : Int) != 0) = bU := by rw [hbU, hB, ← hh, ← heU]; simp [bne, Int.natCast_eq_zero]; rw [Bool.eq_iff_iff]; simp
  obtain ⟨eP, heP⟩ : ∃ e, e = h &&& 64 := ⟨_, rfl⟩
  have handP : ∀ xo yo, binA Try.prog .and 3 xo yo (.v (.int .i64 (h : Nat))) (.v (.int .i64 64)) = some (.v (.int .i64 (eP : Nat))) := fun xo yo => by rw [heP]; exact binA_andN _ xo yo hlt (by decide)
  obtain ⟨bP, hbP⟩ : ∃ b, b = hB x1 64 := ⟨_, rfl⟩
  have hneP : (((eP : Nat) : Int) != 0) = bP := by rw [hbP, hB, ← hh, ← heP]; simp [bne, Int.natCast_eq_zero]; rw [Bool.eq_iff_iff]; simp
  obtain ⟨eM, heM⟩ : ∃ e, e = h &&& 128 := ⟨_, rfl⟩
  have handM : ∀ xo yo, binA Try.prog .and 3 xo yo (.v (.int .i64 (h : Nat))) (.v (.int .i64 128)) = some (.v (.int .i64 (eM : Nat))) := fun xo yo => by rw [heM]; exact binA_andN _ xo yo hlt (by decide)
  obtain ⟨bM, hbM⟩ : ∃ b, b = hB x1 128 := ⟨_, rfl⟩
  have hneM : (((eM : Nat) : Int) != 0) = bM := by rw [hbM, hB, ← hh, ← heM]; simp [bne, Int.natCast_eq_zero]; rw [Bool.eq_iff_iff]; simp
  obtain ⟨eQ, heQ⟩ : ∃ e, e = h &&& 256 := ⟨_, rfl⟩
  have handQ : ∀ xo yo, binA Try.prog .and 3 xo yo (.v (.int .i64 (h : Nat))) (.v (.int .i64 256)) = some (.v (.int .i64 (eQ : Nat))) := fun xo yo => by rw [heQ]; exact binA_andN _ xo yo hlt (by decide)
  obtain ⟨bQ, hbQ⟩ : ∃ b, b = hB x1 256 := ⟨_, rfl⟩
  have hneQ : (((eQ : Nat) : Int) != 0) = bQ := by rw [hbQ, hB, ← hh, ← heQ]; simp [bne, Int.natCast_eq_zero]; rw [Bool.eq_iff_iff]; simp
  obtain ⟨eJ, heJ⟩ : ∃ e, e = h &&& 512 := ⟨_, rfl⟩
  have handJ : ∀ xo yo, binA Try.prog .and 3 xo yo (.v (.int .i64 (h : Nat))) (.v (.int .i64 512)) = some (.v (.int .i64 (eJ : Nat))) := fun xo yo => by rw [heJ]; exact binA_andN _ xo yo hlt (by decide)
  obtain ⟨bJ, hbJ⟩ : ∃ b, b = hB x1 512 := ⟨_, rfl⟩
  have hneJ : (((eJ : Nat) : Int) != 0) = bJ := by rw [hbJ, hB, ← hh, ← heJ]; simp [bne, Int.natCast_eq_zero]; rw [Bool.eq_iff_iff]; simp
  have heqE : (((eE : Nat) : Int) == 0) = !bE := by rw [← hneE]; simp [bne]
  obtain ⟨A0, hA0⟩ : ∃ A, A = [x1] := ⟨_, rfl⟩
  obtain ⟨AE, hAE⟩ : ∃ A, A = A0 ++ (bif bE then [] else x2 :: (nBytes 8 x3 ++ encL x4)) := ⟨_, rfl⟩
  obtain ⟨AT, hAT⟩ : ∃ A, A = AE ++ (bif bT then [x5] else []) := ⟨_, rfl⟩
  obtain ⟨AVl, hAV⟩ : ∃ A, A = AT ++ (bif bV then [x6] else []) := ⟨_, rfl⟩
  obtain ⟨AO, hAO⟩ : ∃ A, A = AVl ++ (bif bO then [x7] else []) := ⟨_, rfl⟩
  obtain ⟨AN, hAN⟩ : ∃ A, A = AO ++ (bif bN then encN x8.v else []) := ⟨_, rfl⟩
  obtain ⟨AC, hAC⟩ : ∃ A, A = AN ++ (bif bC then encL x9 else []) := ⟨_, rfl⟩
  obtain ⟨AU, hAU⟩ : ∃ A, A = AC ++ (bif bU then UInt8.ofNat x10.length :: encOs x10 else []) := ⟨_, rfl⟩
  obtain ⟨AP, hAP⟩ : ∃ A, A = AU ++ (bif bP then encPl x11 else []) := ⟨_, rfl⟩
  obtain ⟨AM, hAM⟩ : ∃ A, A = AP ++ (bif bM then nBytes 8 x12 else []) := ⟨_, rfl⟩
  obtain ⟨AQ, hAQ⟩ : ∃ A, A = AM ++ (bif bQ then nBytes 2 x13 else []) := ⟨_, rfl⟩
  obtain ⟨AJ, hAJ⟩ : ∃ A, A = AQ ++ (bif bJ then [if x14 then 1 else 0] else []) := ⟨_, rfl⟩
  have hAJ2 : AJ = A := by rw [hA, hAJ, hAQ, hAM, hAP, hAU, hAC, hAN, hAO, hAV, hAT, hAE, hA0]; simp only [encM, ncE, ncT, ncV, ncO, ncN, ncC, ncU, ncP, ncM, ncQ, ncJ, ← hbE, ← hbT, ← hbV, ← hbO, ← hbN, ← hbC, ← hbU, ← hbP, ← hbM, ← hbQ, ← hbJ]; simp
  clear hA hh hbE hbT hbV hbO hbN hbC hbU hbP hbM hbQ hbJ heE heT heV heO heN heC heU heP heM heQ heJ
  have hlen : MB ⟨x1, x2, x3, x4, x5, x6, x7, x8, x9, x10, x11, x12, x13, x14⟩ → A0.length ≤ 1 ∧ AE.length ≤ 290 ∧ AT.length ≤ 291 ∧ AVl.length ≤ 292 ∧ AO.length ≤ 293 ∧ AN.length ≤ 330 ∧ AC.length ≤ 610 ∧ AU.length ≤ 5100 ∧ AP.length ≤ 10000 ∧ AM.length ≤ 10008 ∧ AQ.length ≤ 10010 ∧ AJ.length ≤ 10011 := fun mb => by
    have l4 := right_len mb.fee
    have l9 := right_len mb.c
    have l10 := encOs_len x10 (fun x hx => right_len (mb.out x hx))
    have m10 := mb.outs
    have lE := encL_len l4
    have lC := encL_len l9
    have lN := natBytes_len x8.v 32 (by simpa using x8.h)
    have lP := encPers_len x11.ps (fun x hx => right_len (mb.p.2.2 x hx))
    have lP1 := encL_len (right_len mb.p.1)
    have lP2 := mb.p.2.1
    simp only at l4 l9 l10 m10 lE lC lP lP1 lP2
    have q0 : A0.length ≤ 1 := by rw [hA0]; simp
    have qE : AE.length ≤ 290 := by rw [hAE]; cases bE <;> simp [nBytes_len] <;> omega
    have qT : AT.length ≤ 291 := by rw [hAT]; cases bT <;> simp <;> omega
    have qV : AVl.length ≤ 292 := by rw [hAV]; cases bV <;> simp <;> omega
    have qO : AO.length ≤ 293 := by rw [hAO]; cases bO <;> simp <;> omega
    have qN : AN.length ≤ 330 := by rw [hAN]; cases bN <;> simp [encN] <;> omega
    have qC : AC.length ≤ 610 := by rw [hAC]; cases bC <;> simp <;> omega
    have qU : AU.length ≤ 5100 := by rw [hAU]; cases bU <;> simp <;> omega
    have qP : AP.length ≤ 10000 := by rw [hAP]; cases bP <;> simp [encPl, nBytes_len] <;> omega
    have qM : AM.length ≤ 10008 := by rw [hAM]; cases bM <;> simp [nBytes_len] <;> omega
    have qQ : AQ.length ≤ 10010 := by rw [hAQ]; cases bQ <;> simp [nBytes_len] <;> omega
    have qJ : AJ.length ≤ 10011 := by rw [hAJ]; cases bJ <;> simp <;> omega
    exact ⟨q0, qE, qT, qV, qO, qN, qC, qU, qP, qM, qQ, qJ⟩
  have hpl : MB ⟨x1, x2, x3, x4, x5, x6, x7, x8, x9, x10, x11, x12, x13, x14⟩ → ∀ ⦃τ : St⦄ ⦃id k : Nat⦄ ⦃l B : List UInt8⦄, B = l ++ encPl x11 → τ.objs[id]? = some [wrA k l] → Tk τ.toks k l → l.length ≤ 100000 → CallsA Try.prog 40 [.ptr id 0, .agg (plnC x11)] τ (fun av σ' => av = .tup [] ∧ ∃ k' tk', Wr τ.toks k l tk' k' B ∧ σ' = { τ with objs := τ.objs.set id [wrA k' B], toks := tk' }) :=
    fun mb τ id k l B hB h ht hl => play_ok hB h ht hl h6.1 h6.2.1 (right_len mb.p.1) (by have := mb.p.2.1; simp only at this; omega) (fun x hx => ⟨(h6.2.2.2.2 x hx).1, right_len (mb.p.2.2 x hx)⟩)
  obtain ⟨c, hc⟩ : ∃ c, c = UInt8.ofNat x10.length := ⟨_, rfl⟩
  have hcn : x10.length ≤ 16 → IntKind.u8.wrap (x10.length : Int) = (c.toNat : Int) := fun h => by rw [wrap_u8, hc, toNat_ofNat (by omega), Nat.mod_eq_of_lt (by omega)]
  have hw0 : [AV.sl 0 [] 0 Tail.full] = [wrA 0 []] := rfl
  obtain ⟨xpk, xps, xpe, xpt, xpq⟩ := x11
  simp only [plnC] at hpl
  have F := And.intro handE (And.intro handT (And.intro handV (And.intro handO (And.intro handN (And.intro handC (And.intro handU (And.intro handP (And.intro handM (And.intro handQ (And.intro handJ (And.intro hneE (And.intro hneT (And.intro hneV (And.intro hneO (And.intro hneN (And.intro hneC (And.intro hneU (And.intro hneP (And.intro hneM (And.intro hneQ (And.intro hneJ (And.intro heqE (True.intro)))))))))))))))))))))))
  refine callsA_body Try.func54 rfl rfl rfl ?_; refine sr fun _ hJ2 => ?_; refine hJ2 _ _ ?_; refine sq fun K3 hK3 => ?_; refine sr fun _ hJ5 => ?_; refine ca (c := hmr _) (k := ?_); rintro _ _ ⟨rfl, rfl⟩; (repeat (first | simp [F] | simp (disch := omega) only [wC, if_pos, if_neg])); refine hJ5 _ _ ?_; refine cs (t := !G) (fun c11 => ?_) (fun c11 => ?_)
  · (try exact nope c11); all_goals have c11p := c11; try simp [F] at c11p
    all_goals
     replace F := aF c11 F; (try replace F := aF c11p F); refine sr fun _ hJ7 => ?_; refine hJ7 _ _ ?_; refine run_ret ?_; (try simp only [Then, InBlock, NoGoto]); refine answer_tmp2 rfl (.inr rfl) ?_
     have hGf : G = false := by simpa using c11
     rw [hGf]
     exact gcr (hA := WkL.tup (.cons (Wk.nil _ _ _) (.cons (Wk.refl _) .nil)))
  (try exact nope c11); all_goals have c11p := c11; try simp [F] at c11p
  all_goals
   replace F := aF c11 F; (try replace F := aF c11p F); refine run_skip ?_; refine hK3 _ _ ?_; refine sq fun K8 hK8 => ?_
   have hGt : G = true := by simpa using c11
   obtain ⟨n0, nE, nT, nV, nO, nN, nC, nU, nP, nM, nQ, nJ⟩ := hlen (hb hGt)
   have mb := hb hGt
   have l4 := right_len mb.fee
   have l9 := right_len mb.c
   have l10 := mb.outs
   simp only at l4 l9 l10
   have hcw := hcn l10
   have hpl := hpl mb
   replace F := aF hGt (And.intro hcw F); refine rg' (h := fun J9 hJ9 => ?_); refine ca (c := hhas _) (k := ?_); rintro _ _ ⟨rfl, rfl⟩; (repeat (first | simp [F] | simp (disch := omega) only [wC, if_pos, if_neg])); refine hJ9 _ _ ?_; refine hK8 _ _ ?_; refine sq fun K10 hK10 => ?_; replace F := aF hw0 F; refine rg' (h := fun J11 hJ11 => ?_); refine hJ11 _ _ ?_; refine hK10 _ _ ?_; refine sr fun _ hJ13 => ?_
   refine ca (c := wbyteA (k := 0) (l := []) (A := A0) (by rw [hA0]; rfl) (by simp [F, hw0]) (.inl rfl) (by simp)) (k := ?_)
   rintro _ _ ⟨rfl, k0, tk0, w0, rfl⟩; (repeat (first | simp [F] | simp (disch := omega) only [wC, if_pos, if_neg])); refine hJ13 _ _ ?_; refine sqc (X := Nat × List Nat) [1, 2, 3, 4, 6] (fun qE ρ σ1 => (Wr σ.toks 0 [] qE.2 qE.1 AE) ∧ (σ1 = { σ with objs := σ.objs ++ [[.v (.int .u8 x1.toNat), .v (.int .u8 x2.toNat), .v (.int .u64 x3), .sl 5 (coinsC x4) x4.length .shut, .v (.int .u8 x5.toNat), .v (.int .u8 x6.toNat), .v (.int .u8 x7.toNat), .v (.int .u64 (limb x8.v 0)), .v (.int .u64 (limb x8.v 1)), .v (.int .u64 (limb x8.v 2)), .v (.int .u64 (limb x8.v 3)), .sl 5 (coinsC x9) x9.length .shut, .sl 2 (outsC x10) x10.length .shut, .v (.int .u8 xpk.toNat), .v (.int .u64 xps), .v (.int .u64 xpe), .sl 5 (coinsC xpt) xpt.length .shut, .sl 2 (persC xpq) xpq.length .shut, .v (.int .u64 x12), .v (.int .u16 x13), .v (.bool x14)], [wrA qE.1 AE]], toks := qE.2 })) ?cy14 ?cx14
   case cy14 =>
    rintro qE ρCc26 σ1 hFCc26 ⟨wE, hσ⟩; obtain rfl := hσ.symm
    have fCc26 := keepL hFCc26
    (try simp [KeepL, F] at fCc26); (try replace F := aF fCc26 F); refine sqc (X := Nat × List Nat) [1, 2, 3, 4, 6] (fun qT ρ σ1 => (Wr σ.toks 0 [] qT.2 qT.1 AT) ∧ (σ1 = { σ with objs := σ.objs ++ [[.v (.int .u8 x1.toNat), .v (.int .u8 x2.toNat), .v (.int .u64 x3), .sl 5 (coinsC x4) x4.length .shut, .v (.int .u8 x5.toNat), .v (.int .u8 x6.toNat), .v (.int .u8 x7.toNat), .v (.int .u64 (limb x8.v 0)), .v (.int .u64 (limb x8.v 1)), .v (.int .u64 (limb x8.v 2)), .v (.int .u64 (limb x8.v 3)), .sl 5 (coinsC x9) x9.length .shut, .sl 2 (outsC x10) x10.length .shut, .v (.int .u8 xpk.toNat), .v (.int .u64 xps), .v (.int .u64 xpe), .sl 5 (coinsC xpt) xpt.length .shut, .sl 2 (persC xpq) xpq.length .shut, .v (.int .u64 x12), .v (.int .u16 x13), .v (.bool x14)], [wrA qT.1 AT]], toks := qT.2 })) ?cy15 ?cx15
    case cy15 =>
     rintro qT ρCc39 σ1 hFCc39 ⟨wT, hσ⟩; obtain rfl := hσ.symm
     have fCc39 := keepL hFCc39
     (try simp [KeepL, F] at fCc39); (try replace F := aF fCc39 F); refine sqc (X := Nat × List Nat) [1, 2, 3, 4, 6] (fun qV ρ σ1 => (Wr σ.toks 0 [] qV.2 qV.1 AVl) ∧ (σ1 = { σ with objs := σ.objs ++ [[.v (.int .u8 x1.toNat), .v (.int .u8 x2.toNat), .v (.int .u64 x3), .sl 5 (coinsC x4) x4.length .shut, .v (.int .u8 x5.toNat), .v (.int .u8 x6.toNat), .v (.int .u8 x7.toNat), .v (.int .u64 (limb x8.v 0)), .v (.int .u64 (limb x8.v 1)), .v (.int .u64 (limb x8.v 2)), .v (.int .u64 (limb x8.v 3)), .sl 5 (coinsC x9) x9.length .shut, .sl 2 (outsC x10) x10.length .shut, .v (.int .u8 xpk.toNat), .v (.int .u64 xps), .v (.int .u64 xpe), .sl 5 (coinsC xpt) xpt.length .shut, .sl 2 (persC xpq) xpq.length .shut, .v (.int .u64 x12), .v (.int .u16 x13), .v (.bool x14)], [wrA qV.1 AVl]], toks := qV.2 })) ?cy16 ?cx16
     case cy16 =>
      rintro qV ρCc46 σ1 hFCc46 ⟨wV, hσ⟩; obtain rfl := hσ.symm
      have fCc46 := keepL hFCc46
      (try simp [KeepL, F] at fCc46); (try replace F := aF fCc46 F); refine sqc (X := Nat × List Nat) [1, 2, 3, 4, 6] (fun qO ρ σ1 => (Wr σ.toks 0 [] qO.2 qO.1 AO) ∧ (σ1 = { σ with objs := σ.objs ++ [[.v (.int .u8 x1.toNat), .v (.int .u8 x2.toNat), .v (.int .u64 x3), .sl 5 (coinsC x4) x4.length .shut, .v (.int .u8 x5.toNat), .v (.int .u8 x6.toNat), .v (.int .u8 x7.toNat), .v (.int .u64 (limb x8.v 0)), .v (.int .u64 (limb x8.v 1)), .v (.int .u64 (limb x8.v 2)), .v (.int .u64 (limb x8.v 3)), .sl 5 (coinsC x9) x9.length .shut, .sl 2 (outsC x10) x10.length .shut, .v (.int .u8 xpk.toNat), .v (.int .u64 xps), .v (.int .u64 xpe), .sl 5 (coinsC xpt) xpt.length .shut, .sl 2 (persC xpq) xpq.length .shut, .v (.int .u64 x12), .v (.int .u16 x13), .v (.bool x14)], [wrA qO.1 AO]], toks := qO.2 })) ?cy17 ?cx17
      case cy17 =>
       rintro qO ρCc53 σ1 hFCc53 ⟨wO, hσ⟩; obtain rfl := hσ.symm
       have fCc53 := keepL hFCc53
       (try simp [KeepL, F] at fCc53); (try replace F := aF fCc53 F); refine sqc (X := Nat × List Nat) [1, 2, 3, 4, 6] (fun qN ρ σ1 => (Wr σ.toks 0 [] qN.2 qN.1 AN) ∧ (σ1 = { σ with objs := σ.objs ++ [[.v (.int .u8 x1.toNat), .v (.int .u8 x2.toNat), .v (.int .u64 x3), .sl 5 (coinsC x4) x4.length .shut, .v (.int .u8 x5.toNat), .v (.int .u8 x6.toNat), .v (.int .u8 x7.toNat), .v (.int .u64 (limb x8.v 0)), .v (.int .u64 (limb x8.v 1)), .v (.int .u64 (limb x8.v 2)), .v (.int .u64 (limb x8.v 3)), .sl 5 (coinsC x9) x9.length .shut, .sl 2 (outsC x10) x10.length .shut, .v (.int .u8 xpk.toNat), .v (.int .u64 xps), .v (.int .u64 xpe), .sl 5 (coinsC xpt) xpt.length .shut, .sl 2 (persC xpq) xpq.length .shut, .v (.int .u64 x12), .v (.int .u16 x13), .v (.bool x14)], [wrA qN.1 AN]], toks := qN.2 })) ?cy18 ?cx18
       case cy18 =>
        rintro qN ρCc60 σ1 hFCc60 ⟨wN, hσ⟩; obtain rfl := hσ.symm
        have fCc60 := keepL hFCc60
        (try simp [KeepL, F] at fCc60); (try replace F := aF fCc60 F); refine sqc (X := Nat × List Nat) [1, 2, 3, 4, 6] (fun qC ρ σ1 => (Wr σ.toks 0 [] qC.2 qC.1 AC) ∧ (σ1 = { σ with objs := σ.objs ++ [[.v (.int .u8 x1.toNat), .v (.int .u8 x2.toNat), .v (.int .u64 x3), .sl 5 (coinsC x4) x4.length .shut, .v (.int .u8 x5.toNat), .v (.int .u8 x6.toNat), .v (.int .u8 x7.toNat), .v (.int .u64 (limb x8.v 0)), .v (.int .u64 (limb x8.v 1)), .v (.int .u64 (limb x8.v 2)), .v (.int .u64 (limb x8.v 3)), .sl 5 (coinsC x9) x9.length .shut, .sl 2 (outsC x10) x10.length .shut, .v (.int .u8 xpk.toNat), .v (.int .u64 xps), .v (.int .u64 xpe), .sl 5 (coinsC xpt) xpt.length .shut, .sl 2 (persC xpq) xpq.length .shut, .v (.int .u64 x12), .v (.int .u16 x13), .v (.bool x14)], [wrA qC.1 AC]], toks := qC.2 })) ?cy19 ?cx19
        case cy19 =>
         rintro qC ρCc67 σ1 hFCc67 ⟨wC, hσ⟩; obtain rfl := hσ.symm
         have fCc67 := keepL hFCc67
         (try simp [KeepL, F] at fCc67); (try replace F := aF fCc67 F); refine sqc (X := Nat × List Nat) [1, 2, 3, 4, 6] (fun qU ρ σ1 => (Wr σ.toks 0 [] qU.2 qU.1 AU) ∧ (σ1 = { σ with objs := σ.objs ++ [[.v (.int .u8 x1.toNat), .v (.int .u8 x2.toNat), .v (.int .u64 x3), .sl 5 (coinsC x4) x4.length .shut, .v (.int .u8 x5.toNat), .v (.int .u8 x6.toNat), .v (.int .u8 x7.toNat), .v (.int .u64 (limb x8.v 0)), .v (.int .u64 (limb x8.v 1)), .v (.int .u64 (limb x8.v 2)), .v (.int .u64 (limb x8.v 3)), .sl 5 (coinsC x9) x9.length .shut, .sl 2 (outsC x10) x10.length .shut, .v (.int .u8 xpk.toNat), .v (.int .u64 xps), .v (.int .u64 xpe), .sl 5 (coinsC xpt) xpt.length .shut, .sl 2 (persC xpq) xpq.length .shut, .v (.int .u64 x12), .v (.int .u16 x13), .v (.bool x14)], [wrA qU.1 AU]], toks := qU.2 })) ?cy20 ?cx20
         case cy20 =>
          rintro qU ρCc74 σ1 hFCc74 ⟨wU, hσ⟩; obtain rfl := hσ.symm
          have fCc74 := keepL hFCc74
          (try simp [KeepL, F] at fCc74); (try replace F := aF fCc74 F); refine sqc (X := Nat × List Nat) [1, 2, 3, 4, 6] (fun qP ρ σ1 => (Wr σ.toks 0 [] qP.2 qP.1 AP) ∧ (σ1 = { σ with objs := σ.objs ++ [[.v (.int .u8 x1.toNat), .v (.int .u8 x2.toNat), .v (.int .u64 x3), .sl 5 (coinsC x4) x4.length .shut, .v (.int .u8 x5.toNat), .v (.int .u8 x6.toNat), .v (.int .u8 x7.toNat), .v (.int .u64 (limb x8.v 0)), .v (.int .u64 (limb x8.v 1)), .v (.int .u64 (limb x8.v 2)), .v (.int .u64 (limb x8.v 3)), .sl 5 (coinsC x9) x9.length .shut, .sl 2 (outsC x10) x10.length .shut, .v (.int .u8 xpk.toNat), .v (.int .u64 xps), .v (.int .u64 xpe), .sl 5 (coinsC xpt) xpt.length .shut, .sl 2 (persC xpq) xpq.length .shut, .v (.int .u64 x12), .v (.int .u16 x13), .v (.bool x14)], [wrA qP.1 AP]], toks := qP.2 })) ?cy21 ?cx21
          case cy21 =>
           rintro qP ρCc98 σ1 hFCc98 ⟨wP, hσ⟩; obtain rfl := hσ.symm
           have fCc98 := keepL hFCc98
           (try simp [KeepL, F] at fCc98); (try replace F := aF fCc98 F); refine sqc (X := Nat × List Nat) [1, 2, 3, 4, 6] (fun qM ρ σ1 => (Wr σ.toks 0 [] qM.2 qM.1 AM) ∧ (σ1 = { σ with objs := σ.objs ++ [[.v (.int .u8 x1.toNat), .v (.int .u8 x2.toNat), .v (.int .u64 x3), .sl 5 (coinsC x4) x4.length .shut, .v (.int .u8 x5.toNat), .v (.int .u8 x6.toNat), .v (.int .u8 x7.toNat), .v (.int .u64 (limb x8.v 0)), .v (.int .u64 (limb x8.v 1)), .v (.int .u64 (limb x8.v 2)), .v (.int .u64 (limb x8.v 3)), .sl 5 (coinsC x9) x9.length .shut, .sl 2 (outsC x10) x10.length .shut, .v (.int .u8 xpk.toNat), .v (.int .u64 xps), .v (.int .u64 xpe), .sl 5 (coinsC xpt) xpt.length .shut, .sl 2 (persC xpq) xpq.length .shut, .v (.int .u64 x12), .v (.int .u16 x13), .v (.bool x14)], [wrA qM.1 AM]], toks := qM.2 })) ?cy22 ?cx22
           case cy22 =>
            rintro qM ρCc105 σ1 hFCc105 ⟨wM, hσ⟩; obtain rfl := hσ.symm
            have fCc105 := keepL hFCc105
            (try simp [KeepL, F] at fCc105); (try replace F := aF fCc105 F); refine sqc (X := Nat × List Nat) [1, 2, 3, 4, 6] (fun qQ ρ σ1 => (Wr σ.toks 0 [] qQ.2 qQ.1 AQ) ∧ (σ1 = { σ with objs := σ.objs ++ [[.v (.int .u8 x1.toNat), .v (.int .u8 x2.toNat), .v (.int .u64 x3), .sl 5 (coinsC x4) x4.length .shut, .v (.int .u8 x5.toNat), .v (.int .u8 x6.toNat), .v (.int .u8 x7.toNat), .v (.int .u64 (limb x8.v 0)), .v (.int .u64 (limb x8.v 1)), .v (.int .u64 (limb x8.v 2)), .v (.int .u64 (limb x8.v 3)), .sl 5 (coinsC x9) x9.length .shut, .sl 2 (outsC x10) x10.length .shut, .v (.int .u8 xpk.toNat), .v (.int .u64 xps), .v (.int .u64 xpe), .sl 5 (coinsC xpt) xpt.length .shut, .sl 2 (persC xpq) xpq.length .shut, .v (.int .u64 x12), .v (.int .u16 x13), .v (.bool x14)], [wrA qQ.1 AQ]], toks := qQ.2 })) ?cy23 ?cx23
            case cy23 =>
             rintro qQ ρCc112 σ1 hFCc112 ⟨wQ, hσ⟩; obtain rfl := hσ.symm
             have fCc112 := keepL hFCc112
             (try simp [KeepL, F] at fCc112); (try replace F := aF fCc112 F); refine sqc (X := Nat × List Nat) [2, 3, 6] (fun qJ ρ σ1 => (Wr σ.toks 0 [] qJ.2 qJ.1 AJ) ∧ (σ1 = { σ with objs := σ.objs ++ [[.v (.int .u8 x1.toNat), .v (.int .u8 x2.toNat), .v (.int .u64 x3), .sl 5 (coinsC x4) x4.length .shut, .v (.int .u8 x5.toNat), .v (.int .u8 x6.toNat), .v (.int .u8 x7.toNat), .v (.int .u64 (limb x8.v 0)), .v (.int .u64 (limb x8.v 1)), .v (.int .u64 (limb x8.v 2)), .v (.int .u64 (limb x8.v 3)), .sl 5 (coinsC x9) x9.length .shut, .sl 2 (outsC x10) x10.length .shut, .v (.int .u8 xpk.toNat), .v (.int .u64 xps), .v (.int .u64 xpe), .sl 5 (coinsC xpt) xpt.length .shut, .sl 2 (persC xpq) xpq.length .shut, .v (.int .u64 x12), .v (.int .u16 x13), .v (.bool x14)], [wrA qJ.1 AJ]], toks := qJ.2 })) ?cy24 ?cx24
             case cy24 =>
              rintro qJ ρCc119 σ1 hFCc119 ⟨wJ, hσ⟩; obtain rfl := hσ.symm
              have fCc119 := keepL hFCc119
              (try simp [KeepL, F] at fCc119); (try replace F := aF fCc119 F); refine sq fun K25 hK25 => ?_
              obtain ⟨tm, htm⟩ := wJ.pre
              rw [htm]
              refine rg' (h := fun J26 hJ26 => ?_)
              refine ca (c := mdoneA (l := AJ) (k := qJ.1) (by simp [F]) (by rw [hAJ2]; exact hne) (by omega)) (k := ?_)
              rintro _ _ ⟨rfl, rfl⟩; (repeat (first | simp [F] | simp (disch := omega) only [wC, if_pos, if_neg])); refine hJ26 _ _ ?_; refine hK25 _ _ ?_; refine run_ret ?_; (try simp only [Then, InBlock, NoGoto]); refine answer_tmp2 rfl (.inr rfl) ?_
              rw [← hAJ2, hGt]
              exact gcr (hA := by simp [F]; exact Wk.refl _)
             case cx24 =>
              intro K24 hK24
              refine sr fun _ hJ28 => ?_; refine hJ28 _ _ ?_; refine cs (t := bJ) (fun c119 => ?_) (fun c119 => ?_)
              · (try exact nope c119); all_goals have c119p := c119; try simp [F] at c119p
                all_goals
                 replace F := aF c119 F; try replace F := aF c119p F
                 have hyJ : AJ = AQ ++ ([if x14 then 1 else 0]) := by (rw [hAJ]; have h := c119; (try simp at h); simp [h])
                 refine rg' (h := fun J29 hJ29 => ?_)
                 refine ca (c := wflagA hyJ (by simp [F]) wQ.tok (by omega)) (k := ?_)
                 rintro _ _ ⟨rfl, kJ, tkJ, uJ, rfl⟩; (repeat (first | simp [F] | simp (disch := omega) only [wC, if_pos, if_neg])); refine hJ29 _ _ ?_
                 first | refine hK24 ((kJ, tkJ)) _ _ ⟨kp, ?_, lp⟩ | refine hK24 (qQ) _ _ ⟨kp, ?_, lp⟩
                 · exact wQ.trans uJ
              (try exact nope c119); all_goals have c119p := c119; try simp [F] at c119p
              all_goals
               replace F := aF c119 F; try replace F := aF c119p F
               have hzJ : AJ = AQ := by (rw [hAJ]; have h := c119; (try simp at h); simp [h])
               refine run_skip ?_
               first | refine hK24 ((kJ, tkJ)) _ _ ⟨kp, ?_, ?_⟩ | refine hK24 (qQ) _ _ ⟨kp, ?_, ?_⟩
               · rw [hzJ]
                 exact wQ
               · rw [hzJ]
            case cx23 =>
             intro K23 hK23
             refine sr fun _ hJ31 => ?_; refine hJ31 _ _ ?_; refine cs (t := bQ) (fun c112 => ?_) (fun c112 => ?_)
             · (try exact nope c112); all_goals have c112p := c112; try simp [F] at c112p
               all_goals
                replace F := aF c112 F; try replace F := aF c112p F
                have hyQ : AQ = AM ++ (nBytes 2 x13) := by (rw [hAQ]; have h := c112; (try simp at h); simp [h])
                refine rg' (h := fun J32 hJ32 => ?_)
                refine ca (c := wshortA hyQ (by simp [F]) wM.tok h8 (by omega)) (k := ?_)
                rintro _ _ ⟨rfl, kQ, tkQ, uQ, rfl⟩; (repeat (first | simp [F] | simp (disch := omega) only [wC, if_pos, if_neg])); refine hJ32 _ _ ?_
                first | refine hK23 ((kQ, tkQ)) _ _ ⟨kp, ?_, lp⟩ | refine hK23 (qM) _ _ ⟨kp, ?_, lp⟩
                · exact wM.trans uQ
             (try exact nope c112); all_goals have c112p := c112; try simp [F] at c112p
             all_goals
              replace F := aF c112 F; try replace F := aF c112p F
              have hzQ : AQ = AM := by (rw [hAQ]; have h := c112; (try simp at h); simp [h])
              refine run_skip ?_
              first | refine hK23 ((kQ, tkQ)) _ _ ⟨kp, ?_, ?_⟩ | refine hK23 (qM) _ _ ⟨kp, ?_, ?_⟩
              · rw [hzQ]
                exact wM
              · rw [hzQ]
           case cx22 =>
            intro K22 hK22
            refine sr fun _ hJ34 => ?_; refine hJ34 _ _ ?_; refine cs (t := bM) (fun c105 => ?_) (fun c105 => ?_)
            · (try exact nope c105); all_goals have c105p := c105; try simp [F] at c105p
              all_goals
               replace F := aF c105 F; try replace F := aF c105p F
               have hyM : AM = AP ++ (nBytes 8 x12) := by (rw [hAM]; have h := c105; (try simp at h); simp [h])
               refine rg' (h := fun J35 hJ35 => ?_)
               refine ca (c := wlongA hyM (by simp [F]) wP.tok h7 (by omega)) (k := ?_)
               rintro _ _ ⟨rfl, kM, tkM, uM, rfl⟩; (repeat (first | simp [F] | simp (disch := omega) only [wC, if_pos, if_neg])); refine hJ35 _ _ ?_
               first | refine hK22 ((kM, tkM)) _ _ ⟨kp, ?_, lp⟩ | refine hK22 (qP) _ _ ⟨kp, ?_, lp⟩
               · exact wP.trans uM
            (try exact nope c105); all_goals have c105p := c105; try simp [F] at c105p
            all_goals
             replace F := aF c105 F; try replace F := aF c105p F
             have hzM : AM = AP := by (rw [hAM]; have h := c105; (try simp at h); simp [h])
             refine run_skip ?_
             first | refine hK22 ((kM, tkM)) _ _ ⟨kp, ?_, ?_⟩ | refine hK22 (qP) _ _ ⟨kp, ?_, ?_⟩
             · rw [hzM]
               exact wP
             · rw [hzM]
          case cx21 =>
           intro K21 hK21
           refine sr fun _ hJ37 => ?_; refine hJ37 _ _ ?_; refine cs (t := bP) (fun c98 => ?_) (fun c98 => ?_)
           · (try exact nope c98); all_goals have c98p := c98; try simp [F] at c98p
             all_goals
              replace F := aF c98 F; try replace F := aF c98p F
              have hyP : AP = AU ++ (encPl ⟨xpk, xps, xpe, xpt, xpq⟩) := by (rw [hAP]; have h := c98; (try simp at h); simp [h])
              refine rg' (h := fun J38 hJ38 => ?_)
              refine ca (c := hpl hyP (by simp [F]) wU.tok (by omega)) (k := ?_)
              rintro _ _ ⟨rfl, kP, tkP, uP, rfl⟩; (repeat (first | simp [F] | simp (disch := omega) only [wC, if_pos, if_neg])); refine hJ38 _ _ ?_
              first | refine hK21 ((kP, tkP)) _ _ ⟨kp, ?_, lp⟩ | refine hK21 (qU) _ _ ⟨kp, ?_, lp⟩
              · exact wU.trans uP
           (try exact nope c98); all_goals have c98p := c98; try simp [F] at c98p
           all_goals
            replace F := aF c98 F; try replace F := aF c98p F
            have hzP : AP = AU := by (rw [hAP]; have h := c98; (try simp at h); simp [h])
            refine run_skip ?_
            first | refine hK21 ((kP, tkP)) _ _ ⟨kp, ?_, ?_⟩ | refine hK21 (qU) _ _ ⟨kp, ?_, ?_⟩
            · rw [hzP]
              exact wU
            · rw [hzP]
         case cx20 =>
          intro K20 hK20
          refine sr fun _ hJ40 => ?_; refine hJ40 _ _ ?_; refine cs (t := bU) (fun c74 => ?_) (fun c74 => ?_)
          · (try exact nope c74); all_goals have c74p := c74; try simp [F] at c74p
            all_goals
             replace F := aF c74 F; try replace F := aF c74p F
             have hyU : AU = AC ++ (UInt8.ofNat x10.length :: encOs x10) := by (rw [hAU]; have h := c74; (try simp at h); simp [h])
             obtain ⟨C5, hC5⟩ : ∃ C, C = AC ++ [c] := ⟨_, rfl⟩
             have m5 : C5.length ≤ 611 := by rw [hC5, List.length_append]; simp; omega
             obtain ⟨Bf, hBf⟩ : ∃ Bf : Nat → List UInt8, Bf = fun i => C5 ++ encOs (x10.take i) := ⟨_, rfl⟩
             have hB0 : C5 = Bf 0 := by rw [hBf]; simp [encOs]
             have hBl : ∀ i, i ≤ x10.length → (Bf i).length ≤ 20000 := fun i hi => by (have := encOs_len (x10.take i) (fun x hx => right_len (mb.out x (List.mem_of_mem_take hx))); have e : (x10.take i).length = i := (by simp; omega); rw [hBf]; simp only [List.length_append]; rw [e] at this; omega)
             have hBs : ∀ i (hi : i < x10.length), Bf (i + 1) = Bf i ++ [x10[i].t] ++ encL x10[i].c := fun i hi => by (rw [hBf]; simp only; rw [← List.take_append_getElem hi, encOs_snoc]; simp [encO])
             have hBA : Bf x10.length = AU := by (rw [hyU, hBf]; simp only; rw [List.take_length, hC5, ← hc]; simp)
             refine sr fun _ hJ42 => ?_
             refine ca (c := wbyteA hC5 (by simp [F]) wC.tok (by omega)) (k := ?_)
             rintro _ _ ⟨rfl, kU0, tkU0, uU0, rfl⟩; (repeat (first | simp [F] | simp (disch := omega) only [wC, if_pos, if_neg])); refine hJ42 _ _ ?_; refine sr fun _ hJ44 => ?_; refine hJ44 _ _ ?_; refine run_block_k ?_; refine run_loopG (X := LSt) [1, 2, 3, 4, 6, 82, 83] (fun y ρ σ1 => (y.i ≤ x10.length) ∧ (Wr σ.toks 0 [] y.tk y.k (Bf y.i)) ∧ (ρ 84 = .v (.int .i64 y.i)) ∧ (σ1 = { σ with objs := σ.objs ++ [[.v (.int .u8 x1.toNat), .v (.int .u8 x2.toNat), .v (.int .u64 x3), .sl 5 (coinsC x4) x4.length .shut, .v (.int .u8 x5.toNat), .v (.int .u8 x6.toNat), .v (.int .u8 x7.toNat), .v (.int .u64 (limb x8.v 0)), .v (.int .u64 (limb x8.v 1)), .v (.int .u64 (limb x8.v 2)), .v (.int .u64 (limb x8.v 3)), .sl 5 (coinsC x9) x9.length .shut, .sl 2 (outsC x10) x10.length .shut, .v (.int .u8 xpk.toNat), .v (.int .u64 xps), .v (.int .u64 xpe), .sl 5 (coinsC xpt) xpt.length .shut, .sl 2 (persC xpq) xpq.length .shut, .v (.int .u64 x12), .v (.int .u16 x13), .v (.bool x14)], [wrA y.k (Bf y.i)]], toks := y.tk })) (fun y => x10.length - y.i) (⟨0, kU0, tkU0⟩) ?st1 ?rd1
             case st1 =>
              refine ⟨lp, ?_, lp, ?_⟩
              · rw [← hB0]
                exact wC.trans uU0
              · simp only [← hB0]
             case rd1 =>
              rintro y ρ1 σ1 hF1 ⟨hj, hq, h84, hσ⟩; obtain rfl := hσ.symm
              have f1 := keepL hF1
              (try simp [KeepL, F] at f1); replace F := aF h84 F; (try replace F := aF f1 F); refine sr fun _ hJ46 => ?_; refine hJ46 _ _ ?_; refine sq fun K47 hK47 => ?_; refine cs (fun c85 => ?_) (fun c85 => ?_)
              · (try exact nope c85); all_goals have c85p := c85; try simp [F] at c85p
                all_goals
                 replace F := aF c85 F; (try replace F := aF c85p F); refine run_skip ?_; refine hK47 _ _ ?_; refine sq fun K48 hK48 => ?_; refine run_block_k ?_; refine sq fun K49 hK49 => ?_
                 have hlt2 : y.i < x10.length := by have h := c85; simp at h; omega
                 have hat := outsC_at hlt2
                 have hb1 : y.i * 2 + 2 ≤ x10.length * 2 := by omega
                 have hx5 := right_len (mb.out _ (List.getElem_mem hlt2))
                 have hBs1 := hBs _ hlt2
                 have hBl1 := hBl y.i hj
                 obtain ⟨x, hx⟩ : ∃ x, x = x10[y.i] := ⟨_, rfl⟩
                 rw [← hx] at hat hx5 hBs1
                 obtain ⟨xl, xc⟩ := x
                 simp only at hx5 hBs1
                 obtain ⟨D1, hD1⟩ : ∃ C, C = Bf y.i ++ [xl] := ⟨_, rfl⟩
                 rw [← hD1] at hBs1
                 have nD : D1.length = (Bf y.i).length + 1 := by rw [hD1, List.length_append]; rfl
                 have hwi : IntKind.i64.wrap ((y.i : Int) + 1) = (y.i : Int) + 1 := wrap_i64 _ (by omega) (by omega)
                 replace F := aF hwi F; replace F := aF hlt2 F; replace F := aF hat F; replace F := aF hb1 F; refine rg' (h := fun J50 hJ50 => ?_); refine hJ50 _ _ ?_; refine hK49 _ _ ?_
                 refine run_draw (by kernel_rfl) fun J51 hJ51 => ?_
                 refine rp2 0 (k := ?_); refine rp2 1 (k := ?_); refine rp2 2 (k := ?_); refine rp2 4 (k := ?_); refine rp2 5 (k := ?_)
                 refine dc 3 rfl (c := wbyteA hD1 (by simp [F]) hq.tok (by omega)) (k := ?_)
                 rintro _ _ ⟨rfl, k6, tk6, hw6, rfl⟩
                 refine ⟨by first | exact fun _ _ h => h | (refine later_list [5, 4, 1] (by kernel_rfl) (List.forall_mem_cons.2 ⟨fun _ => fact2 rfl rfl ?_, List.forall_mem_cons.2 ⟨fun _ => fact2 rfl rfl ?_, List.forall_mem_cons.2 ⟨fun _ => fact2 rfl rfl ?_, fun _ h => absurd h List.not_mem_nil⟩⟩⟩) <;> constructor <;> first | rfl | (simp [F]; done)), ?_⟩
                 repeat (first | simp [F] | simp (disch := omega) only [wC, if_pos, if_neg])
                 refine dc 6 rfl (c := wcoinsA hBs1 (by simp [F]) hw6.tok (by omega) (by omega)) (k := ?_)
                 rintro _ _ ⟨rfl, k7, tk7, hw7, rfl⟩
                 refine ⟨by first | exact fun _ _ h => h | (refine later_list [4, 1] (by kernel_rfl) (List.forall_mem_cons.2 ⟨fun _ => fact2 rfl rfl ?_, List.forall_mem_cons.2 ⟨fun _ => fact2 rfl rfl ?_, fun _ h => absurd h List.not_mem_nil⟩⟩) <;> constructor <;> first | rfl | (simp [F]; done)), ?_⟩
                 (repeat (first | simp [F] | simp (disch := omega) only [wC, if_pos, if_neg])); refine dd ?_; refine hJ51 _ _ ?_; refine hK48 _ _ ?_; refine rg' (h := fun J52 hJ52 => ?_); refine hJ52 _ _ ?_; refine ⟨gk, (⟨y.i + 1, k7, tk7⟩), ⟨kpG, lpG, ?_, lpG, ?_⟩, lpG⟩
                 · exact (hq.trans hw6).trans hw7
                 · simp [St.trimO, F]
              (try exact nope c85); all_goals have c85p := c85; try simp [F] at c85p
              all_goals
               replace F := aF c85 F; try replace F := aF c85p F
               have hii : y.i = x10.length := by have h := c85; simp at h; omega
               rw [hii, hBA] at hq
               rw [hii, hBA]
               refine run_exit ?_
               first | refine hK20 ((y.k, y.tk)) _ _ ⟨kp, ?_, lp⟩ | refine hK20 (qC) _ _ ⟨kp, ?_, lp⟩
               · exact hq
          (try exact nope c74); all_goals have c74p := c74; try simp [F] at c74p
          all_goals
           replace F := aF c74 F; try replace F := aF c74p F
           have hzU : AU = AC := by (rw [hAU]; have h := c74; (try simp at h); simp [h])
           refine run_skip ?_
           first | refine hK20 ((y.k, y.tk)) _ _ ⟨kp, ?_, ?_⟩ | refine hK20 (qC) _ _ ⟨kp, ?_, ?_⟩
           · rw [hzU]
             exact wC
           · rw [hzU]
        case cx19 =>
         intro K19 hK19
         refine sr fun _ hJ54 => ?_; refine hJ54 _ _ ?_; refine cs (t := bC) (fun c67 => ?_) (fun c67 => ?_)
         · (try exact nope c67); all_goals have c67p := c67; try simp [F] at c67p
           all_goals
            replace F := aF c67 F; try replace F := aF c67p F
            have hyC : AC = AN ++ (encL x9) := by (rw [hAC]; have h := c67; (try simp at h); simp [h])
            refine rg' (h := fun J55 hJ55 => ?_)
            refine ca (c := wcoinsA hyC (by simp [F]) wN.tok (by omega) (by omega)) (k := ?_)
            rintro _ _ ⟨rfl, kC, tkC, uC, rfl⟩; (repeat (first | simp [F] | simp (disch := omega) only [wC, if_pos, if_neg])); refine hJ55 _ _ ?_
            first | refine hK19 ((kC, tkC)) _ _ ⟨kp, ?_, lp⟩ | refine hK19 (qN) _ _ ⟨kp, ?_, lp⟩
            · exact wN.trans uC
         (try exact nope c67); all_goals have c67p := c67; try simp [F] at c67p
         all_goals
          replace F := aF c67 F; try replace F := aF c67p F
          have hzC : AC = AN := by (rw [hAC]; have h := c67; (try simp at h); simp [h])
          refine run_skip ?_
          first | refine hK19 ((kC, tkC)) _ _ ⟨kp, ?_, ?_⟩ | refine hK19 (qN) _ _ ⟨kp, ?_, ?_⟩
          · rw [hzC]
            exact wN
          · rw [hzC]
       case cx18 =>
        intro K18 hK18
        refine sr fun _ hJ57 => ?_; refine hJ57 _ _ ?_; refine cs (t := bN) (fun c60 => ?_) (fun c60 => ?_)
        · (try exact nope c60); all_goals have c60p := c60; try simp [F] at c60p
          all_goals
           replace F := aF c60 F; try replace F := aF c60p F
           have hyN : AN = AO ++ (encN x8.v) := by (rw [hAN]; have h := c60; (try simp at h); simp [h])
           refine rg' (h := fun J58 hJ58 => ?_)
           refine ca (c := wnumA hyN (by simp [F]) wO.tok x8.h (by omega)) (k := ?_)
           rintro _ _ ⟨rfl, kN, tkN, uN, rfl⟩; (repeat (first | simp [F] | simp (disch := omega) only [wC, if_pos, if_neg])); refine hJ58 _ _ ?_
           first | refine hK18 ((kN, tkN)) _ _ ⟨kp, ?_, lp⟩ | refine hK18 (qO) _ _ ⟨kp, ?_, lp⟩
           · exact wO.trans uN
        (try exact nope c60); all_goals have c60p := c60; try simp [F] at c60p
        all_goals
         replace F := aF c60 F; try replace F := aF c60p F
         have hzN : AN = AO := by (rw [hAN]; have h := c60; (try simp at h); simp [h])
         refine run_skip ?_
         first | refine hK18 ((kN, tkN)) _ _ ⟨kp, ?_, ?_⟩ | refine hK18 (qO) _ _ ⟨kp, ?_, ?_⟩
         · rw [hzN]
           exact wO
         · rw [hzN]
      case cx17 =>
       intro K17 hK17
       refine sr fun _ hJ60 => ?_; refine hJ60 _ _ ?_; refine cs (t := bO) (fun c53 => ?_) (fun c53 => ?_)
       · (try exact nope c53); all_goals have c53p := c53; try simp [F] at c53p
         all_goals
          replace F := aF c53 F; try replace F := aF c53p F
          have hyO : AO = AVl ++ ([x7]) := by (rw [hAO]; have h := c53; (try simp at h); simp [h])
          refine rg' (h := fun J61 hJ61 => ?_)
          refine ca (c := wbyteA hyO (by simp [F]) wV.tok (by omega)) (k := ?_)
          rintro _ _ ⟨rfl, kO, tkO, uO, rfl⟩; (repeat (first | simp [F] | simp (disch := omega) only [wC, if_pos, if_neg])); refine hJ61 _ _ ?_
          first | refine hK17 ((kO, tkO)) _ _ ⟨kp, ?_, lp⟩ | refine hK17 (qV) _ _ ⟨kp, ?_, lp⟩
          · exact wV.trans uO
       (try exact nope c53); all_goals have c53p := c53; try simp [F] at c53p
       all_goals
        replace F := aF c53 F; try replace F := aF c53p F
        have hzO : AO = AVl := by (rw [hAO]; have h := c53; (try simp at h); simp [h])
        refine run_skip ?_
        first | refine hK17 ((kO, tkO)) _ _ ⟨kp, ?_, ?_⟩ | refine hK17 (qV) _ _ ⟨kp, ?_, ?_⟩
        · rw [hzO]
          exact wV
        · rw [hzO]
     case cx16 =>
      intro K16 hK16
      refine sr fun _ hJ63 => ?_; refine hJ63 _ _ ?_; refine cs (t := bV) (fun c46 => ?_) (fun c46 => ?_)
      · (try exact nope c46); all_goals have c46p := c46; try simp [F] at c46p
        all_goals
         replace F := aF c46 F; try replace F := aF c46p F
         have hyV : AVl = AT ++ ([x6]) := by (rw [hAV]; have h := c46; (try simp at h); simp [h])
         refine rg' (h := fun J64 hJ64 => ?_)
         refine ca (c := wbyteA hyV (by simp [F]) wT.tok (by omega)) (k := ?_)
         rintro _ _ ⟨rfl, kV, tkV, uV, rfl⟩; (repeat (first | simp [F] | simp (disch := omega) only [wC, if_pos, if_neg])); refine hJ64 _ _ ?_
         first | refine hK16 ((kV, tkV)) _ _ ⟨kp, ?_, lp⟩ | refine hK16 (qT) _ _ ⟨kp, ?_, lp⟩
         · exact wT.trans uV
      (try exact nope c46); all_goals have c46p := c46; try simp [F] at c46p
      all_goals
       replace F := aF c46 F; try replace F := aF c46p F
       have hzV : AVl = AT := by (rw [hAV]; have h := c46; (try simp at h); simp [h])
       refine run_skip ?_
       first | refine hK16 ((kV, tkV)) _ _ ⟨kp, ?_, ?_⟩ | refine hK16 (qT) _ _ ⟨kp, ?_, ?_⟩
       · rw [hzV]
         exact wT
       · rw [hzV]
    case cx15 =>
     intro K15 hK15
     refine sr fun _ hJ66 => ?_; refine hJ66 _ _ ?_; refine cs (t := bT) (fun c39 => ?_) (fun c39 => ?_)
     · (try exact nope c39); all_goals have c39p := c39; try simp [F] at c39p
       all_goals
        replace F := aF c39 F; try replace F := aF c39p F
        have hyT : AT = AE ++ ([x5]) := by (rw [hAT]; have h := c39; (try simp at h); simp [h])
        refine rg' (h := fun J67 hJ67 => ?_)
        refine ca (c := wbyteA hyT (by simp [F]) wE.tok (by omega)) (k := ?_)
        rintro _ _ ⟨rfl, kT, tkT, uT, rfl⟩; (repeat (first | simp [F] | simp (disch := omega) only [wC, if_pos, if_neg])); refine hJ67 _ _ ?_
        first | refine hK15 ((kT, tkT)) _ _ ⟨kp, ?_, lp⟩ | refine hK15 (qE) _ _ ⟨kp, ?_, lp⟩
        · exact wE.trans uT
     (try exact nope c39); all_goals have c39p := c39; try simp [F] at c39p
     all_goals
      replace F := aF c39 F; try replace F := aF c39p F
      have hzT : AT = AE := by (rw [hAT]; have h := c39; (try simp at h); simp [h])
      refine run_skip ?_
      first | refine hK15 ((kT, tkT)) _ _ ⟨kp, ?_, ?_⟩ | refine hK15 (qE) _ _ ⟨kp, ?_, ?_⟩
      · rw [hzT]
        exact wE
      · rw [hzT]
   case cx14 =>
    intro K14 hK14
    refine sr fun _ hJ69 => ?_; refine hJ69 _ _ ?_; refine cs (t := !bE) (fun c26 => ?_) (fun c26 => ?_)
    · (try exact nope c26); all_goals have c26p := c26; try simp [F] at c26p
      all_goals
       replace F := aF c26 F; try replace F := aF c26p F
       have hyE : AE = A0 ++ (x2 :: (nBytes 8 x3 ++ encL x4)) := by (rw [hAE]; have h := c26; (try simp at h); simp [h])
       obtain ⟨C1, hC1⟩ : ∃ C, C = A0 ++ [x2] := ⟨_, rfl⟩
       obtain ⟨C2, hC2⟩ : ∃ C, C = C1 ++ nBytes 8 x3 := ⟨_, rfl⟩
       have hC3 : AE = C2 ++ encL x4 := by rw [hyE, hC2, hC1]; simp
       have m1 : C1.length ≤ 2 := by rw [hC1]; simp; omega
       have m2 : C2.length ≤ 10 := by rw [hC2, List.length_append, nBytes_len]; omega
       refine run_draw (by kernel_rfl) fun J70 hJ70 => ?_
       refine rp2 0 (k := ?_); refine rp2 1 (k := ?_); refine rp2 2 (k := ?_); refine rp2 4 (k := ?_); refine rp2 5 (k := ?_); refine rp2 7 (k := ?_); refine rp2 8 (k := ?_)
       refine dc 3 rfl (c := wbyteA hC1 (by simp [F]) w0.tok (by omega)) (k := ?_)
       rintro _ _ ⟨rfl, kE1, tkE1, u1, rfl⟩
       refine ⟨by first | exact fun _ _ h => h | (refine later_list [8, 7, 5, 4, 1] (by kernel_rfl) (List.forall_mem_cons.2 ⟨fun _ => fact2 rfl rfl ?_, List.forall_mem_cons.2 ⟨fun _ => fact2 rfl rfl ?_, List.forall_mem_cons.2 ⟨fun _ => fact2 rfl rfl ?_, List.forall_mem_cons.2 ⟨fun _ => fact2 rfl rfl ?_, List.forall_mem_cons.2 ⟨fun _ => fact2 rfl rfl ?_, fun _ h => absurd h List.not_mem_nil⟩⟩⟩⟩⟩) <;> constructor <;> first | rfl | (simp [F]; done)), ?_⟩
       repeat (first | simp [F] | simp (disch := omega) only [wC, if_pos, if_neg])
       refine dc 6 rfl (c := wlongA hC2 (by simp [F]) u1.tok h1 (by omega)) (k := ?_)
       rintro _ _ ⟨rfl, kE2, tkE2, u2, rfl⟩
       refine ⟨by first | exact fun _ _ h => h | (refine later_list [8, 7, 4, 1] (by kernel_rfl) (List.forall_mem_cons.2 ⟨fun _ => fact2 rfl rfl ?_, List.forall_mem_cons.2 ⟨fun _ => fact2 rfl rfl ?_, List.forall_mem_cons.2 ⟨fun _ => fact2 rfl rfl ?_, List.forall_mem_cons.2 ⟨fun _ => fact2 rfl rfl ?_, fun _ h => absurd h List.not_mem_nil⟩⟩⟩⟩) <;> constructor <;> first | rfl | (simp [F]; done)), ?_⟩
       repeat (first | simp [F] | simp (disch := omega) only [wC, if_pos, if_neg])
       refine dc 9 rfl (c := wcoinsA hC3 (by simp [F]) u2.tok (by omega) (by omega)) (k := ?_)
       rintro _ _ ⟨rfl, kE, tkE, u3, rfl⟩
       refine ⟨by first | exact fun _ _ h => h | (refine later_list [7, 4, 1] (by kernel_rfl) (List.forall_mem_cons.2 ⟨fun _ => fact2 rfl rfl ?_, List.forall_mem_cons.2 ⟨fun _ => fact2 rfl rfl ?_, List.forall_mem_cons.2 ⟨fun _ => fact2 rfl rfl ?_, fun _ h => absurd h List.not_mem_nil⟩⟩⟩) <;> constructor <;> first | rfl | (simp [F]; done)), ?_⟩
       (repeat (first | simp [F] | simp (disch := omega) only [wC, if_pos, if_neg])); refine dd ?_; refine hJ70 _ _ ?_
       first | refine hK14 ((kE, tkE)) _ _ ⟨kp, ?_, lp⟩ | refine hK14 ((k0, tk0)) _ _ ⟨kp, ?_, lp⟩
       · exact ((w0.trans u1).trans u2).trans u3
    (try exact nope c26); all_goals have c26p := c26; try simp [F] at c26p
    all_goals
     replace F := aF c26 F; try replace F := aF c26p F
     have hzE : AE = A0 := by (rw [hAE]; have h := c26; (try simp at h); simp [h])
     refine run_skip ?_
     first | refine hK14 ((kE, tkE)) _ _ ⟨kp, ?_, ?_⟩ | refine hK14 ((k0, tk0)) _ _ ⟨kp, ?_, ?_⟩
     · rw [hzE]
       exact w0
     · rw [hzE]

def outS (s : Option (List UInt8)) : Out := ⟨byteS s, coinsL (takeS 1 s)⟩
def outT (s : Option (List UInt8)) : Option (List UInt8) := coinsS (takeS 1 s)
def outsGo : Nat → Option (List UInt8) → List Out → List Out × Option (List UInt8)
  | 0, s, l => (l, s)
  | _ + 1, none, l => (l, none)
  | m + 1, some p, l => outsGo m (outT (some p)) (l ++ [outS (some p)])
theorem outsGo_more {m : Nat} {s : Option (List UInt8)} {l : List Out} (hm : 0 < m) (hs : ¬ s = none) : outsGo m s l = outsGo (m - 1) (outT s) (l ++ [outS s]) := by
  match m, s, hm, hs with
  | m + 1, some p, _, _ => rfl
theorem outsGo_stop {m : Nat} {s : Option (List UInt8)} {l : List Out} (h : m = 0 ∨ s = none) : outsGo m s l = (l, s) := by
  match m, s, h with
  | 0, _, _ => rfl
  | m + 1, none, _ => rfl
def outsR (s : Option (List UInt8)) : List Out × Option (List UInt8) := outsGo (be (takeB 1 s)) (takeS 1 s) []
def stE (k : UInt8) (s : Option (List UInt8)) : Option (List UInt8) := bif hB k 1024 then s else coinsS (takeS 8 (takeS 1 s))
def stT (k : UInt8) (s : Option (List UInt8)) : Option (List UInt8) := bif hB k 1 then takeS 1 (stE k s) else stE k s
def stV (k : UInt8) (s : Option (List UInt8)) : Option (List UInt8) := bif hB k 2 then takeS 1 (stT k s) else stT k s
def stO (k : UInt8) (s : Option (List UInt8)) : Option (List UInt8) := bif hB k 4 then takeS 1 (stV k s) else stV k s
def stN (k : UInt8) (s : Option (List UInt8)) : Option (List UInt8) := bif hB k 8 then numS (stO k s) else stO k s
def stC (k : UInt8) (s : Option (List UInt8)) : Option (List UInt8) := bif hB k 16 then coinsS (stN k s) else stN k s
def stU (k : UInt8) (s : Option (List UInt8)) : Option (List UInt8) := bif hB k 32 then (outsR (stC k s)).2 else stC k s
def stP (k : UInt8) (s : Option (List UInt8)) : Option (List UInt8) := bif hB k 64 then takeT (stU k s) else stU k s
def stM (k : UInt8) (s : Option (List UInt8)) : Option (List UInt8) := bif hB k 128 then takeS 8 (stP k s) else stP k s
def stQ (k : UInt8) (s : Option (List UInt8)) : Option (List UInt8) := bif hB k 256 then takeS 2 (stM k s) else stM k s
def stJ (k : UInt8) (s : Option (List UInt8)) : Option (List UInt8) := bif hB k 512 then flagS (stQ k s) else stQ k s
def msgR (k : UInt8) (s : Option (List UInt8)) : Msg := ⟨k, bif hB k 1024 then 0 else byteS s, bif hB k 1024 then 0 else be (takeB 8 (takeS 1 s)), bif hB k 1024 then [] else coinsL (takeS 8 (takeS 1 s)),
  bif hB k 1 then byteS (stE k s) else 0, bif hB k 2 then byteS (stT k s) else 0, bif hB k 4 then byteS (stV k s) else 0, bif hB k 8 then numN (stO k s) else ⟨0, by decide⟩,
  bif hB k 16 then coinsL (stN k s) else [], bif hB k 32 then (outsR (stC k s)).1 else [], bif hB k 64 then takeP (stU k s) else ⟨0, 0, 0, [], []⟩,
  bif hB k 128 then be (takeB 8 (stP k s)) else 0, bif hB k 256 then be (takeB 2 (stM k s)) else 0, hB k 512 && (be (takeB 1 (stQ k s)) == 1)⟩

theorem onil0 {L : List Out} (h : posB L.length = false) : outsC L = [] ∧ L.length = 0 := by
  have h0 := posB_no h
  have : L = [] := List.length_eq_zero_iff.1 h0
  subst this
  exact ⟨rfl, rfl⟩

structure RSt where
  m : Nat
  s : Option (List UInt8)
  l : List Out

set_option maxHeartbeats 1600000 in
attribute [local simp] undefA List.getElem?_cons_zero List.getElem?_cons_succ outsC_noObj persC_noObj plnC in
theorem read_raw {O : List (List AV)} {tk : List Nat} {gl : Nat → Option (List AV)} {rows : List RowSt} {id1 id2 : Nat} {x1 : UInt8} {s : Option (List UInt8)} (i1 : id1 < O.length) (i2 : id2 < O.length) (hne : id1 ≠ id2) :
    CallsA Try.prog 106 [.ptr id1 0, .ptr id2 0, .v (.int .i64 (hasN x1 : Nat))] { objs := (O.set id1 (rd s)).set id2 [.v (.int .u8 x1.toNat), .v (.int .u8 0), .v (.int .u64 0), .sl 0 [] 0 .full, .v (.int .u8 0), .v (.int .u8 0), .v (.int .u8 0), .v (.int .u64 0), .v (.int .u64 0), .v (.int .u64 0), .v (.int .u64 0), .sl 0 [] 0 .full, .sl 0 [] 0 .full, .v (.int .u8 0), .v (.int .u64 0), .v (.int .u64 0), .sl 0 [] 0 .full, .sl 0 [] 0 .full, .v (.int .u64 0), .v (.int .u16 0), .v (.bool false)], toks := tk, gl := gl, rows := rows }
      (fun av σ' => av = .tup [] ∧ ∃ X T, WkL X (msgC (msgR x1 s)) ∧ X.all AV.isCell = true ∧ σ' = { objs := (O.set id1 (rd (stJ x1 s))).set id2 X, toks := tk ++ T, gl := gl, rows := rows }) := by
  obtain ⟨h, hh⟩ : ∃ h, h = hasN x1 := ⟨_, rfl⟩
  have hlt : h < 4096 := by rw [hh]; exact hasN_lt _
  obtain ⟨eE, heE⟩ : ∃ e, e = h &&& 1024 := ⟨_, rfl⟩
  have handE : ∀ xo yo, binA Try.prog .and 3 xo yo (.v (.int .i64 (h : Nat))) (.v (.int .i64 1024)) = some (.v (.int .i64 (eE : Nat))) := fun xo yo => by rw [heE]; exact binA_andN _ xo yo hlt (by decide)
  obtain ⟨bE, hbE⟩ : ∃ b, b = hB x1 1024 := ⟨_, rfl⟩
  have hneE : (((eE : Nat) : Int) != 0) = bE := by rw [hbE, hB, ← hh, ← heE]; simp [bne, Int.natCast_eq_zero]; rw [Bool.eq_iff_iff]; simp
  obtain ⟨eT, heT⟩ : ∃ e, e = h &&& 1 := ⟨_, rfl⟩
  have handT : ∀ xo yo, binA Try.prog .and 3 xo yo (.v (.int .i64 (h : Nat))) (.v (.int .i64 1)) = some (.v (.int .i64 (eT : Nat))) := fun xo yo => by rw [heT]; exact binA_andN _ xo yo hlt (by decide)
  obtain ⟨bT, hbT⟩ : ∃ b, b = hB x1 1 := ⟨_, rfl⟩
  have hneT : (((eT : Nat) : Int) != 0) = bT := by rw [hbT, hB, ← hh, ← heT]; simp [bne, Int.natCast_eq_zero]; rw [Bool.eq_iff_iff]; simp
  obtain ⟨eV, heV⟩ : ∃ e, e = h &&& 2 := ⟨_, rfl⟩
  have handV : ∀ xo yo, binA Try.prog .and 3 xo yo (.v (.int .i64 (h : Nat))) (.v (.int .i64 2)) = some (.v (.int .i64 (eV : Nat))) := fun xo yo => by rw [heV]; exact binA_andN _ xo yo hlt (by decide)
  obtain ⟨bV, hbV⟩ : ∃ b, b = hB x1 2 := ⟨_, rfl⟩
  have hneV : (((eV : Nat) : Int) != 0) = bV := by rw [hbV, hB, ← hh, ← heV]; simp [bne, Int.natCast_eq_zero]; rw [Bool.eq_iff_iff]; simp
  obtain ⟨eO, heO⟩ : ∃ e, e = h &&& 4 := ⟨_, rfl⟩
  have handO : ∀ xo yo, binA Try.prog .and 3 xo yo (.v (.int .i64 (h : Nat))) (.v (.int .i64 4)) = some (.v (.int .i64 (eO : Nat))) := fun xo yo => by rw [heO]; exact binA_andN _ xo yo hlt (by decide)
  obtain ⟨bO, hbO⟩ : ∃ b, b = hB x1 4 := ⟨_, rfl⟩
  have hneO : (((eO : Nat) : Int) != 0) = bO := by rw [hbO, hB, ← hh, ← heO]; simp [bne, Int.natCast_eq_zero]; rw [Bool.eq_iff_iff]; simp
  obtain ⟨eN, heN⟩ : ∃ e, e = h &&& 8 := ⟨_, rfl⟩
  have handN : ∀ xo yo, binA Try.prog .and 3 xo yo (.v (.int .i64 (h : Nat))) (.v (.int .i64 8)) = some (.v (.int .i64 (eN : Nat))) := fun xo yo => by rw [heN]; exact binA_andN _ xo yo hlt (by decide)
  obtain ⟨bN, hbN⟩ : ∃ b, b = hB x1 8 := ⟨_, rfl⟩
  have hneN : (((eN : Nat) : Int) != 0) = bN := by rw [hbN, hB, ← hh, ← heN]; simp [bne, Int.natCast_eq_zero]; rw [Bool.eq_iff_iff]; simp
  obtain ⟨eC, heC⟩ : ∃ e, e = h &&& 16 := ⟨_, rfl⟩
  have handC : ∀ xo yo, binA Try.prog .and 3 xo yo (.v (.int .i64 (h : Nat))) (.v (.int .i64 16)) = some (.v (.int .i64 (eC : Nat))) := fun xo yo => by rw [heC]; exact binA_andN _ xo yo hlt (by decide)
  obtain ⟨bC, hbC⟩ : ∃ b, b = hB x1 16 := ⟨_, rfl⟩
  have hneC : (((eC : Nat) : Int) != 0) = bC := by rw [hbC, hB, ← hh, ← heC]; simp [bne, Int.natCast_eq_zero]; rw [Bool.eq_iff_iff]; simp
  obtain ⟨eU, heU⟩ : ∃ e, e = h &&& 32 := ⟨_, rfl⟩
  have handU : ∀ xo yo, binA Try.prog .and 3 xo yo (.v (.int .i64 (h : Nat))) (.v (.int .i64 32)) = some (.v (.int .i64 (eU : Nat))) := fun xo yo => by rw [heU]; exact binA_andN _ xo yo hlt (by decide)
  obtain ⟨bU, hbU⟩ : ∃ b, b = hB x1 32 := ⟨_, rfl⟩
  have hneU : (((eU : Nat) : Int) != 0) = bU := by rw [hbU, hB, ← hh, ← heU]; simp [bne, Int.natCast_eq_zero]; rw [Bool.eq_iff_iff]; simp
  obtain ⟨eP, heP⟩ : ∃ e, e = h &&& 64 := ⟨_, rfl⟩
  have handP : ∀ xo yo, binA Try.prog .and 3 xo yo (.v (.int .i64 (h : Nat))) (.v (.int .i64 64)) = some (.v (.int .i64 (eP : Nat))) := fun xo yo => by rw [heP]; exact binA_andN _ xo yo hlt (by decide)
  obtain ⟨bP, hbP⟩ : ∃ b, b = hB x1 64 := ⟨_, rfl⟩
  have hneP : (((eP : Nat) : Int) != 0) = bP := by rw [hbP, hB, ← hh, ← heP]; simp [bne, Int.natCast_eq_zero]; rw [Bool.eq_iff_iff]; simp
  obtain ⟨eM, heM⟩ : ∃ e, e = h &&& 128 := ⟨_, rfl⟩
  have handM : ∀ xo yo, binA Try.prog .and 3 xo yo (.v (.int .i64 (h : Nat))) (.v (.int .i64 128)) = some (.v (.int .i64 (eM : Nat))) := fun xo yo => by rw [heM]; exact binA_andN _ xo yo hlt (by decide)
  obtain ⟨bM, hbM⟩ : ∃ b, b = hB x1 128 := ⟨_, rfl⟩
  have hneM : (((eM : Nat) : Int) != 0) = bM := by rw [hbM, hB, ← hh, ← heM]; simp [bne, Int.natCast_eq_zero]; rw [Bool.eq_iff_iff]; simp
  obtain ⟨eQ, heQ⟩ : ∃ e, e = h &&& 256 := ⟨_, rfl⟩
  have handQ : ∀ xo yo, binA Try.prog .and 3 xo yo (.v (.int .i64 (h : Nat))) (.v (.int .i64 256)) = some (.v (.int .i64 (eQ : Nat))) := fun xo yo => by rw [heQ]; exact binA_andN _ xo yo hlt (by decide)
  obtain ⟨bQ, hbQ⟩ : ∃ b, b = hB x1 256 := ⟨_, rfl⟩
  have hneQ : (((eQ : Nat) : Int) != 0) = bQ := by rw [hbQ, hB, ← hh, ← heQ]; simp [bne, Int.natCast_eq_zero]; rw [Bool.eq_iff_iff]; simp
  obtain ⟨eJ, heJ⟩ : ∃ e, e = h &&& 512 := ⟨_, rfl⟩
  have handJ : ∀ xo yo, binA Try.prog .and 3 xo yo (.v (.int .i64 (h : Nat))) (.v (.int .i64 512)) = some (.v (.int .i64 (eJ : Nat))) := fun xo yo => by rw [heJ]; exact binA_andN _ xo yo hlt (by decide)
  obtain ⟨bJ, hbJ⟩ : ∃ b, b = hB x1 512 := ⟨_, rfl⟩
  have hneJ : (((eJ : Nat) : Int) != 0) = bJ := by rw [hbJ, hB, ← hh, ← heJ]; simp [bne, Int.natCast_eq_zero]; rw [Bool.eq_iff_iff]; simp
  have heqE : (((eE : Nat) : Int) == 0) = !bE := by rw [← hneE]; simp [bne]
  rw [← hh]
  obtain ⟨SE, hSE⟩ : ∃ S, S = bif bE then s else coinsS (takeS 8 (takeS 1 s)) := ⟨_, rfl⟩
  obtain ⟨ST, hST⟩ : ∃ S, S = bif bT then takeS 1 SE else SE := ⟨_, rfl⟩
  obtain ⟨SV, hSV⟩ : ∃ S, S = bif bV then takeS 1 ST else ST := ⟨_, rfl⟩
  obtain ⟨SO, hSO⟩ : ∃ S, S = bif bO then takeS 1 SV else SV := ⟨_, rfl⟩
  obtain ⟨SN, hSN⟩ : ∃ S, S = bif bN then numS SO else SO := ⟨_, rfl⟩
  obtain ⟨SC, hSC⟩ : ∃ S, S = bif bC then coinsS SN else SN := ⟨_, rfl⟩
  obtain ⟨SU, hSU⟩ : ∃ S, S = bif bU then (outsR SC).2 else SC := ⟨_, rfl⟩
  obtain ⟨SP, hSP⟩ : ∃ S, S = bif bP then takeT SU else SU := ⟨_, rfl⟩
  obtain ⟨SM, hSM⟩ : ∃ S, S = bif bM then takeS 8 SP else SP := ⟨_, rfl⟩
  obtain ⟨SQ, hSQ⟩ : ∃ S, S = bif bQ then takeS 2 SM else SM := ⟨_, rfl⟩
  obtain ⟨SJ, hSJ⟩ : ∃ S, S = bif bJ then flagS SQ else SQ := ⟨_, rfl⟩
  obtain ⟨LU, hLU⟩ : ∃ L, L = bif bU then (outsR SC).1 else [] := ⟨_, rfl⟩
  obtain ⟨P, hP⟩ : ∃ P, P = takeP SU := ⟨_, rfl⟩
  have hptk : ∀ {τ : St} {id : Nat}, τ.objs[id]? = some (rd SU) → CallsA Try.prog 34 [.ptr id 0] τ (fun av σ' => av = .agg (plnC P) ∧ σ' = { τ with objs := τ.objs.set id (rd (takeT SU)) }) := fun h => by rw [hP]; exact ptake_ok h
  have hfin : stJ x1 s = SJ := by rw [hSJ, hSQ, hSM, hSP, hSU, hSC, hSN, hSO, hSV, hST, hSE]; simp only [stJ, stQ, stM, stP, stU, stC, stN, stO, stV, stT, stE, ← hbE, ← hbT, ← hbV, ← hbO, ← hbN, ← hbC, ← hbU, ← hbP, ← hbM, ← hbQ, ← hbJ]
  have eE : stE x1 s = SE := by rw [hSE]; simp only [stE, ← hbE]
  have eT : stT x1 s = ST := by rw [hST]; simp only [stT, eE, ← hbT]
  have eV : stV x1 s = SV := by rw [hSV]; simp only [stV, eT, ← hbV]
  have eO : stO x1 s = SO := by rw [hSO]; simp only [stO, eV, ← hbO]
  have eN : stN x1 s = SN := by rw [hSN]; simp only [stN, eO, ← hbN]
  have eC : stC x1 s = SC := by rw [hSC]; simp only [stC, eN, ← hbC]
  have eU : stU x1 s = SU := by rw [hSU]; simp only [stU, eC, ← hbU]
  have eP : stP x1 s = SP := by rw [hSP]; simp only [stP, eU, ← hbP]
  have eM : stM x1 s = SM := by rw [hSM]; simp only [stM, eP, ← hbM]
  have eQ : stQ x1 s = SQ := by rw [hSQ]; simp only [stQ, eM, ← hbQ]
  rw [hfin]
  obtain ⟨Pk, Ps, Pe, Pt, Pq⟩ := P
  have hW : WkL [.v (.int .u8 x1.toNat), .v (.int .u8 (bif bE then 0 else be (takeB 1 s) : Nat)), .v (.int .u64 (bif bE then 0 else be (takeB 8 (takeS 1 s)) : Nat)), allA (!bE) (coinsL (takeS 8 (takeS 1 s))), .v (.int .u8 (bif bT then be (takeB 1 SE) else 0 : Nat)), .v (.int .u8 (bif bV then be (takeB 1 ST) else 0 : Nat)), .v (.int .u8 (bif bO then be (takeB 1 SV) else 0 : Nat)), .v (.int .u64 (limb (bif bN then numOf (numB SO) else 0 : Nat) 0)), .v (.int .u64 (limb (bif bN then numOf (numB SO) else 0 : Nat) 1)), .v (.int .u64 (limb (bif bN then numOf (numB SO) else 0 : Nat) 2)), .v (.int .u64 (limb (bif bN then numOf (numB SO) else 0 : Nat) 3)), allA bC (coinsL SN), grA tk.length 2 (posB LU.length) (outsC LU) LU.length, .v (.int .u8 (bif bP then Pk else 0 : UInt8).toNat), .v (.int .u64 (bif bP then Ps else 0 : Nat)), .v (.int .u64 (bif bP then Pe else 0 : Nat)), allA bP Pt, perA bP Pq, .v (.int .u64 (bif bM then be (takeB 8 SP) else 0 : Nat)), .v (.int .u16 (bif bQ then be (takeB 2 SM) else 0 : Nat)), .v (.bool (bJ && (be (takeB 1 SQ) == 1)))] (msgC (msgR x1 s)) := by
    simp only [msgC, msgR, eE, eT, eV, eO, eN, eC, eU, eP, eM, eQ, ← hbE, ← hbT, ← hbV, ← hbO, ← hbN, ← hbC, ← hbU, ← hbP, ← hbM, ← hbQ, ← hbJ, ← hLU, ← hP]
    refine .cons (Wk.refl _) (.cons (wk_eq ?_) (.cons (wk_eq ?_) (.cons (wk_all ?_) (.cons (wk_eq ?_) (.cons (wk_eq ?_) (.cons (wk_eq ?_) (.cons (wk_eq ?_) (.cons (wk_eq ?_) (.cons (wk_eq ?_) (.cons (wk_eq ?_) (.cons (wk_all ?_) (.cons (wk_grA onil0) (.cons (wk_eq ?_) (.cons (wk_eq ?_) (.cons (wk_eq ?_) (.cons (wk_all ?_) (.cons (wk_per ?_) (.cons (wk_eq ?_) (.cons (wk_eq ?_) (.cons (wk_eq ?_) .nil))))))))))))))))))))
    all_goals first | rfl | (cases bE <;> simp [be_byteS]; done) | (cases bE <;> rfl) | (cases bT <;> simp [be_byteS]; done) | (cases bV <;> simp [be_byteS]; done) | (cases bO <;> simp [be_byteS]; done) | (cases bN <;> rfl) | (cases bP <;> rfl) | (cases bM <;> rfl) | (cases bQ <;> rfl)
  clear hfin hP eE eT eV eO eN eC eU eP eM eQ hh hbE hbT hbV hbO hbN hbC hbU hbP hbM hbQ hbJ heE heT heV heO heN heC heU heP heM heQ heJ
  have ic1 : ∀ (b : Bool) (l : List Coin), (allA b l).isCell = true := fun b l => by cases b <;> rfl
  have ic3 : ∀ (b : Bool) (l : List Per), (perA b l).isCell = true := fun b l => by cases b <;> rfl
  have ic4 : ∀ (k : Nat) (b : Bool) (cs : List AV) (n : Nat), (grA k 2 b cs n).isCell = true := fun k b cs n => by cases b <;> rfl
  have hcell : ([.v (.int .u8 x1.toNat), .v (.int .u8 (bif bE then 0 else be (takeB 1 s) : Nat)), .v (.int .u64 (bif bE then 0 else be (takeB 8 (takeS 1 s)) : Nat)), allA (!bE) (coinsL (takeS 8 (takeS 1 s))), .v (.int .u8 (bif bT then be (takeB 1 SE) else 0 : Nat)), .v (.int .u8 (bif bV then be (takeB 1 ST) else 0 : Nat)), .v (.int .u8 (bif bO then be (takeB 1 SV) else 0 : Nat)), .v (.int .u64 (limb (bif bN then numOf (numB SO) else 0 : Nat) 0)), .v (.int .u64 (limb (bif bN then numOf (numB SO) else 0 : Nat) 1)), .v (.int .u64 (limb (bif bN then numOf (numB SO) else 0 : Nat) 2)), .v (.int .u64 (limb (bif bN then numOf (numB SO) else 0 : Nat) 3)), allA bC (coinsL SN), grA tk.length 2 (posB LU.length) (outsC LU) LU.length, .v (.int .u8 (bif bP then Pk else 0 : UInt8).toNat), .v (.int .u64 (bif bP then Ps else 0 : Nat)), .v (.int .u64 (bif bP then Pe else 0 : Nat)), allA bP Pt, perA bP Pq, .v (.int .u64 (bif bM then be (takeB 8 SP) else 0 : Nat)), .v (.int .u16 (bif bQ then be (takeB 2 SM) else 0 : Nat)), .v (.bool (bJ && (be (takeB 1 SQ) == 1)))]).all AV.isCell = true := by simp only [List.all_cons, List.all_nil, ic1, ic3, ic4, Bool.and_true, Bool.true_and]; rfl
  simp only [AV.isCell] at ic1 ic3 ic4
  have hl0 : ∀ i, limb 0 i = 0 := by intro i; simp [limb]
  have g1 : ∀ a b, ((O.set id1 a).set id2 b)[id1]? = some a := fun a b => by rw [List.getElem?_set_ne (Ne.symm hne)]; simp [i1]
  have g2 : ∀ a b, ((O.set id1 a).set id2 b)[id2]? = some b := fun a b => by simp [i2]
  have s1 : ∀ a b a', ((O.set id1 a).set id2 b).set id1 a' = (O.set id1 a').set id2 b := fun a b a' => by rw [List.set_comm _ _ (Ne.symm hne), List.set_set]
  have s2 : ∀ a b b', ((O.set id1 a).set id2 b).set id2 b' = (O.set id1 a).set id2 b' := fun a b b' => by rw [List.set_set]
  have hdr : ∀ f : Nat → AV, List.drop 2 (List.map f (List.range 2)) = [] := fun _ => rfl
  have hm1 := be_lt1 (takeB_len 1 SC)
  have hnA : numA (numOf (numB SO)) = [.v (.int .u64 (limb (numOf (numB SO)) 0)), .v (.int .u64 (limb (numOf (numB SO)) 1)), .v (.int .u64 (limb (numOf (numB SO)) 2)), .v (.int .u64 (limb (numOf (numB SO)) 3))] := rfl
  have F := And.intro g1 (And.intro g2 (And.intro s1 (And.intro s2 (And.intro hl0 (And.intro ic1 (And.intro ic3 (And.intro ic4 (And.intro hdr (And.intro handE (And.intro handT (And.intro handV (And.intro handO (And.intro handN (And.intro handC (And.intro handU (And.intro handP (And.intro handM (And.intro handQ (And.intro handJ (And.intro hneE (And.intro hneT (And.intro hneV (And.intro hneO (And.intro hneN (And.intro hneC (And.intro hneU (And.intro hneP (And.intro hneM (And.intro hneQ (And.intro hneJ (And.intro heqE (True.intro))))))))))))))))))))))))))))))))
  refine callsA_body Try.func106 rfl rfl rfl ?_; refine sqc (X := Unit) [0, 1, 2] (fun z ρ σ1 => (σ1 = { objs := (O.set id1 (rd SE)).set id2 [.v (.int .u8 x1.toNat), .v (.int .u8 (bif bE then 0 else be (takeB 1 s) : Nat)), .v (.int .u64 (bif bE then 0 else be (takeB 8 (takeS 1 s)) : Nat)), allA (!bE) (coinsL (takeS 8 (takeS 1 s))), .v (.int .u8 0), .v (.int .u8 0), .v (.int .u8 0), .v (.int .u64 0), .v (.int .u64 0), .v (.int .u64 0), .v (.int .u64 0), .sl 0 [] 0 .full, .sl 0 [] 0 .full, .v (.int .u8 0), .v (.int .u64 0), .v (.int .u64 0), .sl 0 [] 0 .full, .sl 0 [] 0 .full, .v (.int .u64 0), .v (.int .u16 0), .v (.bool false)], toks := tk, gl := gl, rows := rows })) ?cy1 ?cx1
  case cy1 =>
   rintro z ρCc9 σ1 hFCc9 hσ; obtain rfl := hσ.symm
   have fCc9 := keepL hFCc9
   (try simp [KeepL, F] at fCc9); (try replace F := aF fCc9 F); refine sqc (X := Unit) [0, 1, 2] (fun z ρ σ1 => (σ1 = { objs := (O.set id1 (rd ST)).set id2 [.v (.int .u8 x1.toNat), .v (.int .u8 (bif bE then 0 else be (takeB 1 s) : Nat)), .v (.int .u64 (bif bE then 0 else be (takeB 8 (takeS 1 s)) : Nat)), allA (!bE) (coinsL (takeS 8 (takeS 1 s))), .v (.int .u8 (bif bT then be (takeB 1 SE) else 0 : Nat)), .v (.int .u8 0), .v (.int .u8 0), .v (.int .u64 0), .v (.int .u64 0), .v (.int .u64 0), .v (.int .u64 0), .sl 0 [] 0 .full, .sl 0 [] 0 .full, .v (.int .u8 0), .v (.int .u64 0), .v (.int .u64 0), .sl 0 [] 0 .full, .sl 0 [] 0 .full, .v (.int .u64 0), .v (.int .u16 0), .v (.bool false)], toks := tk, gl := gl, rows := rows })) ?cy2 ?cx2
   case cy2 =>
    rintro z ρCc27 σ1 hFCc27 hσ; obtain rfl := hσ.symm
    have fCc27 := keepL hFCc27
    (try simp [KeepL, F] at fCc27); (try replace F := aF fCc27 F); refine sqc (X := Unit) [0, 1, 2] (fun z ρ σ1 => (σ1 = { objs := (O.set id1 (rd SV)).set id2 [.v (.int .u8 x1.toNat), .v (.int .u8 (bif bE then 0 else be (takeB 1 s) : Nat)), .v (.int .u64 (bif bE then 0 else be (takeB 8 (takeS 1 s)) : Nat)), allA (!bE) (coinsL (takeS 8 (takeS 1 s))), .v (.int .u8 (bif bT then be (takeB 1 SE) else 0 : Nat)), .v (.int .u8 (bif bV then be (takeB 1 ST) else 0 : Nat)), .v (.int .u8 0), .v (.int .u64 0), .v (.int .u64 0), .v (.int .u64 0), .v (.int .u64 0), .sl 0 [] 0 .full, .sl 0 [] 0 .full, .v (.int .u8 0), .v (.int .u64 0), .v (.int .u64 0), .sl 0 [] 0 .full, .sl 0 [] 0 .full, .v (.int .u64 0), .v (.int .u16 0), .v (.bool false)], toks := tk, gl := gl, rows := rows })) ?cy3 ?cx3
    case cy3 =>
     rintro z ρCc35 σ1 hFCc35 hσ; obtain rfl := hσ.symm
     have fCc35 := keepL hFCc35
     (try simp [KeepL, F] at fCc35); (try replace F := aF fCc35 F); refine sqc (X := Unit) [0, 1, 2] (fun z ρ σ1 => (σ1 = { objs := (O.set id1 (rd SO)).set id2 [.v (.int .u8 x1.toNat), .v (.int .u8 (bif bE then 0 else be (takeB 1 s) : Nat)), .v (.int .u64 (bif bE then 0 else be (takeB 8 (takeS 1 s)) : Nat)), allA (!bE) (coinsL (takeS 8 (takeS 1 s))), .v (.int .u8 (bif bT then be (takeB 1 SE) else 0 : Nat)), .v (.int .u8 (bif bV then be (takeB 1 ST) else 0 : Nat)), .v (.int .u8 (bif bO then be (takeB 1 SV) else 0 : Nat)), .v (.int .u64 0), .v (.int .u64 0), .v (.int .u64 0), .v (.int .u64 0), .sl 0 [] 0 .full, .sl 0 [] 0 .full, .v (.int .u8 0), .v (.int .u64 0), .v (.int .u64 0), .sl 0 [] 0 .full, .sl 0 [] 0 .full, .v (.int .u64 0), .v (.int .u16 0), .v (.bool false)], toks := tk, gl := gl, rows := rows })) ?cy4 ?cx4
     case cy4 =>
      rintro z ρCc43 σ1 hFCc43 hσ; obtain rfl := hσ.symm
      have fCc43 := keepL hFCc43
      (try simp [KeepL, F] at fCc43); (try replace F := aF fCc43 F); refine sqc (X := Unit) [0, 1, 2] (fun z ρ σ1 => (σ1 = { objs := (O.set id1 (rd SN)).set id2 [.v (.int .u8 x1.toNat), .v (.int .u8 (bif bE then 0 else be (takeB 1 s) : Nat)), .v (.int .u64 (bif bE then 0 else be (takeB 8 (takeS 1 s)) : Nat)), allA (!bE) (coinsL (takeS 8 (takeS 1 s))), .v (.int .u8 (bif bT then be (takeB 1 SE) else 0 : Nat)), .v (.int .u8 (bif bV then be (takeB 1 ST) else 0 : Nat)), .v (.int .u8 (bif bO then be (takeB 1 SV) else 0 : Nat)), .v (.int .u64 (limb (bif bN then numOf (numB SO) else 0 : Nat) 0)), .v (.int .u64 (limb (bif bN then numOf (numB SO) else 0 : Nat) 1)), .v (.int .u64 (limb (bif bN then numOf (numB SO) else 0 : Nat) 2)), .v (.int .u64 (limb (bif bN then numOf (numB SO) else 0 : Nat) 3)), .sl 0 [] 0 .full, .sl 0 [] 0 .full, .v (.int .u8 0), .v (.int .u64 0), .v (.int .u64 0), .sl 0 [] 0 .full, .sl 0 [] 0 .full, .v (.int .u64 0), .v (.int .u16 0), .v (.bool false)], toks := tk, gl := gl, rows := rows })) ?cy5 ?cx5
      case cy5 =>
       rintro z ρCc51 σ1 hFCc51 hσ; obtain rfl := hσ.symm
       have fCc51 := keepL hFCc51
       (try simp [KeepL, F] at fCc51); (try replace F := aF fCc51 F); refine sqc (X := Unit) [0, 1, 2] (fun z ρ σ1 => (σ1 = { objs := (O.set id1 (rd SC)).set id2 [.v (.int .u8 x1.toNat), .v (.int .u8 (bif bE then 0 else be (takeB 1 s) : Nat)), .v (.int .u64 (bif bE then 0 else be (takeB 8 (takeS 1 s)) : Nat)), allA (!bE) (coinsL (takeS 8 (takeS 1 s))), .v (.int .u8 (bif bT then be (takeB 1 SE) else 0 : Nat)), .v (.int .u8 (bif bV then be (takeB 1 ST) else 0 : Nat)), .v (.int .u8 (bif bO then be (takeB 1 SV) else 0 : Nat)), .v (.int .u64 (limb (bif bN then numOf (numB SO) else 0 : Nat) 0)), .v (.int .u64 (limb (bif bN then numOf (numB SO) else 0 : Nat) 1)), .v (.int .u64 (limb (bif bN then numOf (numB SO) else 0 : Nat) 2)), .v (.int .u64 (limb (bif bN then numOf (numB SO) else 0 : Nat) 3)), allA bC (coinsL SN), .sl 0 [] 0 .full, .v (.int .u8 0), .v (.int .u64 0), .v (.int .u64 0), .sl 0 [] 0 .full, .sl 0 [] 0 .full, .v (.int .u64 0), .v (.int .u16 0), .v (.bool false)], toks := tk, gl := gl, rows := rows })) ?cy6 ?cx6
       case cy6 =>
        rintro z ρCc59 σ1 hFCc59 hσ; obtain rfl := hσ.symm
        have fCc59 := keepL hFCc59
        (try simp [KeepL, F] at fCc59); (try replace F := aF fCc59 F); refine sqc (X := Unit) [0, 1, 2] (fun z ρ σ1 => (σ1 = { objs := (O.set id1 (rd SU)).set id2 [.v (.int .u8 x1.toNat), .v (.int .u8 (bif bE then 0 else be (takeB 1 s) : Nat)), .v (.int .u64 (bif bE then 0 else be (takeB 8 (takeS 1 s)) : Nat)), allA (!bE) (coinsL (takeS 8 (takeS 1 s))), .v (.int .u8 (bif bT then be (takeB 1 SE) else 0 : Nat)), .v (.int .u8 (bif bV then be (takeB 1 ST) else 0 : Nat)), .v (.int .u8 (bif bO then be (takeB 1 SV) else 0 : Nat)), .v (.int .u64 (limb (bif bN then numOf (numB SO) else 0 : Nat) 0)), .v (.int .u64 (limb (bif bN then numOf (numB SO) else 0 : Nat) 1)), .v (.int .u64 (limb (bif bN then numOf (numB SO) else 0 : Nat) 2)), .v (.int .u64 (limb (bif bN then numOf (numB SO) else 0 : Nat) 3)), allA bC (coinsL SN), grA tk.length 2 (posB LU.length) (outsC LU) LU.length, .v (.int .u8 0), .v (.int .u64 0), .v (.int .u64 0), .sl 0 [] 0 .full, .sl 0 [] 0 .full, .v (.int .u64 0), .v (.int .u16 0), .v (.bool false)], toks := tk ++ grT (posB LU.length) LU.length, gl := gl, rows := rows })) ?cy7 ?cx7
        case cy7 =>
         rintro z ρCc67 σ1 hFCc67 hσ; obtain rfl := hσ.symm
         have fCc67 := keepL hFCc67
         (try simp [KeepL, F] at fCc67); (try replace F := aF fCc67 F); refine sqc (X := Unit) [0, 1, 2] (fun z ρ σ1 => (σ1 = { objs := (O.set id1 (rd SP)).set id2 [.v (.int .u8 x1.toNat), .v (.int .u8 (bif bE then 0 else be (takeB 1 s) : Nat)), .v (.int .u64 (bif bE then 0 else be (takeB 8 (takeS 1 s)) : Nat)), allA (!bE) (coinsL (takeS 8 (takeS 1 s))), .v (.int .u8 (bif bT then be (takeB 1 SE) else 0 : Nat)), .v (.int .u8 (bif bV then be (takeB 1 ST) else 0 : Nat)), .v (.int .u8 (bif bO then be (takeB 1 SV) else 0 : Nat)), .v (.int .u64 (limb (bif bN then numOf (numB SO) else 0 : Nat) 0)), .v (.int .u64 (limb (bif bN then numOf (numB SO) else 0 : Nat) 1)), .v (.int .u64 (limb (bif bN then numOf (numB SO) else 0 : Nat) 2)), .v (.int .u64 (limb (bif bN then numOf (numB SO) else 0 : Nat) 3)), allA bC (coinsL SN), grA tk.length 2 (posB LU.length) (outsC LU) LU.length, .v (.int .u8 (bif bP then Pk else 0 : UInt8).toNat), .v (.int .u64 (bif bP then Ps else 0 : Nat)), .v (.int .u64 (bif bP then Pe else 0 : Nat)), allA bP Pt, perA bP Pq, .v (.int .u64 0), .v (.int .u16 0), .v (.bool false)], toks := tk ++ grT (posB LU.length) LU.length, gl := gl, rows := rows })) ?cy8 ?cx8
         case cy8 =>
          rintro z ρCc95 σ1 hFCc95 hσ; obtain rfl := hσ.symm
          have fCc95 := keepL hFCc95
          (try simp [KeepL, F] at fCc95); (try replace F := aF fCc95 F); refine sqc (X := Unit) [0, 1, 2] (fun z ρ σ1 => (σ1 = { objs := (O.set id1 (rd SM)).set id2 [.v (.int .u8 x1.toNat), .v (.int .u8 (bif bE then 0 else be (takeB 1 s) : Nat)), .v (.int .u64 (bif bE then 0 else be (takeB 8 (takeS 1 s)) : Nat)), allA (!bE) (coinsL (takeS 8 (takeS 1 s))), .v (.int .u8 (bif bT then be (takeB 1 SE) else 0 : Nat)), .v (.int .u8 (bif bV then be (takeB 1 ST) else 0 : Nat)), .v (.int .u8 (bif bO then be (takeB 1 SV) else 0 : Nat)), .v (.int .u64 (limb (bif bN then numOf (numB SO) else 0 : Nat) 0)), .v (.int .u64 (limb (bif bN then numOf (numB SO) else 0 : Nat) 1)), .v (.int .u64 (limb (bif bN then numOf (numB SO) else 0 : Nat) 2)), .v (.int .u64 (limb (bif bN then numOf (numB SO) else 0 : Nat) 3)), allA bC (coinsL SN), grA tk.length 2 (posB LU.length) (outsC LU) LU.length, .v (.int .u8 (bif bP then Pk else 0 : UInt8).toNat), .v (.int .u64 (bif bP then Ps else 0 : Nat)), .v (.int .u64 (bif bP then Pe else 0 : Nat)), allA bP Pt, perA bP Pq, .v (.int .u64 (bif bM then be (takeB 8 SP) else 0 : Nat)), .v (.int .u16 0), .v (.bool false)], toks := tk ++ grT (posB LU.length) LU.length, gl := gl, rows := rows })) ?cy9 ?cx9
          case cy9 =>
           rintro z ρCc103 σ1 hFCc103 hσ; obtain rfl := hσ.symm
           have fCc103 := keepL hFCc103
           (try simp [KeepL, F] at fCc103); (try replace F := aF fCc103 F); refine sqc (X := Unit) [0, 1, 2] (fun z ρ σ1 => (σ1 = { objs := (O.set id1 (rd SQ)).set id2 [.v (.int .u8 x1.toNat), .v (.int .u8 (bif bE then 0 else be (takeB 1 s) : Nat)), .v (.int .u64 (bif bE then 0 else be (takeB 8 (takeS 1 s)) : Nat)), allA (!bE) (coinsL (takeS 8 (takeS 1 s))), .v (.int .u8 (bif bT then be (takeB 1 SE) else 0 : Nat)), .v (.int .u8 (bif bV then be (takeB 1 ST) else 0 : Nat)), .v (.int .u8 (bif bO then be (takeB 1 SV) else 0 : Nat)), .v (.int .u64 (limb (bif bN then numOf (numB SO) else 0 : Nat) 0)), .v (.int .u64 (limb (bif bN then numOf (numB SO) else 0 : Nat) 1)), .v (.int .u64 (limb (bif bN then numOf (numB SO) else 0 : Nat) 2)), .v (.int .u64 (limb (bif bN then numOf (numB SO) else 0 : Nat) 3)), allA bC (coinsL SN), grA tk.length 2 (posB LU.length) (outsC LU) LU.length, .v (.int .u8 (bif bP then Pk else 0 : UInt8).toNat), .v (.int .u64 (bif bP then Ps else 0 : Nat)), .v (.int .u64 (bif bP then Pe else 0 : Nat)), allA bP Pt, perA bP Pq, .v (.int .u64 (bif bM then be (takeB 8 SP) else 0 : Nat)), .v (.int .u16 (bif bQ then be (takeB 2 SM) else 0 : Nat)), .v (.bool false)], toks := tk ++ grT (posB LU.length) LU.length, gl := gl, rows := rows })) ?cy10 ?cx10
           case cy10 =>
            rintro z ρCc111 σ1 hFCc111 hσ; obtain rfl := hσ.symm
            have fCc111 := keepL hFCc111
            (try simp [KeepL, F] at fCc111); (try replace F := aF fCc111 F); refine sr fun _ hJ12 => ?_; refine hJ12 _ _ ?_; refine cs (t := bJ) (fun c119 => ?_) (fun c119 => ?_)
            · (try exact nope c119); all_goals have c119p := c119; try simp [F] at c119p
              all_goals
               replace F := aF c119 F; (try replace F := aF c119p F); refine rg' (h := fun J13 hJ13 => ?_); refine ca (c := flag_ok (g1 _ _)) (k := ?_); rintro _ _ ⟨rfl, rfl⟩; (repeat (first | simp [F] | simp (disch := omega) only [wC, if_pos, if_neg])); refine hJ13 _ _ ?_; (try simp only [Then, InBlock, NoGoto, if_true]); refine answer_none rfl (.inl rfl) ?_
               have hJs : True := trivial
               have h := c119
               exact ⟨rfl, _, grT (posB LU.length) LU.length, hW, hcell, by simp [hSJ, h]⟩
            (try exact nope c119); all_goals have c119p := c119; try simp [F] at c119p
            all_goals
             replace F := aF c119 F; (try replace F := aF c119p F); refine run_skip ?_; (try simp only [Then, InBlock, NoGoto, if_true]); refine answer_none rfl (.inl rfl) ?_
             have hJs : True := trivial
             have h := c119
             exact ⟨rfl, _, grT (posB LU.length) LU.length, hW, hcell, by simp [hSJ, h]⟩
           case cx10 =>
            intro K10 hK10
            refine sr fun _ hJ15 => ?_; refine hJ15 _ _ ?_; refine cs (t := bQ) (fun c111 => ?_) (fun c111 => ?_)
            · (try exact nope c111); all_goals have c111p := c111; try simp [F] at c111p
              all_goals
               replace F := aF c111 F; (try replace F := aF c111p F); refine rg' (h := fun J16 hJ16 => ?_); refine ca (c := short_ok (g1 _ _)) (k := ?_); rintro _ _ ⟨rfl, rfl⟩; (repeat (first | simp [F] | simp (disch := omega) only [wC, if_pos, if_neg])); refine hJ16 _ _ ?_; refine hK10 (()) _ _ ⟨kp, ?_⟩
               · have h := c111
                 (try simp at h); simp [hSQ, F, h]
            (try exact nope c111); all_goals have c111p := c111; try simp [F] at c111p
            all_goals
             replace F := aF c111 F; (try replace F := aF c111p F); refine run_skip ?_; refine hK10 (()) _ _ ⟨kp, ?_⟩
             · have h := c111
               (try simp at h); simp [hSQ, F, h]
          case cx9 =>
           intro K9 hK9
           refine sr fun _ hJ18 => ?_; refine hJ18 _ _ ?_; refine cs (t := bM) (fun c103 => ?_) (fun c103 => ?_)
           · (try exact nope c103); all_goals have c103p := c103; try simp [F] at c103p
             all_goals
              replace F := aF c103 F; (try replace F := aF c103p F); refine rg' (h := fun J19 hJ19 => ?_); refine ca (c := long_ok (g1 _ _)) (k := ?_); rintro _ _ ⟨rfl, rfl⟩; (repeat (first | simp [F] | simp (disch := omega) only [wC, if_pos, if_neg])); refine hJ19 _ _ ?_; refine hK9 (()) _ _ ⟨kp, ?_⟩
              · have h := c103
                (try simp at h); simp [hSM, F, h]
           (try exact nope c103); all_goals have c103p := c103; try simp [F] at c103p
           all_goals
            replace F := aF c103 F; (try replace F := aF c103p F); refine run_skip ?_; refine hK9 (()) _ _ ⟨kp, ?_⟩
            · have h := c103
              (try simp at h); simp [hSM, F, h]
         case cx8 =>
          intro K8 hK8
          refine sr fun _ hJ21 => ?_; refine hJ21 _ _ ?_; refine cs (t := bP) (fun c95 => ?_) (fun c95 => ?_)
          · (try exact nope c95); all_goals have c95p := c95; try simp [F] at c95p
            all_goals
             replace F := aF c95 F; (try replace F := aF c95p F); refine rg' (h := fun J22 hJ22 => ?_); refine ca (c := hptk (g1 _ _)) (k := ?_); rintro _ _ ⟨rfl, rfl⟩; (repeat (first | simp [F] | simp (disch := omega) only [wC, if_pos, if_neg])); refine hJ22 _ _ ?_; refine hK8 (()) _ _ ⟨kp, ?_⟩
             · have h := c95
               (try simp at h); simp [hSP, F, h]
          (try exact nope c95); all_goals have c95p := c95; try simp [F] at c95p
          all_goals
           replace F := aF c95 F; (try replace F := aF c95p F); refine run_skip ?_; refine hK8 (()) _ _ ⟨kp, ?_⟩
           · have h := c95
             (try simp at h); simp [hSP, F, h]
        case cx7 =>
         intro K7 hK7
         refine sr fun _ hJ24 => ?_; refine hJ24 _ _ ?_; refine cs (t := bU) (fun c67 => ?_) (fun c67 => ?_)
         · (try exact nope c67); all_goals have c67p := c67; try simp [F] at c67p
           all_goals
            replace F := aF c67 F; (try replace F := aF c67p F); refine sr fun _ hJ26 => ?_; refine ca (c := byte_ok (g1 _ _)) (k := ?_); rintro _ _ ⟨rfl, rfl⟩; (repeat (first | simp [F] | simp (disch := omega) only [wC, if_pos, if_neg])); refine hJ26 _ _ ?_; refine run_block_k ?_; refine run_loopF (X := RSt) [0, 1, 2] (fun y ρ σ1 => (y.m + y.l.length ≤ 255) ∧ (outsGo y.m y.s y.l = outsR SC) ∧ (ρ 6 = .v (.int .u8 y.m)) ∧ (σ1 = { objs := (O.set id1 (rd y.s)).set id2 [.v (.int .u8 x1.toNat), .v (.int .u8 (bif bE then 0 else be (takeB 1 s) : Nat)), .v (.int .u64 (bif bE then 0 else be (takeB 8 (takeS 1 s)) : Nat)), allA (!bE) (coinsL (takeS 8 (takeS 1 s))), .v (.int .u8 (bif bT then be (takeB 1 SE) else 0 : Nat)), .v (.int .u8 (bif bV then be (takeB 1 ST) else 0 : Nat)), .v (.int .u8 (bif bO then be (takeB 1 SV) else 0 : Nat)), .v (.int .u64 (limb (bif bN then numOf (numB SO) else 0 : Nat) 0)), .v (.int .u64 (limb (bif bN then numOf (numB SO) else 0 : Nat) 1)), .v (.int .u64 (limb (bif bN then numOf (numB SO) else 0 : Nat) 2)), .v (.int .u64 (limb (bif bN then numOf (numB SO) else 0 : Nat) 3)), allA bC (coinsL SN), grA tk.length 2 (posB y.l.length) (outsC y.l) y.l.length, .v (.int .u8 0), .v (.int .u64 0), .v (.int .u64 0), .sl 0 [] 0 .full, .sl 0 [] 0 .full, .v (.int .u64 0), .v (.int .u16 0), .v (.bool false)], toks := tk ++ grT (posB y.l.length) y.l.length, gl := gl, rows := rows })) (fun y => y.m) (⟨be (takeB 1 SC), takeS 1 SC, []⟩) ?st1 ?rd1
            case st1 =>
             refine ⟨?_, ?_, lp, ?_⟩
             · simp
               omega
             · rfl
             · simp [F]
            case rd1 =>
             rintro y ρ1 σ1 hF1 ⟨hm, hg, h6, hσ⟩; obtain rfl := hσ.symm
             have f1 := keepL hF1
             (try simp [KeepL, F] at f1); replace F := aF h6 F; (try replace F := aF f1 F); refine sq fun K27 hK27 => ?_; refine sqc (X := Unit) [0, 1, 2, 6] (fun z ρ σ1 => (ρ 76 = .v (.bool (decide (0 < y.m) && !y.s.isNone))) ∧ (σ1 = { objs := (O.set id1 (rd y.s)).set id2 [.v (.int .u8 x1.toNat), .v (.int .u8 (bif bE then 0 else be (takeB 1 s) : Nat)), .v (.int .u64 (bif bE then 0 else be (takeB 8 (takeS 1 s)) : Nat)), allA (!bE) (coinsL (takeS 8 (takeS 1 s))), .v (.int .u8 (bif bT then be (takeB 1 SE) else 0 : Nat)), .v (.int .u8 (bif bV then be (takeB 1 ST) else 0 : Nat)), .v (.int .u8 (bif bO then be (takeB 1 SV) else 0 : Nat)), .v (.int .u64 (limb (bif bN then numOf (numB SO) else 0 : Nat) 0)), .v (.int .u64 (limb (bif bN then numOf (numB SO) else 0 : Nat) 1)), .v (.int .u64 (limb (bif bN then numOf (numB SO) else 0 : Nat) 2)), .v (.int .u64 (limb (bif bN then numOf (numB SO) else 0 : Nat) 3)), allA bC (coinsL SN), grA tk.length 2 (posB y.l.length) (outsC y.l) y.l.length, .v (.int .u8 0), .v (.int .u64 0), .v (.int .u64 0), .sl 0 [] 0 .full, .sl 0 [] 0 .full, .v (.int .u64 0), .v (.int .u16 0), .v (.bool false)], toks := tk ++ grT (posB y.l.length) y.l.length, gl := gl, rows := rows })) ?cy28 ?cx28
             case cy28 =>
              rintro z ρCr14 σ1 hFCr14 ⟨h76, hσ⟩; obtain rfl := hσ.symm
              have fCr14 := keepL hFCr14
              (try simp [KeepL, F] at fCr14); replace F := aF h76 F; (try replace F := aF fCr14 F); refine cs (t := (decide (0 < y.m) && !y.s.isNone)) (fun c76 => ?_) (fun c76 => ?_)
              · (try exact nope c76); all_goals have c76p := c76; try simp [F] at c76p
                all_goals
                 replace F := aF c76 F; (try replace F := aF c76p F); refine run_skip ?_; refine hK27 _ _ ?_; refine sq fun K29 hK29 => ?_; refine run_block_k ?_
                 obtain ⟨m, S, L⟩ := y
                 simp only at hm hg h6
                 have hmS : 0 < m ∧ ¬ S = none := by have h := c76; simp at h; exact ⟨h.1, by intro e; rw [e] at h; simp at h⟩
                 have hnx := outsGo_more (l := L) hmS.1 hmS.2
                 have hPo : outsC (L ++ [outS S]) = outsC L ++ [.v (.int .u8 (be (takeB 1 S))), .sl 5 (coinsC (coinsL (takeS 1 S))) (coinsL (takeS 1 S)).length .shut] := by rw [← outsC_append, be_byteS]; rfl
                 have hLl : L.length ≤ 254 := by omega
                 have happ : ∀ objs, appendA Try.prog 70 (grA tk.length 2 (posB L.length) (outsC L) L.length) (.sl 2 [.v (.int .u8 (be (takeB 1 S))), .sl 5 (coinsC (coinsL (takeS 1 S))) (coinsL (takeS 1 S)).length .shut] 1 .full) ⟨objs, tk ++ grT (posB L.length) L.length, gl, rows⟩ = some (grA tk.length 2 true (outsC L ++ [.v (.int .u8 (be (takeB 1 S))), .sl 5 (coinsC (coinsL (takeS 1 S))) (coinsL (takeS 1 S)).length .shut]) (L.length + 1), ⟨objs, tk ++ grT true (L.length + 1), gl, rows⟩) := fun objs => append_gr elemT_70 ti_122 (by decide) rfl onil0 (.inl rfl) (by simp [roomA]; omega) (by simp [maxLen]; omega)
                 have hwm : IntKind.u8.wrap ((m : Int) - 1) = ((m - 1 : Nat) : Int) := by rw [wrap_u8c (by omega)]; omega
                 replace F := aF happ F
                 refine run_draw (by kernel_rfl) fun J30 hJ30 => ?_
                 refine rp2 0 (k := ?_); refine rp2 1 (k := ?_); refine rp2 2 (k := ?_); refine rp2 3 (k := ?_); refine rp2 4 (k := ?_); refine rp2 5 (k := ?_); refine rp2 7 (k := ?_); refine dc 6 rfl (c := byte_ok (g1 _ _)) (k := ?_); rintro _ _ ⟨rfl, rfl⟩
                 refine ⟨by first | exact fun _ _ h => h | (refine later_list [7, 4, 3, 2, 1, 0] (by kernel_rfl) (List.forall_mem_cons.2 ⟨fun _ => fact2 rfl rfl ?_, List.forall_mem_cons.2 ⟨fun _ => fact2 rfl rfl ?_, List.forall_mem_cons.2 ⟨fun _ => fact2 rfl rfl ?_, List.forall_mem_cons.2 ⟨fun _ => fact2 rfl rfl ?_, List.forall_mem_cons.2 ⟨fun _ => fact2 rfl rfl ?_, List.forall_mem_cons.2 ⟨fun _ => fact2 rfl rfl ?_, fun _ h => absurd h List.not_mem_nil⟩⟩⟩⟩⟩⟩) <;> constructor <;> first | rfl | (simp [F]; done)), ?_⟩
                 (repeat (first | simp [F] | simp (disch := omega) only [wC, if_pos, if_neg])); refine dc 8 rfl (c := rcoins_raw (g1 _ _)) (k := ?_); rintro _ _ ⟨rfl, rfl⟩
                 refine ⟨by first | exact fun _ _ h => h | (refine later_list [4, 3, 2, 1, 0] (by kernel_rfl) (List.forall_mem_cons.2 ⟨fun _ => fact2 rfl rfl ?_, List.forall_mem_cons.2 ⟨fun _ => fact2 rfl rfl ?_, List.forall_mem_cons.2 ⟨fun _ => fact2 rfl rfl ?_, List.forall_mem_cons.2 ⟨fun _ => fact2 rfl rfl ?_, List.forall_mem_cons.2 ⟨fun _ => fact2 rfl rfl ?_, fun _ h => absurd h List.not_mem_nil⟩⟩⟩⟩⟩) <;> constructor <;> first | rfl | (simp [F]; done)), ?_⟩
                 (repeat (first | simp [F] | simp (disch := omega) only [wC, if_pos, if_neg])); refine rp2 9 (k := ?_); refine rp2 10 (k := ?_); refine dop 11 rfl ?_; repeat (first | simp [F] | simp (disch := omega) only [wC, if_pos, if_neg])
                 refine ⟨by first | exact fun _ _ h => h | (refine later_list [9, 3, 2, 1, 0] (by kernel_rfl) (List.forall_mem_cons.2 ⟨fun _ => fact2 rfl rfl ?_, List.forall_mem_cons.2 ⟨fun _ => fact2 rfl rfl ?_, List.forall_mem_cons.2 ⟨fun _ => fact2 rfl rfl ?_, List.forall_mem_cons.2 ⟨fun _ => fact2 rfl rfl ?_, List.forall_mem_cons.2 ⟨fun _ => fact2 rfl rfl ?_, fun _ h => absurd h List.not_mem_nil⟩⟩⟩⟩⟩) <;> constructor <;> first | rfl | (simp [F]; done)), ?_⟩
                 refine rp2 12 (k := ?_); refine rp2 13 (k := ?_); refine dop 14 rfl ?_; repeat (first | simp [F] | simp (disch := omega) only [wC, if_pos, if_neg])
                 refine ⟨by first | exact fun _ _ h => h | (refine later_list [12] (by kernel_rfl) (List.forall_mem_cons.2 ⟨fun _ => fact2 rfl rfl ?_, fun _ h => absurd h List.not_mem_nil⟩) <;> constructor <;> first | rfl | (simp [F]; done)), ?_⟩
                 refine dd ?_; refine hJ30 _ _ ?_; refine hK29 _ _ ?_; replace F := aF hwm F; refine rg' (h := fun J31 hJ31 => ?_); refine hJ31 _ _ ?_; refine ⟨(⟨m - 1, outT S, L ++ [outS S]⟩), ⟨kp, ?_, ?_, lp, ?_⟩, ?_⟩
                 · simp
                   omega
                 · rw [← hg]
                   exact hnx.symm
                 · simp [F, hPo, outT]
                 · simp
                   omega
              (try exact nope c76); all_goals have c76p := c76; try simp [F] at c76p
              all_goals
               replace F := aF c76 F; try replace F := aF c76p F
               have he : outsR SC = (y.l, y.s) := by rw [← hg]; exact outsGo_stop (by have h := c76; simp at h; by_cases h0 : y.m = 0; exact .inl h0; exact .inr (h (by omega)))
               have hy1 : SU = y.s := by rw [hSU, c67, he]; rfl
               have hy2 : LU = y.l := by rw [hLU, c67, he]; rfl
               refine run_exit ?_; refine hK7 (()) _ _ ⟨kp, ?_⟩
               · simp [hy1, hy2]
             case cx28 =>
              intro K28 hK28
              refine rg' (h := fun J32 hJ32 => ?_); refine gs 72 (fun g14_2 => ?_) (fun g14_2 => ?_)
              · (try exact nope g14_2); all_goals have g14_2p := g14_2; try simp [F] at g14_2p
                all_goals
                 replace F := aF g14_2 F; (try replace F := aF g14_2p F); refine go2 (k := ?_); refine ca (c := bad_ok (g1 _ _)) (k := ?_); rintro _ _ ⟨rfl, rfl⟩; (repeat (first | simp [F] | simp (disch := omega) only [wC, if_pos, if_neg])); refine go2 (k := ?_); refine hJ32 _ _ ?_; refine hK28 (()) _ _ ⟨kp, ?_, lp⟩
                 · have h := g14_2
                   simp at h
                   simp [F, h]
              (try exact nope g14_2); all_goals have g14_2p := g14_2; try simp [F] at g14_2p
              all_goals
               replace F := aF g14_2 F; (try replace F := aF g14_2p F); (iterate 3 refine no2 (k := ?_)); refine hJ32 _ _ ?_; refine hK28 (()) _ _ ⟨kp, ?_, lp⟩
               · have h := g14_2
                 simp at h
                 simp [F, h]
         (try exact nope c67); all_goals have c67p := c67; try simp [F] at c67p
         all_goals
          replace F := aF c67 F; (try replace F := aF c67p F); refine run_skip ?_; refine hK7 (()) _ _ ⟨kp, ?_⟩
          · have e1 : SU = SC := by (rw [hSU, c67]; rfl)
            have e2 : LU = [] := by (rw [hLU, c67]; rfl)
            simp [e1, e2]
       case cx6 =>
        intro K6 hK6
        refine sr fun _ hJ34 => ?_; refine hJ34 _ _ ?_; refine cs (t := bC) (fun c59 => ?_) (fun c59 => ?_)
        · (try exact nope c59); all_goals have c59p := c59; try simp [F] at c59p
          all_goals
           replace F := aF c59 F; (try replace F := aF c59p F); refine rg' (h := fun J35 hJ35 => ?_); refine ca (c := rcoins_raw (g1 _ _)) (k := ?_); rintro _ _ ⟨rfl, rfl⟩; (repeat (first | simp [F] | simp (disch := omega) only [wC, if_pos, if_neg])); refine hJ35 _ _ ?_; refine hK6 (()) _ _ ⟨kp, ?_⟩
           · have h := c59
             (try simp at h); simp [hSC, F, h]
        (try exact nope c59); all_goals have c59p := c59; try simp [F] at c59p
        all_goals
         replace F := aF c59 F; (try replace F := aF c59p F); refine run_skip ?_; refine hK6 (()) _ _ ⟨kp, ?_⟩
         · have h := c59
           (try simp at h); simp [hSC, F, h]
      case cx5 =>
       intro K5 hK5
       refine sr fun _ hJ37 => ?_; refine hJ37 _ _ ?_; refine cs (t := bN) (fun c51 => ?_) (fun c51 => ?_)
       · (try exact nope c51); all_goals have c51p := c51; try simp [F] at c51p
         all_goals
          replace F := aF c51 F; (try replace F := aF c51p F); replace F := aF hnA F; refine rg' (h := fun J38 hJ38 => ?_); refine ca (c := num_ok (g1 _ _)) (k := ?_); rintro _ _ ⟨rfl, rfl⟩; (repeat (first | simp [F] | simp (disch := omega) only [wC, if_pos, if_neg])); refine hJ38 _ _ ?_; refine hK5 (()) _ _ ⟨kp, ?_⟩
          · have h := c51
            (try simp at h); simp [hSN, F, h]
       (try exact nope c51); all_goals have c51p := c51; try simp [F] at c51p
       all_goals
        replace F := aF c51 F; (try replace F := aF c51p F); refine run_skip ?_; refine hK5 (()) _ _ ⟨kp, ?_⟩
        · have h := c51
          (try simp at h); simp [hSN, F, h]
     case cx4 =>
      intro K4 hK4
      refine sr fun _ hJ40 => ?_; refine hJ40 _ _ ?_; refine cs (t := bO) (fun c43 => ?_) (fun c43 => ?_)
      · (try exact nope c43); all_goals have c43p := c43; try simp [F] at c43p
        all_goals
         replace F := aF c43 F; (try replace F := aF c43p F); refine rg' (h := fun J41 hJ41 => ?_); refine ca (c := byte_ok (g1 _ _)) (k := ?_); rintro _ _ ⟨rfl, rfl⟩; (repeat (first | simp [F] | simp (disch := omega) only [wC, if_pos, if_neg])); refine hJ41 _ _ ?_; refine hK4 (()) _ _ ⟨kp, ?_⟩
         · have h := c43
           (try simp at h); simp [hSO, F, h]
      (try exact nope c43); all_goals have c43p := c43; try simp [F] at c43p
      all_goals
       replace F := aF c43 F; (try replace F := aF c43p F); refine run_skip ?_; refine hK4 (()) _ _ ⟨kp, ?_⟩
       · have h := c43
         (try simp at h); simp [hSO, F, h]
    case cx3 =>
     intro K3 hK3
     refine sr fun _ hJ43 => ?_; refine hJ43 _ _ ?_; refine cs (t := bV) (fun c35 => ?_) (fun c35 => ?_)
     · (try exact nope c35); all_goals have c35p := c35; try simp [F] at c35p
       all_goals
        replace F := aF c35 F; (try replace F := aF c35p F); refine rg' (h := fun J44 hJ44 => ?_); refine ca (c := byte_ok (g1 _ _)) (k := ?_); rintro _ _ ⟨rfl, rfl⟩; (repeat (first | simp [F] | simp (disch := omega) only [wC, if_pos, if_neg])); refine hJ44 _ _ ?_; refine hK3 (()) _ _ ⟨kp, ?_⟩
        · have h := c35
          (try simp at h); simp [hSV, F, h]
     (try exact nope c35); all_goals have c35p := c35; try simp [F] at c35p
     all_goals
      replace F := aF c35 F; (try replace F := aF c35p F); refine run_skip ?_; refine hK3 (()) _ _ ⟨kp, ?_⟩
      · have h := c35
        (try simp at h); simp [hSV, F, h]
   case cx2 =>
    intro K2 hK2
    refine sr fun _ hJ46 => ?_; refine hJ46 _ _ ?_; refine cs (t := bT) (fun c27 => ?_) (fun c27 => ?_)
    · (try exact nope c27); all_goals have c27p := c27; try simp [F] at c27p
      all_goals
       replace F := aF c27 F; (try replace F := aF c27p F); refine rg' (h := fun J47 hJ47 => ?_); refine ca (c := byte_ok (g1 _ _)) (k := ?_); rintro _ _ ⟨rfl, rfl⟩; (repeat (first | simp [F] | simp (disch := omega) only [wC, if_pos, if_neg])); refine hJ47 _ _ ?_; refine hK2 (()) _ _ ⟨kp, ?_⟩
       · have h := c27
         (try simp at h); simp [hST, F, h]
    (try exact nope c27); all_goals have c27p := c27; try simp [F] at c27p
    all_goals
     replace F := aF c27 F; (try replace F := aF c27p F); refine run_skip ?_; refine hK2 (()) _ _ ⟨kp, ?_⟩
     · have h := c27
       (try simp at h); simp [hST, F, h]
  case cx1 =>
   intro K1 hK1
   refine sr fun _ hJ49 => ?_; refine hJ49 _ _ ?_; refine cs (t := !bE) (fun c9 => ?_) (fun c9 => ?_)
   · (try exact nope c9); all_goals have c9p := c9; try simp [F] at c9p
     all_goals
      replace F := aF c9 F; (try replace F := aF c9p F); refine rg' (h := fun J50 hJ50 => ?_); refine ca (c := byte_ok (g1 _ _)) (k := ?_); rintro _ _ ⟨rfl, rfl⟩; (repeat (first | simp [F] | simp (disch := omega) only [wC, if_pos, if_neg])); refine ca (c := long_ok (g1 _ _)) (k := ?_); rintro _ _ ⟨rfl, rfl⟩; (repeat (first | simp [F] | simp (disch := omega) only [wC, if_pos, if_neg])); refine ca (c := rcoins_raw (g1 _ _)) (k := ?_); rintro _ _ ⟨rfl, rfl⟩; (repeat (first | simp [F] | simp (disch := omega) only [wC, if_pos, if_neg])); refine hJ50 _ _ ?_; refine hK1 (()) _ _ ⟨kp, ?_⟩
      · have h := c9
        (try simp at h); simp [hSE, F, h]
   (try exact nope c9); all_goals have c9p := c9; try simp [F] at c9p
   all_goals
    replace F := aF c9 F; (try replace F := aF c9p F); refine run_skip ?_; refine hK1 (()) _ _ ⟨kp, ?_⟩
    · have h := c9
      (try simp at h); simp [hSE, F, h]
end Go.Proofs.Ytdbaddholggkbaa

/-
  A plan, read of any bytes by the document..
-/
namespace Go.Proofs.Ytdbaddholggkbaa
set_option linter.unnecessarySimpa false
set_option maxRecDepth 100000
open Go Go.Vm
set_option linter.unusedSimpArgs false
set_option linter.unusedVariables false
attribute [local simp] evalL wantedA isCall opA evalA evalAll evalsA evalOpt ofValue ofCell plain binA_eql_pn binA_neq_pn binA_gtr binA_lss binA_geq binA_leq binA_add binA_sub binA_eql binA_neq binA_orI binA_andI binA_shl binA_shr binA_mul binA_quo binA_rem binA_agg_eql binA_agg_neq convA_int unA_not fieldAddrA loadA partA pickA_true pickA_false pickA_bb lenA builtinA storeA splice AV.cells AV.isCell sliceA boundA intA callOf indexAddrA newObjA buildA fillA zeroA ofCells buildSliceA indexA fieldA numA_len4 numA_take4 numA_drop4 set_appN get_appN take_appN List.getElem?_cons_zero List.getElem?_cons_succ makeA zeros64

structure TSk where
  m : Nat
  s : Option (List UInt8)
  l : List Per
  k : Nat

theorem gcO_grA (n k : Nat) (b : Bool) (L : List Per) (m : Nat) : AV.gcO n (grA k 2 b (persC L) m) = grA k 2 b (persC L) m := by
  cases b <;> simp [AV.gcO, noObjL, persC_noObj]
theorem noObj_grA (n k : Nat) (b : Bool) (L : List Per) (m : Nat) : AV.noObj n (grA k 2 b (persC L) m) = true := by
  cases b <;> simp [AV.noObj, noObjL, persC_noObj]

set_option maxHeartbeats 1600000 in
attribute [local simp] undefA List.getElem?_cons_zero List.getElem?_cons_succ perC persC_noObj noObjL_inC gcO_grA noObj_grA in
theorem rtake_ok {σ : St} {id k : Nat} {p : List UInt8} {s : Option (List UInt8)} (h : σ.objs[id]? = some (inC p .shut k s.isNone)) (hp : p.length ≤ 1000000) (hk : At p k s) :
    CallsA Try.prog 35 [.ptr id 0] σ (fun av σ' => av = .agg (plnC (takeP s)) ∧ ∃ k', At p k' (takeT s) ∧ σ' = { σ with objs := σ.objs.set id (inC p .shut k' (takeT s).isNone) }) := by
  refine callsA_gcI (x := fun k' => inC p .shut k' (takeT s).isNone) ?_ (by simp [AV.under, underL, plnC, persC_under]) (fun _ => inC_under _ _ _ _)
  have hs := set_self_of h
  have hlt := lt_of_get h
  have ho1 : ∀ r, (σ.objs ++ r)[id]? = some (inC p .shut k s.isNone) := fun r => by rw [List.getElem?_append_left hlt]; exact h
  have ho2 : ∀ x r, (σ.objs.set id x ++ r)[id]? = some x := fun x r => by rw [List.getElem?_append_left (by simpa using hlt)]; exact hs x
  have ho3 : ∀ x r, (σ.objs ++ r).set id x = σ.objs.set id x ++ r := fun x r => List.set_append_left _ _ hlt
  have ho4 : ∀ x y r, (σ.objs.set id y ++ r).set id x = σ.objs.set id x ++ r := fun x y r => by rw [List.set_append_left _ _ (by simpa using hlt), List.set_set]
  have hgc : ∀ (k : Nat) (b : Bool) (cs : List AV) (n : Nat), (grA k 2 b cs n).isCell = true := fun k b cs n => by cases b <;> rfl
  simp only [AV.isCell] at hgc
  have hdr : ∀ f : Nat → AV, List.drop 2 (List.map f (List.range 2)) = [] := fun _ => rfl
  have hdr5 : ∀ f : Nat → AV, List.drop 5 (List.map f (List.range 5)) = [] := fun _ => rfl
  have hR : ∀ (L : List Per) (k : Nat) (τ : St), L.length ≤ 255 → (∀ x ∈ L, x.l < 2 ^ 64 ∧ x.c.length ≤ 255) → CallsA Try.prog 19 [.agg [.v (.int .u8 (be (takeB 1 s))), .v (.int .u64 (be (takeB 8 (takeS 1 s)))), .v (.int .u64 (be (takeB 8 (takeS 8 (takeS 1 s))))), .sl 5 (coinsC (coinsL (takeS 8 (takeS 8 (takeS 1 s))))) (coinsL (takeS 8 (takeS 8 (takeS 1 s)))).length .shut, grA k 2 (posB L.length) (persC L) L.length]] τ (fun av σ' => av = .v (.bool (rightB (planP s L))) ∧ τ = σ') :=
    fun L k τ hl hx => callsA_wk (.cons (WkL.agg take_wk) .nil) (rpright_ok (planP_ok hl hx))
  obtain ⟨c, hc⟩ : ∃ c, c = be (takeB 1 (s4S s)) := ⟨_, rfl⟩
  have hm := be_lt1 (takeB_len 1 (s4S s))
  rw [← hc] at hm
  have hlt2 : id < σ.objs.length + 2 := by omega
  have htk : ∀ (x a b e : List AV), List.take (σ.objs.length + 2) (σ.objs.set id x ++ [a, b, e]) = σ.objs.set id x ++ [a, b] := fun x a b e => by
    have := List.take_length_add_append (l₁ := σ.objs.set id x) (l₂ := [a, b, e]) 2
    rw [List.length_set] at this
    exact this
  have F := And.intro ho1 (And.intro ho2 (And.intro ho3 (And.intro ho4 (And.intro hlt (And.intro hdr (And.intro hdr5 (And.intro hgc (And.intro hlt2 (And.intro htk (True.intro))))))))))
  refine callsA_body Try.func35 rfl rfl rfl ?_; refine sr fun _ hJ2 => ?_; refine hJ2 _ _ ?_; refine sr fun _ hJ4 => ?_; refine hJ4 _ _ ?_; refine sr fun _ hJ6 => ?_; refine ca (c := inByte_ok (ho1 _) hp hk) (k := ?_); rintro _ _ ⟨rfl, k0, hk0, rfl⟩; (repeat (first | simp [F] | simp (disch := omega) only [wC, if_pos, if_neg])); refine hJ6 _ _ ?_; refine sr fun _ hJ8 => ?_
  refine ca (c := inLong_ok (n := 8) (ho2 _ _) hp hk0 (by omega)) (k := ?_)
  rintro _ _ ⟨rfl, k1, hk1, rfl⟩; (repeat (first | simp [F] | simp (disch := omega) only [wC, if_pos, if_neg])); refine hJ8 _ _ ?_; refine sr fun _ hJ10 => ?_
  refine ca (c := inLong_ok (n := 8) (ho2 _ _) hp hk1 (by omega)) (k := ?_)
  rintro _ _ ⟨rfl, k2, hk2, rfl⟩; (repeat (first | simp [F] | simp (disch := omega) only [wC, if_pos, if_neg])); refine hJ10 _ _ ?_; refine sr fun _ hJ12 => ?_; refine ca (c := inCoins_ok (ho2 _ _) hp hk2) (k := ?_); rintro _ _ ⟨rfl, k3, hk3, rfl⟩; (repeat (first | simp [F] | simp (disch := omega) only [wC, if_pos, if_neg])); refine hJ12 _ _ ?_; refine sq fun K13 hK13 => ?_
  have hc2 : be (takeB 1 (coinsS (takeS 8 (takeS 8 (takeS 1 s))))) = c := hc.symm
  replace F := aF hc2 F; refine rg' (h := fun J14 hJ14 => ?_); refine ca (c := inByte_ok (ho2 _ _) hp hk3) (k := ?_); rintro _ _ ⟨rfl, k4, hk4, rfl⟩; (repeat (first | simp [F] | simp (disch := omega) only [wC, if_pos, if_neg])); refine hJ14 _ _ ?_; refine hK13 _ _ ?_; refine sq fun K15 hK15 => ?_; refine sr fun _ hJ17 => ?_; refine hJ17 _ _ ?_; refine run_block_k ?_; refine run_loopG (X := TSk) [0, 2, 3, 4] (fun q ρ σ1 => (q.m ≤ c) ∧ (q.m + q.l.length ≤ 255) ∧ (∀ x ∈ q.l, x.l < 2 ^ 64 ∧ x.c.length ≤ 255) ∧ (persGo q.m q.s q.l = planR s) ∧ (At p q.k q.s) ∧ (ρ 5 = .v (.int .i64 (c - q.m : Nat))) ∧ (σ1 = { σ with objs := σ.objs.set id (inC p .shut q.k q.s.isNone) ++ [[.v (.int .u8 0), .v (.int .u64 0), .v (.int .u64 0), .sl 0 [] 0 .full, .sl 0 [] 0 .full], [.v (.int .u8 (be (takeB 1 s))), .v (.int .u64 (be (takeB 8 (takeS 1 s)))), .v (.int .u64 (be (takeB 8 (takeS 8 (takeS 1 s))))), .sl 5 (coinsC (coinsL (takeS 8 (takeS 8 (takeS 1 s))))) (coinsL (takeS 8 (takeS 8 (takeS 1 s)))).length .shut, grA σ.toks.length 2 (posB q.l.length) (persC q.l) q.l.length]], toks := σ.toks ++ grT (posB q.l.length) q.l.length })) (fun q => q.m) (⟨c, takeS 1 (s4S s), [], k4⟩) ?st1 ?rd1
  case st1 =>
   refine ⟨lp, ?_, ?_, ?_, ?_, lp, ?_⟩
   · simp
     omega
   · simp
   · rw [hc]
     rfl
   · exact hk4
   · simp [F, s4S]
  case rd1 =>
   rintro q ρ1 σ1 hF1 ⟨hmc, hml, hx, hg, hq, hi, hσ⟩; obtain rfl := hσ.symm
   have f1 := keepL hF1
   (try simp [KeepL, F] at f1); replace F := aF hi F; (try replace F := aF f1 F); refine sq fun K18 hK18 => ?_; refine sqc (X := Unit) [0, 2, 3, 4, 5] (fun k ρ σ1 => (ρ 31 = .v (.bool (decide (0 < q.m) && !q.s.isNone))) ∧ (σ1 = { σ with objs := σ.objs.set id (inC p .shut q.k q.s.isNone) ++ [[.v (.int .u8 0), .v (.int .u64 0), .v (.int .u64 0), .sl 0 [] 0 .full, .sl 0 [] 0 .full], [.v (.int .u8 (be (takeB 1 s))), .v (.int .u64 (be (takeB 8 (takeS 1 s)))), .v (.int .u64 (be (takeB 8 (takeS 8 (takeS 1 s))))), .sl 5 (coinsC (coinsL (takeS 8 (takeS 8 (takeS 1 s))))) (coinsL (takeS 8 (takeS 8 (takeS 1 s)))).length .shut, grA σ.toks.length 2 (posB q.l.length) (persC q.l) q.l.length]], toks := σ.toks ++ grT (posB q.l.length) q.l.length })) ?cy19 ?cx19
   case cy19 =>
    rintro k ρCr8 σ1 hFCr8 ⟨h31, hσ⟩; obtain rfl := hσ.symm
    have fCr8 := keepL hFCr8
    (try simp [KeepL, F] at fCr8); replace F := aF h31 F; (try replace F := aF fCr8 F); refine cs (t := (decide (0 < q.m) && !q.s.isNone)) (fun c31 => ?_) (fun c31 => ?_)
    · (try exact nope c31); all_goals have c31p := c31; try simp [F] at c31p
      all_goals
       replace F := aF c31 F; (try replace F := aF c31p F); refine run_skip ?_; refine hK18 _ _ ?_; refine sq fun K20 hK20 => ?_; refine run_block_k ?_; refine sq fun K21 hK21 => ?_
       obtain ⟨m, S, L, j⟩ := q
       simp only at hmc hml hx hg hq hi
       have hmS : 0 < m ∧ ¬ S = none := by have h := c31; simp at h; exact ⟨h.1, by intro e; rw [e] at h; simp at h⟩
       have hnx := persGo_more (l := L) hmS.1 hmS.2
       have hP : persC (L ++ [perS S]) = persC L ++ [.v (.int .u64 (be (takeB 8 S))), .sl 5 (coinsC (coinsL (takeS 8 S))) (coinsL (takeS 8 S)).length .shut] := by rw [← persC_append]; rfl
       have hLl : L.length ≤ 254 := by omega
       have happ : ∀ objs, appendA Try.prog 24 (grA σ.toks.length 2 (posB L.length) (persC L) L.length) (.sl 2 [.v (.int .u64 (be (takeB 8 S))), .sl 5 (coinsC (coinsL (takeS 8 S))) (coinsL (takeS 8 S)).length .shut] 1 .full) ⟨objs, σ.toks ++ grT (posB L.length) L.length, σ.gl, σ.rows⟩ = some (grA σ.toks.length 2 true (persC L ++ [.v (.int .u64 (be (takeB 8 S))), .sl 5 (coinsC (coinsL (takeS 8 S))) (coinsL (takeS 8 S)).length .shut]) (L.length + 1), ⟨objs, σ.toks ++ grT true (L.length + 1), σ.gl, σ.rows⟩) := fun objs => append_gr elemT_24 ti_88 (by decide) rfl nil0 (.inl rfl) (by simp [roomA]; omega) (by simp [maxLen]; omega)
       replace F := aF hP.symm F; refine rg' (h := fun J22 hJ22 => ?_); refine hJ22 _ _ ?_; refine hK21 _ _ ?_; refine sr fun _ hJ24 => ?_
       refine ca (c := inLong_ok (n := 8) (ho2 _ _) hp hq (by omega)) (k := ?_)
       rintro _ _ ⟨rfl, k5, hk5, rfl⟩; (repeat (first | simp [F] | simp (disch := omega) only [wC, if_pos, if_neg])); refine hJ24 _ _ ?_; refine sr fun _ hJ26 => ?_; refine ca (c := inCoins_ok (ho2 _ _) hp hk5) (k := ?_); rintro _ _ ⟨rfl, k6, hk6, rfl⟩; (repeat (first | simp [F] | simp (disch := omega) only [wC, if_pos, if_neg])); refine hJ26 _ _ ?_; replace F := aF happ F; refine rg' (h := fun J27 hJ27 => ?_); refine hJ27 _ _ ?_; refine hK20 _ _ ?_; refine rg' (h := fun J28 hJ28 => ?_); refine hJ28 _ _ ?_; refine ⟨gk, (⟨m - 1, perT S, L ++ [perS S], k6⟩), ⟨kpG, ?_, ?_, ?_, ?_, ?_, ?_, ?_⟩, ?_⟩
       · simp
         omega
       · simp
         omega
       · intro x hxm
         rcases List.mem_append.1 hxm with h | h
         · exact hx x h
         · simp at h; subst h; exact perS_ok S
       · rw [← hg]
         exact hnx.symm
       · exact hk6
       · simp [F, AV.gcO]
         omega
       · simp [F, perT, St.trimO]
       · simp
         omega
    (try exact nope c31); all_goals have c31p := c31; try simp [F] at c31p
    all_goals
     replace F := aF c31 F; try replace F := aF c31p F
     have he : planR s = (q.l, q.s) := by rw [← hg]; exact persGo_stop (by have h := c31; simp at h; by_cases h0 : q.m = 0; exact .inl h0; exact .inr (h (by omega)))
     have hql : q.l.length ≤ 255 := by omega
     refine run_exit ?_; refine hK15 _ _ ?_; refine sq fun K29 hK29 => ?_; refine sr fun _ hJ31 => ?_; refine gs 50 (fun g14_4 => ?_) (fun g14_4 => ?_)
     · (try exact nope g14_4); all_goals have g14_4p := g14_4; try simp [F] at g14_4p
       all_goals
        replace F := aF g14_4 F; (try replace F := aF g14_4p F); (iterate 3 refine no2 (k := ?_)); refine hJ31 _ _ ?_; refine ct ?_; refine sr fun _ hJ33 => ?_; refine hJ33 _ _ ?_; refine sr fun _ hJ35 => ?_; refine hJ35 _ _ ?_; refine run_ret ?_; (try simp only [Then, InBlock, NoGoto]); refine acell (h := ?_)
        obtain ⟨e1, e2⟩ := take_none he (.inr (by simpa using g14_4))
        rw [e1, e2]
        exact ⟨q.k, ⟨hq.1, .inl rfl⟩, gcr (τ := { σ with objs := σ.objs.set id (inC p .shut q.k true) }) (hA := WkL.agg (cut_nil rfl))⟩
     (try exact nope g14_4); all_goals have g14_4p := g14_4; try simp [F] at g14_4p
     all_goals
      replace F := aF g14_4 F; (try replace F := aF g14_4p F); refine go2 (k := ?_); refine ca (c := hR q.l _ _ hql hx) (k := ?_); rintro _ _ ⟨rfl, rfl⟩; (repeat (first | simp [F] | simp (disch := omega) only [wC, if_pos, if_neg])); refine go2 (k := ?_); refine hJ31 _ _ ?_; refine cs (fun c54 => ?_) (fun c54 => ?_)
      · (try exact nope c54); all_goals have c54p := c54; try simp [F] at c54p
        all_goals
         replace F := aF c54 F; (try replace F := aF c54p F); refine sr fun _ hJ37 => ?_; refine hJ37 _ _ ?_; refine sr fun _ hJ39 => ?_; refine hJ39 _ _ ?_; refine run_ret ?_; (try simp only [Then, InBlock, NoGoto]); refine acell (h := ?_)
         obtain ⟨e1, e2⟩ := take_none he (.inl (by simpa using c54))
         rw [e1, e2]
         exact ⟨q.k, ⟨hq.1, .inl rfl⟩, gcr (τ := { σ with objs := σ.objs.set id (inC p .shut q.k true) }) (hA := WkL.agg (cut_nil rfl))⟩
      (try exact nope c54); all_goals have c54p := c54; try simp [F] at c54p
      all_goals
       replace F := aF c54 F; (try replace F := aF c54p F); refine run_skip ?_; refine hK29 _ _ ?_; refine sr fun _ hJ41 => ?_; refine hJ41 _ _ ?_; refine run_ret ?_; (try simp only [Then, InBlock, NoGoto]); refine acell (h := ?_)
       obtain ⟨e1, e2⟩ := take_some he (by simpa using c54) (by intro e; simp [e] at g14_4)
       rw [e1, e2]
       exact ⟨q.k, hq, gcr (τ := { σ with objs := σ.objs.set id (inC p .shut q.k q.s.isNone) }) (hA := WkL.agg take_wk)⟩
   case cx19 =>
    intro K19 hK19
    refine rg' (h := fun J42 hJ42 => ?_); refine gs 25 (fun g8_3 => ?_) (fun g8_3 => ?_)
    · (try exact nope g8_3); all_goals have g8_3p := g8_3; try simp [F] at g8_3p
      all_goals
       replace F := aF g8_3 F; (try replace F := aF g8_3p F); (iterate 5 refine go2 (k := ?_)); refine hJ42 _ _ ?_; refine hK19 (()) _ _ ⟨kp, ?_, lp⟩
       · have h := g8_3
         simp at h
         simp [F]
         try omega
    (try exact nope g8_3); all_goals have g8_3p := g8_3; try simp [F] at g8_3p
    all_goals
     replace F := aF g8_3 F; (try replace F := aF g8_3p F); (iterate 5 refine no2 (k := ?_)); refine hJ42 _ _ ?_; refine hK19 (()) _ _ ⟨kp, ?_, lp⟩
     · have h := g8_3
       simp at h
       simp [F]
       try omega

theorem persGo_all : ∀ (m : Nat) (s : Option (List UInt8)) (l : List Per), (∀ x ∈ l, x.l < 2 ^ 64 ∧ x.c.length ≤ 255) → m + l.length ≤ 255 → (persGo m s l).1.length ≤ 255 ∧ ∀ x ∈ (persGo m s l).1, x.l < 2 ^ 64 ∧ x.c.length ≤ 255
  | 0, s, l, hx, hl => ⟨by simp only [persGo]; omega, hx⟩
  | m + 1, none, l, hx, hl => ⟨by simp only [persGo]; omega, hx⟩
  | m + 1, some p, l, hx, hl => by
    rw [persGo]
    refine persGo_all m _ _ (fun x h => ?_) (by simp; omega)
    rcases List.mem_append.1 h with h | h
    · exact hx x h
    · simp at h; subst h; exact perS_ok _
theorem takeP_ok (s : Option (List UInt8)) : (takeP s).Ok := by
  unfold takeP
  split
  · simp [Pln.Ok]
  · have hm := be_lt1 (takeB_len 1 (s4S s))
    have h := persGo_all (be (takeB 1 (s4S s))) (takeS 1 (s4S s)) [] (by simp) (by simp; omega)
    exact planP_ok h.1 h.2
end Go.Proofs.Ytdbaddholggkbaa

/-
  A message is read of any bytes..
-/
namespace Go.Proofs.Ytdbaddholggkbaa
set_option linter.unnecessarySimpa false
set_option maxRecDepth 100000
open Go Go.Vm
set_option linter.unusedSimpArgs false
set_option linter.unusedVariables false
attribute [local simp] evalL wantedA isCall opA evalA evalAll evalsA evalOpt ofValue ofCell plain binA_eql_pn binA_neq_pn binA_gtr binA_lss binA_geq binA_leq binA_add binA_sub binA_eql binA_neq binA_orI binA_shl binA_shr binA_mul binA_quo binA_rem binA_agg_eql binA_agg_neq convA_int unA_not fieldAddrA loadA partA pickA_true pickA_false pickA_bb lenA builtinA storeA splice AV.cells AV.isCell sliceA boundA intA callOf indexAddrA newObjA buildA fillA zeroA ofCells buildSliceA indexA fieldA numA_len4 numA_take4 numA_drop4 set_appN get_appN take_appN List.getElem?_cons_zero List.getElem?_cons_succ makeA zeros64

def zeroM : Msg := ⟨0, 0, 0, [], 0, 0, 0, ⟨0, by decide⟩, [], [], ⟨0, 0, 0, [], []⟩, 0, 0, false⟩
theorem outsGo_all : ∀ (m : Nat) (s : Option (List UInt8)) (l : List Out), (∀ x ∈ l, x.c.length ≤ 255) → m + l.length ≤ 255 → (outsGo m s l).1.length ≤ 255 ∧ ∀ x ∈ (outsGo m s l).1, x.c.length ≤ 255
  | 0, s, l, hx, hl => ⟨by simp only [outsGo]; omega, hx⟩
  | m + 1, none, l, hx, hl => ⟨by simp only [outsGo]; omega, hx⟩
  | m + 1, some p, l, hx, hl => by
    rw [outsGo]
    refine outsGo_all m _ _ (fun x h => ?_) (by simp; omega)
    rcases List.mem_append.1 h with h | h
    · exact hx x h
    · simp at h; subst h; exact coinsL_le _
theorem msgR_ok (k : UInt8) (s : Option (List UInt8)) : (msgR k s).Ok := by
  have ho := outsGo_all (be (takeB 1 (stC k s))) (takeS 1 (stC k s)) [] (by simp) (by have := be_lt1 (takeB_len 1 (stC k s)); simp; omega)
  have e1 : (outsR (stC k s)).1.length ≤ 255 := ho.1
  refine ⟨?_, ?_, ?_, ?_, fun x hx => ?_, ?_, ?_, ?_⟩
  · simp only [msgR]; cases hB k 1024
    · exact be_lt8 _ (takeB_len 8 _)
    · show (0 : Nat) < _; decide
  · simp only [msgR]; cases hB k 1024
    · have := coinsL_le (takeS 8 (takeS 1 s)); simp only [cond_false]; omega
    · simp
  · simp only [msgR]; cases hB k 16
    · simp
    · have := coinsL_le (stN k s); simp only [cond_true]; omega
  · simp only [msgR]; cases hB k 32
    · simp
    · simp only [cond_true]; omega
  · simp only [msgR] at hx
    cases hq : hB k 32 <;> rw [hq] at hx
    · simp at hx
    · have := ho.2 x hx; omega
  · simp only [msgR]; cases hB k 64
    · simp [Pln.Ok]
    · exact takeP_ok _
  · simp only [msgR]; cases hB k 128
    · show (0 : Nat) < _; decide
    · exact be_lt8 _ (takeB_len 8 _)
  · simp only [msgR]; cases hB k 256
    · show (0 : Nat) < _; decide
    · exact be_lt2 (takeB_len 2 _)

def decB (p : List UInt8) : Bool := hasK (byteS (some p)) && endB (stJ (byteS (some p)) (takeS 1 (some p))) && rightM (msgR (byteS (some p)) (takeS 1 (some p)))
def decM (p : List UInt8) : Msg := bif decB p then msgR (byteS (some p)) (takeS 1 (some p)) else zeroM
theorem zero_wk : WkL [.v (.int .u8 0), .v (.int .u8 0), .v (.int .u64 0), .sl 0 [] 0 .full, .v (.int .u8 0), .v (.int .u8 0), .v (.int .u8 0), .v (.int .u64 0), .v (.int .u64 0), .v (.int .u64 0), .v (.int .u64 0), .sl 0 [] 0 .full, .sl 0 [] 0 .full, .v (.int .u8 0), .v (.int .u64 0), .v (.int .u64 0), .sl 0 [] 0 .full, .sl 0 [] 0 .full, .v (.int .u64 0), .v (.int .u16 0), .v (.bool false)] (msgC zeroM) := by
  have hl : ∀ i, limb 0 i = 0 := by intro i; simp [limb]
  simp only [msgC, zeroM, hl]
  repeat (first | exact WkL.nil | refine WkL.cons (Wk.nil _ _ _) ?_ | refine WkL.cons (Wk.refl _) ?_)

theorem wk21 {X : List AV} {M : Msg} (h : WkL X (msgC M)) (hc : X.all AV.isCell = true) : ∃ a0 a1 a2 a3 a4 a5 a6 a7 a8 a9 a10 a11 a12 a13 a14 a15 a16 a17 a18 a19 a20, X = [a0, a1, a2, a3, a4, a5, a6, a7, a8, a9, a10, a11, a12, a13, a14, a15, a16, a17, a18, a19, a20] ∧ a0.isCell = true ∧ a1.isCell = true ∧ a2.isCell = true ∧ a3.isCell = true ∧ a4.isCell = true ∧ a5.isCell = true ∧ a6.isCell = true ∧ a7.isCell = true ∧ a8.isCell = true ∧ a9.isCell = true ∧ a10.isCell = true ∧ a11.isCell = true ∧ a12.isCell = true ∧ a13.isCell = true ∧ a14.isCell = true ∧ a15.isCell = true ∧ a16.isCell = true ∧ a17.isCell = true ∧ a18.isCell = true ∧ a19.isCell = true ∧ a20.isCell = true := by
  have hl : X.length = 21 := h.get.1
  match X, hl, hc with
  | [a0, a1, a2, a3, a4, a5, a6, a7, a8, a9, a10, a11, a12, a13, a14, a15, a16, a17, a18, a19, a20], _, hc =>
    simp only [List.all_cons, List.all_nil, Bool.and_true, Bool.and_eq_true] at hc
    exact ⟨a0, a1, a2, a3, a4, a5, a6, a7, a8, a9, a10, a11, a12, a13, a14, a15, a16, a17, a18, a19, a20, rfl, hc⟩

set_option maxHeartbeats 1600000 in
attribute [local simp] undefA List.getElem?_cons_zero List.getElem?_cons_succ in
theorem decode_ok {σ : St} {p : List UInt8} {tl : Tail} (hp : p.length ≤ 1000000) :
    CallsA Try.prog 55 [.sl 1 (bytesA p) p.length tl] σ (fun av σ' => av = .tup [.agg (msgC (decM p)), .v (.int .i64 (bif decB p then 0 else 4))] ∧ σ = σ') := by
  refine callsA_gcS ?_ (by simp [AV.under, underL, msgC, persC_under, outsC_under])
  have hmo := msgR_ok (byteS (some p)) (takeS 1 (some p))
  have hM : decM p = bif decB p then msgR (byteS (some p)) (takeS 1 (some p)) else zeroM := rfl
  obtain ⟨A, hA⟩ : ∃ A, A = decM p := ⟨_, rfl⟩
  obtain ⟨D, hD⟩ : ∃ D, D = decB p := ⟨_, rfl⟩
  rw [← hA, ← hD] at hM ⊢
  unfold decB at hD
  have hby : ∀ {τ : St} {id : Nat}, τ.objs[id]? = some (rd (some p)) → CallsA Try.prog 81 [.ptr id 0] τ (fun av σ' => av = .v (.int .u8 ((byteS (some p)).toNat : Nat)) ∧ σ' = { τ with objs := τ.objs.set id (rd (takeS 1 (some p))) }) := fun h => by
    have := byte_ok h
    rw [be_byteS] at this
    exact this
  obtain ⟨K, hK⟩ : ∃ K, K = byteS (some p) := ⟨_, rfl⟩
  obtain ⟨s, hs⟩ : ∃ s, s = takeS 1 (some p) := ⟨_, rfl⟩
  simp only [← hK, ← hs] at hby hD hM hmo
  obtain ⟨M, hMd⟩ : ∃ M, M = msgR K s := ⟨_, rfl⟩
  obtain ⟨J, hJ⟩ : ∃ J, J = stJ K s := ⟨_, rfl⟩
  have hread : CallsA Try.prog 106 [.ptr (σ.objs.length + 1) 0, .ptr (σ.objs.length + 2) 0, .v (.int .i64 (hasN K : Nat))] { σ with objs := σ.objs ++ [[.v (.int .u8 0), .v (.int .u8 0), .v (.int .u64 0), .sl 0 [] 0 .full, .v (.int .u8 0), .v (.int .u8 0), .v (.int .u8 0), .v (.int .u64 0), .v (.int .u64 0), .v (.int .u64 0), .v (.int .u64 0), .sl 0 [] 0 .full, .sl 0 [] 0 .full, .v (.int .u8 0), .v (.int .u64 0), .v (.int .u64 0), .sl 0 [] 0 .full, .sl 0 [] 0 .full, .v (.int .u64 0), .v (.int .u16 0), .v (.bool false)], rd s, [.v (.int .u8 K.toNat), .v (.int .u8 0), .v (.int .u64 0), .sl 0 [] 0 .full, .v (.int .u8 0), .v (.int .u8 0), .v (.int .u8 0), .v (.int .u64 0), .v (.int .u64 0), .v (.int .u64 0), .v (.int .u64 0), .sl 0 [] 0 .full, .sl 0 [] 0 .full, .v (.int .u8 0), .v (.int .u64 0), .v (.int .u64 0), .sl 0 [] 0 .full, .sl 0 [] 0 .full, .v (.int .u64 0), .v (.int .u16 0), .v (.bool false)]] }
      (fun av σ' => av = .tup [] ∧ ∃ X T, WkL X (msgC M) ∧ X.all AV.isCell = true ∧ σ' = { σ with objs := σ.objs ++ [[.v (.int .u8 0), .v (.int .u8 0), .v (.int .u64 0), .sl 0 [] 0 .full, .v (.int .u8 0), .v (.int .u8 0), .v (.int .u8 0), .v (.int .u64 0), .v (.int .u64 0), .v (.int .u64 0), .v (.int .u64 0), .sl 0 [] 0 .full, .sl 0 [] 0 .full, .v (.int .u8 0), .v (.int .u64 0), .v (.int .u64 0), .sl 0 [] 0 .full, .sl 0 [] 0 .full, .v (.int .u64 0), .v (.int .u16 0), .v (.bool false)], rd J, X], toks := σ.toks ++ T }) := by
    have h := read_raw (O := σ.objs ++ [[.v (.int .u8 0), .v (.int .u8 0), .v (.int .u64 0), .sl 0 [] 0 .full, .v (.int .u8 0), .v (.int .u8 0), .v (.int .u8 0), .v (.int .u64 0), .v (.int .u64 0), .v (.int .u64 0), .v (.int .u64 0), .sl 0 [] 0 .full, .sl 0 [] 0 .full, .v (.int .u8 0), .v (.int .u64 0), .v (.int .u64 0), .sl 0 [] 0 .full, .sl 0 [] 0 .full, .v (.int .u64 0), .v (.int .u16 0), .v (.bool false)], rd s, [.v (.int .u8 K.toNat), .v (.int .u8 0), .v (.int .u64 0), .sl 0 [] 0 .full, .v (.int .u8 0), .v (.int .u8 0), .v (.int .u8 0), .v (.int .u64 0), .v (.int .u64 0), .v (.int .u64 0), .v (.int .u64 0), .sl 0 [] 0 .full, .sl 0 [] 0 .full, .v (.int .u8 0), .v (.int .u64 0), .v (.int .u64 0), .sl 0 [] 0 .full, .sl 0 [] 0 .full, .v (.int .u64 0), .v (.int .u16 0), .v (.bool false)]]) (tk := σ.toks) (gl := σ.gl) (rows := σ.rows) (id1 := σ.objs.length + 1) (id2 := σ.objs.length + 2) (x1 := K) (s := s) (by simp) (by simp) (by omega)
    rw [← hMd, ← hJ] at h
    simpa using h
  have hmr : ∀ (X : List AV) (τ : St), WkL X (msgC M) → CallsA Try.prog 51 [.agg X] τ (fun av σ' => av = .v (.bool (rightM M)) ∧ τ = σ') := fun X τ hX => callsA_wk (.cons (WkL.agg hX) .nil) (mright_ok (by rw [hMd]; exact hmo))
  rw [← hMd, ← hJ] at hD
  rw [← hMd] at hM
  have hhas := fun σ => has_ok (σ := σ) (k := K)
  obtain ⟨k0, hk0⟩ : ∃ k, k = hasK K := ⟨_, rfl⟩
  obtain ⟨h, hh⟩ : ∃ h, h = hasN K := ⟨_, rfl⟩
  obtain ⟨R, hR⟩ : ∃ R, R = rightM M := ⟨_, rfl⟩
  obtain ⟨e, he⟩ : ∃ e, e = endB J := ⟨_, rfl⟩
  rw [← hk0, ← he, ← hR] at hD
  simp only [← hh] at hread hhas
  simp only [← hk0] at hhas
  simp only [← hR] at hmr
  have hend : ∀ {τ : St} {id : Nat}, τ.objs[id]? = some (rd J) → CallsA Try.prog 48 [.ptr id 0] τ (fun av σ' => av = .v (.bool e) ∧ τ = σ') := fun h => by rw [he]; exact end_ok h
  clear hMd hJ hK hs hk0 hh hR he hmo hA
  have hd21 : ∀ f : Nat → AV, List.drop 21 (List.map f (List.range 21)) = [] := fun _ => rfl
  have F := And.intro hd21 (True.intro)
  refine callsA_body Try.func55 rfl rfl rfl ?_; refine sr fun _ hJ2 => ?_; refine hJ2 _ _ ?_; refine sr fun _ hJ4 => ?_; refine ca (c := new_ok hp) (k := ?_); rintro _ _ ⟨rfl, rfl⟩; (repeat (first | simp [F] | simp (disch := omega) only [wC, if_pos, if_neg])); refine hJ4 _ _ ?_; refine sr fun _ hJ6 => ?_
  refine ca (c := hby (by simp [F])) (k := ?_)
  rintro _ _ ⟨rfl, rfl⟩; (repeat (first | simp [F] | simp (disch := omega) only [wC, if_pos, if_neg])); refine hJ6 _ _ ?_; refine sr fun _ hJ8 => ?_; refine ca (c := hhas _) (k := ?_); rintro _ _ ⟨rfl, rfl⟩; (repeat (first | simp [F] | simp (disch := omega) only [wC, if_pos, if_neg])); refine hJ8 _ _ ?_; refine sq fun K9 hK9 => ?_; refine sr fun _ hJ11 => ?_; refine hJ11 _ _ ?_; refine cs (t := k0) (fun c19 => ?_) (fun c19 => ?_)
  · (try exact nope c19); all_goals have c19p := c19; try simp [F] at c19p
    all_goals
     replace F := aF c19 F; try replace F := aF c19p F
     have hk1 : k0 = true := c19
     refine rg' (h := fun J12 hJ12 => ?_); refine ca (c := hread) (k := ?_); rintro _ _ ⟨rfl, X, T, hX, hXc, rfl⟩; (repeat (first | simp [F] | simp (disch := omega) only [wC, if_pos, if_neg])); refine hJ12 _ _ ?_; refine hK9 _ _ ?_; refine sq fun K13 hK13 => ?_; refine sq fun K14 hK14 => ?_
     first | (obtain ⟨a0, a1, a2, a3, a4, a5, a6, a7, a8, a9, a10, a11, a12, a13, a14, a15, a16, a17, a18, a19, a20, rfl, -⟩ := wk21 hX hXc; have hXe := List.all_eq_true.1 hXc; simp [AV.isCell] at hXe; replace F := aF hXe F) | skip
     refine rg' (h := fun J15 hJ15 => ?_); refine gs 25 (fun g6_2 => ?_) (fun g6_2 => ?_)
     · (try exact nope g6_2); all_goals have g6_2p := g6_2; try simp [F] at g6_2p
       all_goals
        replace F := aF g6_2 F; (try replace F := aF g6_2p F); (iterate 6 refine no2 (k := ?_)); refine hJ15 _ _ ?_; refine hK14 _ _ ?_; refine ct ?_; refine sr fun _ hJ17 => ?_; refine hJ17 _ _ ?_; refine run_ret ?_; (try simp only [Then, InBlock, NoGoto]); refine acell2 (h := ?_); exact gcr
     (try exact nope g6_2); all_goals have g6_2p := g6_2; try simp [F] at g6_2p
     all_goals
      replace F := aF g6_2 F; (try replace F := aF g6_2p F); refine go2 (k := ?_)
      refine ca (c := hend (by simp [F])) (k := ?_)
      rintro _ _ ⟨rfl, rfl⟩; (repeat (first | simp [F] | simp (disch := omega) only [wC, if_pos, if_neg])); refine go2 (k := ?_); refine gs 30 (fun g6_7 => ?_) (fun g6_7 => ?_)
      · (try exact nope g6_7); all_goals have g6_7p := g6_7; try simp [F] at g6_7p
        all_goals
         replace F := aF g6_7 F; (try replace F := aF g6_7p F); (iterate 3 refine no2 (k := ?_)); refine hJ15 _ _ ?_; refine hK14 _ _ ?_; refine ct ?_; refine sr fun _ hJ19 => ?_; refine hJ19 _ _ ?_; refine run_ret ?_; (try simp only [Then, InBlock, NoGoto]); refine acell2 (h := ?_)
         have hDf : D = false := by (rw [hD]; have h := g6_7; simp at h; simp [h])
         rw [hM, hDf]
         exact gcr (hA := WkL.tup (.cons (WkL.agg zero_wk) (.cons (Wk.refl _) .nil)))
      (try exact nope g6_7); all_goals have g6_7p := g6_7; try simp [F] at g6_7p
      all_goals
       replace F := aF g6_7 F; (try replace F := aF g6_7p F); refine go2 (k := ?_); refine ca (c := hmr _ _ hX) (k := ?_); rintro _ _ ⟨rfl, rfl⟩; (repeat (first | simp [F] | simp (disch := omega) only [wC, if_pos, if_neg])); refine go2 (k := ?_); refine hJ15 _ _ ?_; refine hK14 _ _ ?_; refine cs (t := !R) (fun c34 => ?_) (fun c34 => ?_)
       · (try exact nope c34); all_goals have c34p := c34; try simp [F] at c34p
         all_goals
          replace F := aF c34 F; (try replace F := aF c34p F); refine sr fun _ hJ21 => ?_; refine hJ21 _ _ ?_; refine run_ret ?_; (try simp only [Then, InBlock, NoGoto]); refine acell2 (h := ?_)
          have hDf : D = false := by (rw [hD]; have h := c34; simp at h; simp [h])
          rw [hM, hDf]
          exact gcr (hA := WkL.tup (.cons (WkL.agg zero_wk) (.cons (Wk.refl _) .nil)))
       (try exact nope c34); all_goals have c34p := c34; try simp [F] at c34p
       all_goals
        replace F := aF c34 F; (try replace F := aF c34p F); refine run_skip ?_; refine hK13 _ _ ?_; refine sr fun _ hJ23 => ?_; refine hJ23 _ _ ?_; refine run_ret ?_; (try simp only [Then, InBlock, NoGoto]); refine acell2 (h := ?_)
        have hDt : D = true := by (rw [hD, hk1]; have h1 := g6_7; have h2 := c34; simp at h1 h2; simp [h1, h2])
        rw [hM, hDt]
        exact gcr (hA := WkL.tup (.cons (WkL.agg hX) (.cons (Wk.refl _) .nil)))
  (try exact nope c19); all_goals have c19p := c19; try simp [F] at c19p
  all_goals
   replace F := aF c19 F; try replace F := aF c19p F
   have hk1 : k0 = false := c19
   refine run_skip ?_; refine hK9 _ _ ?_; refine sq fun K24 hK24 => ?_; refine sq fun K25 hK25 => ?_
   first | (obtain ⟨a0, a1, a2, a3, a4, a5, a6, a7, a8, a9, a10, a11, a12, a13, a14, a15, a16, a17, a18, a19, a20, rfl, -⟩ := wk21 hX hXc; have hXe := List.all_eq_true.1 hXc; simp [AV.isCell] at hXe; replace F := aF hXe F) | skip
   refine rg' (h := fun J26 hJ26 => ?_); refine gs 25 (fun g6_2 => ?_) (fun g6_2 => ?_)
   · (try exact nope g6_2); all_goals have g6_2p := g6_2; try simp [F] at g6_2p
     all_goals
      replace F := aF g6_2 F; (try replace F := aF g6_2p F); (iterate 6 refine no2 (k := ?_)); refine hJ26 _ _ ?_; refine hK25 _ _ ?_; refine ct ?_; refine sr fun _ hJ28 => ?_; refine hJ28 _ _ ?_; refine run_ret ?_; (try simp only [Then, InBlock, NoGoto]); refine acell2 (h := ?_)
      have hDf : D = false := by (rw [hD, hk1]; rfl)
      rw [hM, hDf]
      exact gcr (hA := WkL.tup (.cons (WkL.agg zero_wk) (.cons (Wk.refl _) .nil)))
   (try exact nope g6_2); all_goals have g6_2p := g6_2; try simp [F] at g6_2p
   all_goals
    replace F := aF g6_2 F; (try replace F := aF g6_2p F); refine go2 (k := ?_)
    refine ca (c := hend (by simp [F])) (k := ?_)
    rintro _ _ ⟨rfl, rfl⟩; (repeat (first | simp [F] | simp (disch := omega) only [wC, if_pos, if_neg])); refine go2 (k := ?_); refine gs 30 (fun g6_7 => ?_) (fun g6_7 => ?_)
    · (try exact nope g6_7); all_goals have g6_7p := g6_7; try simp [F] at g6_7p
      all_goals
       replace F := aF g6_7 F; (try replace F := aF g6_7p F); (iterate 3 refine no2 (k := ?_)); refine hJ26 _ _ ?_; refine hK25 _ _ ?_; refine ct ?_; refine sr fun _ hJ30 => ?_; refine hJ30 _ _ ?_; refine run_ret ?_; (try simp only [Then, InBlock, NoGoto]); refine acell2 (h := ?_)
       have hDf : D = false := by (rw [hD, hk1]; rfl)
       rw [hM, hDf]
       exact gcr (hA := WkL.tup (.cons (WkL.agg zero_wk) (.cons (Wk.refl _) .nil)))
    (try exact nope g6_7); all_goals have g6_7p := g6_7; try simp [F] at g6_7p
    all_goals
     replace F := aF g6_7 F; (try replace F := aF g6_7p F); refine go2 (k := ?_); refine ca (c := hmr _ _ hX) (k := ?_); rintro _ _ ⟨rfl, rfl⟩; (repeat (first | simp [F] | simp (disch := omega) only [wC, if_pos, if_neg])); refine go2 (k := ?_); refine hJ26 _ _ ?_; refine hK25 _ _ ?_; refine cs (t := !R) (fun c34 => ?_) (fun c34 => ?_)
     · (try exact nope c34); all_goals have c34p := c34; try simp [F] at c34p
       all_goals
        replace F := aF c34 F; (try replace F := aF c34p F); refine sr fun _ hJ32 => ?_; refine hJ32 _ _ ?_; refine run_ret ?_; (try simp only [Then, InBlock, NoGoto]); refine acell2 (h := ?_)
        have hDf : D = false := by (rw [hD, hk1]; rfl)
        rw [hM, hDf]
        exact gcr (hA := WkL.tup (.cons (WkL.agg zero_wk) (.cons (Wk.refl _) .nil)))
     (try exact nope c34); all_goals have c34p := c34; try simp [F] at c34p
     all_goals
      replace F := aF c34 F; (try replace F := aF c34p F); refine run_skip ?_; refine hK24 _ _ ?_; refine sr fun _ hJ34 => ?_; refine hJ34 _ _ ?_; refine run_ret ?_; (try simp only [Then, InBlock, NoGoto]); refine acell2 (h := ?_)
      have hDf : D = false := by (rw [hD, hk1]; rfl)
      rw [hM, hDf]
      exact gcr (hA := WkL.tup (.cons (WkL.agg zero_wk) (.cons (Wk.refl _) .nil)))

def endM (v : UInt8) : Msg := ⟨36, 0, 0, [], 0, v, 0, ⟨0, by decide⟩, [], [], ⟨0, 0, 0, [], []⟩, 0, 0, false⟩
theorem endM_ok (v : UInt8) : (endM v).Ok := ⟨by simp [endM], by simp [endM], by simp [endM], by simp [endM], by simp [endM], by simp [endM, Pln.Ok], by simp [endM], by simp [endM]⟩
theorem end_wk0 : WkL [.v (.int .u8 36), .v (.int .u8 0), .v (.int .u64 0), .sl 0 [] 0 .full, .v (.int .u8 0), .v (.int .u8 0), .v (.int .u8 0), .v (.int .u64 0), .v (.int .u64 0), .v (.int .u64 0), .v (.int .u64 0), .sl 0 [] 0 .full, .sl 0 [] 0 .full, .v (.int .u8 0), .v (.int .u64 0), .v (.int .u64 0), .sl 0 [] 0 .full, .sl 0 [] 0 .full, .v (.int .u64 0), .v (.int .u16 0), .v (.bool false)] (msgC (endM 0)) := by
  have hl : ∀ i, limb 0 i = 0 := by intro i; simp [limb]
  simp only [msgC, endM, hl]
  repeat (first | exact WkL.nil | refine WkL.cons (Wk.nil _ _ _) ?_ | refine WkL.cons (Wk.refl _) ?_)
theorem end_wk1 : WkL [.v (.int .u8 36), .v (.int .u8 0), .v (.int .u64 0), .sl 0 [] 0 .full, .v (.int .u8 0), .v (.int .u8 1), .v (.int .u8 0), .v (.int .u64 0), .v (.int .u64 0), .v (.int .u64 0), .v (.int .u64 0), .sl 0 [] 0 .full, .sl 0 [] 0 .full, .v (.int .u8 0), .v (.int .u64 0), .v (.int .u64 0), .sl 0 [] 0 .full, .sl 0 [] 0 .full, .v (.int .u64 0), .v (.int .u16 0), .v (.bool false)] (msgC (endM 1)) := by
  have hl : ∀ i, limb 0 i = 0 := by intro i; simp [limb]
  simp only [msgC, endM, hl]
  repeat (first | exact WkL.nil | refine WkL.cons (Wk.nil _ _ _) ?_ | refine WkL.cons (Wk.refl _) ?_)
set_option maxHeartbeats 1600000 in
attribute [local simp] undefA List.getElem?_cons_zero List.getElem?_cons_succ in
theorem ends_ok {σ : St} : CallsA Try.prog 49 [] σ (fun av σ' => av = .v (.bool true) ∧ σ = σ') := by
  refine callsA_gcS ?_ rfl
  have c1 : ∀ τ, CallsA Try.prog 54 [.agg [.v (.int .u8 36), .v (.int .u8 0), .v (.int .u64 0), .sl 0 [] 0 .full, .v (.int .u8 0), .v (.int .u8 0), .v (.int .u8 0), .v (.int .u64 0), .v (.int .u64 0), .v (.int .u64 0), .v (.int .u64 0), .sl 0 [] 0 .full, .sl 0 [] 0 .full, .v (.int .u8 0), .v (.int .u64 0), .v (.int .u64 0), .sl 0 [] 0 .full, .sl 0 [] 0 .full, .v (.int .u64 0), .v (.int .u16 0), .v (.bool false)]] τ (fun av σ' => av = .tup [.sl 1 [.v (.int .u8 36)] 1 .shut, .v (.int .i64 0)] ∧ τ = σ') := fun τ => by
    have h := callsA_wk (σ := τ) (.cons (WkL.agg end_wk0) .nil) (encode_ok (endM_ok 0))
    rw [show rightM (endM 0) = true by decide +kernel, show encM (endM 0) = [36] by decide +kernel] at h
    exact h
  have c2 : ∀ τ, CallsA Try.prog 54 [.agg [.v (.int .u8 36), .v (.int .u8 0), .v (.int .u64 0), .sl 0 [] 0 .full, .v (.int .u8 0), .v (.int .u8 1), .v (.int .u8 0), .v (.int .u64 0), .v (.int .u64 0), .v (.int .u64 0), .v (.int .u64 0), .sl 0 [] 0 .full, .sl 0 [] 0 .full, .v (.int .u8 0), .v (.int .u64 0), .v (.int .u64 0), .sl 0 [] 0 .full, .sl 0 [] 0 .full, .v (.int .u64 0), .v (.int .u16 0), .v (.bool false)]] τ (fun av σ' => av = .tup [.sl 1 [] 0 .shut, .v (.int .i64 4)] ∧ τ = σ') := fun τ => by
    have h := callsA_wk (σ := τ) (.cons (WkL.agg end_wk1) .nil) (encode_ok (endM_ok 1))
    rw [show rightM (endM 1) = false by decide +kernel] at h
    exact h
  have c3 : ∀ τ, CallsA Try.prog 55 [.sl 1 [.v (.int .u8 36), .v (.int .u8 0)] 2 .full] τ (fun av σ' => av = .tup [.agg (msgC zeroM), .v (.int .i64 4)] ∧ τ = σ') := fun τ => by
    have h := decode_ok (σ := τ) (p := [36, 0]) (tl := .full) (by decide)
    have hb : decB [36, 0] = false := by decide +kernel
    rw [show decM [36, 0] = zeroM by (unfold decM; rw [hb]; rfl), hb] at h
    exact h
  have hdr2 : ∀ f : Nat → AV, List.drop 2 (List.map f (List.range 2)) = [] := fun _ => rfl
  have hd21 : ∀ f : Nat → AV, List.drop 21 (List.map f (List.range 21)) = [] := fun _ => rfl
  simp only [msgC, zeroM] at c3
  have F := And.intro hdr2 (And.intro hd21 (True.intro))
  refine callsA_body Try.func49 rfl rfl rfl ?_; refine sr fun _ hJ2 => ?_; refine hJ2 _ _ ?_; refine sr fun _ hJ4 => ?_; refine ca (c := c1 _) (k := ?_); rintro _ _ ⟨rfl, rfl⟩; (repeat (first | simp [F] | simp (disch := omega) only [wC, if_pos, if_neg])); refine hJ4 _ _ ?_; refine sr fun _ hJ6 => ?_; refine ca (c := c3 _) (k := ?_); rintro _ _ ⟨rfl, rfl⟩; (repeat (first | simp [F] | simp (disch := omega) only [wC, if_pos, if_neg])); refine hJ6 _ _ ?_; refine sr fun _ hJ8 => ?_; refine ca (c := c2 _) (k := ?_); rintro _ _ ⟨rfl, rfl⟩; (repeat (first | simp [F] | simp (disch := omega) only [wC, if_pos, if_neg])); refine hJ8 _ _ ?_; refine sr fun _ hJ10 => ?_; refine gs 25 (fun g4_3 => ?_) (fun g4_3 => ?_)
  · (try exact nope g4_3); all_goals have g4_3p := g4_3; try simp [F] at g4_3p
    all_goals
     replace F := aF g4_3 F; (try replace F := aF g4_3p F); (iterate 4 refine go2 (k := ?_)); refine gs 31 (fun g4_9 => ?_) (fun g4_9 => ?_)
     · (try exact nope g4_9); all_goals have g4_9p := g4_9; try simp [F] at g4_9p
       all_goals
        replace F := aF g4_9 F; (try replace F := aF g4_9p F); (iterate 2 refine go2 (k := ?_)); refine gs 35 (fun g4_13 => ?_) (fun g4_13 => ?_)
        · (try exact nope g4_13); all_goals have g4_13p := g4_13; try simp [F] at g4_13p
          all_goals
           replace F := aF g4_13 F; (try replace F := aF g4_13p F); (iterate 2 refine go2 (k := ?_)); refine gs 39 (fun g4_17 => ?_) (fun g4_17 => ?_)
           · (try exact nope g4_17); all_goals have g4_17p := g4_17; try simp [F] at g4_17p
             all_goals
              replace F := aF g4_17 F; (try replace F := aF g4_17p F); (iterate 2 refine go2 (k := ?_)); refine hJ10 _ _ ?_; refine ra ?_; exact gcr
           (try exact nope g4_17); all_goals have g4_17p := g4_17; try simp [F] at g4_17p
           all_goals
            replace F := aF g4_17 F; (try replace F := aF g4_17p F); (iterate 2 refine no2 (k := ?_)); refine hJ10 _ _ ?_; refine ra ?_; exact gcr
        (try exact nope g4_13); all_goals have g4_13p := g4_13; try simp [F] at g4_13p
        all_goals
         replace F := aF g4_13 F; (try replace F := aF g4_13p F); (iterate 4 refine no2 (k := ?_)); refine hJ10 _ _ ?_; refine ra ?_; exact gcr
     (try exact nope g4_9); all_goals have g4_9p := g4_9; try simp [F] at g4_9p
     all_goals
      replace F := aF g4_9 F; (try replace F := aF g4_9p F); (iterate 6 refine no2 (k := ?_)); refine hJ10 _ _ ?_; refine ra ?_; exact gcr
  (try exact nope g4_3); all_goals have g4_3p := g4_3; try simp [F] at g4_3p
  all_goals
   replace F := aF g4_3 F; (try replace F := aF g4_3p F); (iterate 10 refine no2 (k := ?_)); refine hJ10 _ _ ?_; refine ra ?_; exact gcr
def msgB (k : UInt8) (bE bT bV bO bN bC bU bP bM bQ bJ : Bool) (s SE ST SV SO SN SC SU SP SM SQ : Option (List UInt8)) : Msg := ⟨k, bif bE then 0 else byteS s, bif bE then 0 else be (takeB 8 (takeS 1 s)), bif bE then [] else coinsL (takeS 8 (takeS 1 s)),
  bif bT then byteS SE else 0, bif bV then byteS ST else 0, bif bO then byteS SV else 0, bif bN then numN SO else ⟨0, by decide⟩,
  bif bC then coinsL SN else [], bif bU then (outsR SC).1 else [], bif bP then takeP SU else ⟨0, 0, 0, [], []⟩,
  bif bM then be (takeB 8 SP) else 0, bif bQ then be (takeB 2 SM) else 0, bJ && (be (takeB 1 SQ) == 1)⟩
theorem msgB_ok (k : UInt8) (bE bT bV bO bN bC bU bP bM bQ bJ : Bool) (s SE ST SV SO SN SC SU SP SM SQ : Option (List UInt8)) : (msgB k bE bT bV bO bN bC bU bP bM bQ bJ s SE ST SV SO SN SC SU SP SM SQ).Ok := by
  have ho := outsGo_all (be (takeB 1 SC)) (takeS 1 SC) [] (by simp) (by have := be_lt1 (takeB_len 1 SC); simp; omega)
  have e1 : (outsR SC).1.length ≤ 255 := ho.1
  refine ⟨?_, ?_, ?_, ?_, fun x hx => ?_, ?_, ?_, ?_⟩
  · cases bE
    · exact be_lt8 _ (takeB_len 8 _)
    · show (0 : Nat) < _; decide
  · cases bE
    · have := coinsL_le (takeS 8 (takeS 1 s)); simp only [msgB, cond_false]; omega
    · simp [msgB]
  · cases bC
    · simp [msgB]
    · have := coinsL_le SN; simp only [msgB, cond_true]; omega
  · cases bU
    · simp [msgB]
    · simp only [msgB, cond_true]; omega
  · cases bU
    · simp [msgB] at hx
    · have := ho.2 x hx; omega
  · cases bP
    · simp [msgB, Pln.Ok]
    · exact takeP_ok _
  · cases bM
    · show (0 : Nat) < _; decide
    · exact be_lt8 _ (takeB_len 8 _)
  · cases bQ
    · show (0 : Nat) < _; decide
    · exact be_lt2 (takeB_len 2 _)
theorem hB_event (k : UInt8) (h : hasK k = true) : hB k 1024 = !decide (k.toNat < 32) := by
  have : ∀ k : UInt8, hasK k = true → hB k 1024 = !decide (k.toNat < 32) := fun k => u8_all (p := fun k => hasK k = true → hB k 1024 = !decide (k.toNat < 32)) (by decide +kernel) k
  exact this k h
theorem right_has {m : Msg} (h : hasK m.k = false) : rightM m = false := by simp [rightM, h]
theorem gcO_grO (n k : Nat) (b : Bool) (L : List Out) (m : Nat) : AV.gcO n (grA k 2 b (outsC L) m) = grA k 2 b (outsC L) m := by
  cases b <;> simp [AV.gcO, noObjL, outsC_noObj]
theorem noObj_grO (n k : Nat) (b : Bool) (L : List Out) (m : Nat) : AV.noObj n (grA k 2 b (outsC L) m) = true := by
  cases b <;> simp [AV.noObj, noObjL, outsC_noObj]

structure RSk where
  m : Nat
  s : Option (List UInt8)
  l : List Out
  k : Nat

set_option maxHeartbeats 1600000 in
attribute [local simp] undefA List.getElem?_cons_zero List.getElem?_cons_succ outsC_noObj persC_noObj plnC noObjL_inC allA_noObj gcO_grO noObj_grO in
set_option maxHeartbeats 1000000 in
theorem rmread_ok {σ : St} {p : List UInt8} (hp : p.length ≤ 1000000) :
    CallsA Try.prog 59 [.sl 1 (bytesA p) p.length .shut] σ (fun av σ' => av = .tup [.agg (msgC (decM p)), .v (.bool (decB p))] ∧ σ = σ') := by
  refine callsA_gcS ?_ (by simp [AV.under, underL, msgC, persC_under, outsC_under])
  have hMd : decM p = bif decB p then msgR (byteS (some p)) (takeS 1 (some p)) else zeroM := rfl
  obtain ⟨A, hA⟩ : ∃ A, A = decM p := ⟨_, rfl⟩
  obtain ⟨D, hD⟩ : ∃ D, D = decB p := ⟨_, rfl⟩
  rw [← hA, ← hD] at hMd ⊢
  unfold decB at hD
  have hby : ∀ {τ : St} {id : Nat}, τ.objs[id]? = some (inC p .shut 0 false) → CallsA Try.prog 84 [.ptr id 0] τ (fun av σ' => av = .v (.int .u8 ((byteS (some p)).toNat : Nat)) ∧ ∃ k', At p k' (takeS 1 (some p)) ∧ σ' = { τ with objs := τ.objs.set id (inC p .shut k' (takeS 1 (some p)).isNone) }) := fun h => by
    have := inByte_ok (s := some p) h hp ⟨Nat.zero_le _, .inr (by simp)⟩
    rw [be_byteS] at this
    exact this
  obtain ⟨x1, hx1⟩ : ∃ K, K = byteS (some p) := ⟨_, rfl⟩
  obtain ⟨s, hs⟩ : ∃ s, s = takeS 1 (some p) := ⟨_, rfl⟩
  simp only [← hx1, ← hs] at hby hD hMd
  clear hx1 hs hA
  have hkn : ∀ n : UInt8, x1 = n ↔ (x1.toNat : Int) = (n.toNat : Int) := fun n => ⟨fun e => by rw [e], fun e => UInt8.toNat_inj.1 (Int.ofNat_inj.1 e)⟩
  obtain ⟨b32, hb32⟩ : ∃ b, b = decide ((x1.toNat : Int) < 32) := ⟨_, rfl⟩
  obtain ⟨bE, hbE⟩ : ∃ b, b = !b32 := ⟨_, rfl⟩
  have hbE2 : b32 = !bE := by rw [hbE]; simp
  obtain ⟨bT, hbT⟩ : ∃ b, b = hB x1 1 := ⟨_, rfl⟩
  obtain ⟨bV, hbV⟩ : ∃ b, b = hB x1 2 := ⟨_, rfl⟩
  obtain ⟨bO, hbO⟩ : ∃ b, b = hB x1 4 := ⟨_, rfl⟩
  obtain ⟨bN, hbN⟩ : ∃ b, b = hB x1 8 := ⟨_, rfl⟩
  obtain ⟨bC, hbC⟩ : ∃ b, b = hB x1 16 := ⟨_, rfl⟩
  obtain ⟨bU, hbU⟩ : ∃ b, b = hB x1 32 := ⟨_, rfl⟩
  obtain ⟨bP, hbP⟩ : ∃ b, b = hB x1 64 := ⟨_, rfl⟩
  obtain ⟨bM, hbM⟩ : ∃ b, b = hB x1 128 := ⟨_, rfl⟩
  obtain ⟨bQ, hbQ⟩ : ∃ b, b = hB x1 256 := ⟨_, rfl⟩
  obtain ⟨bJ, hbJ⟩ : ∃ b, b = hB x1 512 := ⟨_, rfl⟩
  obtain ⟨SE, hSE⟩ : ∃ S, S = bif bE then s else coinsS (takeS 8 (takeS 1 s)) := ⟨_, rfl⟩
  obtain ⟨ST, hST⟩ : ∃ S, S = bif bT then takeS 1 SE else SE := ⟨_, rfl⟩
  obtain ⟨SV, hSV⟩ : ∃ S, S = bif bV then takeS 1 ST else ST := ⟨_, rfl⟩
  obtain ⟨SO, hSO⟩ : ∃ S, S = bif bO then takeS 1 SV else SV := ⟨_, rfl⟩
  obtain ⟨SN, hSN⟩ : ∃ S, S = bif bN then numS SO else SO := ⟨_, rfl⟩
  obtain ⟨SC, hSC⟩ : ∃ S, S = bif bC then coinsS SN else SN := ⟨_, rfl⟩
  obtain ⟨SU, hSU⟩ : ∃ S, S = bif bU then (outsR SC).2 else SC := ⟨_, rfl⟩
  obtain ⟨SP, hSP⟩ : ∃ S, S = bif bP then takeT SU else SU := ⟨_, rfl⟩
  obtain ⟨SM, hSM⟩ : ∃ S, S = bif bM then takeS 8 SP else SP := ⟨_, rfl⟩
  obtain ⟨SQ, hSQ⟩ : ∃ S, S = bif bQ then takeS 2 SM else SM := ⟨_, rfl⟩
  obtain ⟨SJ, hSJ⟩ : ∃ S, S = bif bJ then flagS SQ else SQ := ⟨_, rfl⟩
  obtain ⟨LU, hLU⟩ : ∃ L, L = bif bU then (outsR SC).1 else [] := ⟨_, rfl⟩
  obtain ⟨P, hP⟩ : ∃ P, P = takeP SU := ⟨_, rfl⟩
  have hptk : ∀ {τ : St} {id k : Nat}, τ.objs[id]? = some (inC p .shut k SU.isNone) → At p k SU → CallsA Try.prog 35 [.ptr id 0] τ (fun av σ' => av = .agg (plnC P) ∧ ∃ k', At p k' (takeT SU) ∧ σ' = { τ with objs := τ.objs.set id (inC p .shut k' (takeT SU).isNone) }) := fun h ha => by rw [hP]; exact rtake_ok h hp ha
  obtain ⟨M, hM⟩ : ∃ M, M = msgB x1 bE bT bV bO bN bC bU bP bM bQ bJ s SE ST SV SO SN SC SU SP SM SQ := ⟨_, rfl⟩
  have hMo : M.Ok := by rw [hM]; exact msgB_ok _ _ _ _ _ _ _ _ _ _ _ _ _ _ _ _ _ _ _ _ _ _ _
  have hMk : M.k = x1 := by rw [hM]; rfl
  have hMR : hasK x1 = true → M = msgR x1 s ∧ SJ = stJ x1 s := fun hk => by
    have h0 := hB_event x1 hk
    have h1 : hB x1 1024 = bE := by rw [h0, hbE, hb32]; congr 1; rw [Bool.eq_iff_iff]; simp; omega
    have eE : stE x1 s = SE := by rw [hSE]; simp only [stE, h1]
    have eT : stT x1 s = ST := by rw [hST]; simp only [stT, eE, ← hbT]
    have eV : stV x1 s = SV := by rw [hSV]; simp only [stV, eT, ← hbV]
    have eO : stO x1 s = SO := by rw [hSO]; simp only [stO, eV, ← hbO]
    have eN : stN x1 s = SN := by rw [hSN]; simp only [stN, eO, ← hbN]
    have eC : stC x1 s = SC := by rw [hSC]; simp only [stC, eN, ← hbC]
    have eU : stU x1 s = SU := by rw [hSU]; simp only [stU, eC, ← hbU]
    have eP : stP x1 s = SP := by rw [hSP]; simp only [stP, eU, ← hbP]
    have eM : stM x1 s = SM := by rw [hSM]; simp only [stM, eP, ← hbM]
    have eQ : stQ x1 s = SQ := by rw [hSQ]; simp only [stQ, eM, ← hbQ]
    refine ⟨?_, ?_⟩
    · rw [hM]; simp only [msgB, msgR, eE, eT, eV, eO, eN, eC, eU, eP, eM, eQ, h1, ← hbT, ← hbV, ← hbO, ← hbN, ← hbC, ← hbU, ← hbP, ← hbM, ← hbQ, ← hbJ]
    · rw [hSJ]; simp only [stJ, eQ, ← hbJ]
  obtain ⟨Pk, Ps, Pe, Pt, Pq⟩ := P
  have hW : WkL [.v (.int .u8 x1.toNat), .v (.int .u8 (bif bE then 0 else be (takeB 1 s) : Nat)), .v (.int .u64 (bif bE then 0 else be (takeB 8 (takeS 1 s)) : Nat)), allA (!bE) (coinsL (takeS 8 (takeS 1 s))), .v (.int .u8 (bif bT then be (takeB 1 SE) else 0 : Nat)), .v (.int .u8 (bif bV then be (takeB 1 ST) else 0 : Nat)), .v (.int .u8 (bif bO then be (takeB 1 SV) else 0 : Nat)), .v (.int .u64 (limb (bif bN then numOf (numB SO) else 0 : Nat) 0)), .v (.int .u64 (limb (bif bN then numOf (numB SO) else 0 : Nat) 1)), .v (.int .u64 (limb (bif bN then numOf (numB SO) else 0 : Nat) 2)), .v (.int .u64 (limb (bif bN then numOf (numB SO) else 0 : Nat) 3)), allA bC (coinsL SN), grA σ.toks.length 2 (posB LU.length) (outsC LU) LU.length, .v (.int .u8 (bif bP then Pk else 0 : UInt8).toNat), .v (.int .u64 (bif bP then Ps else 0 : Nat)), .v (.int .u64 (bif bP then Pe else 0 : Nat)), allA bP Pt, perA bP Pq, .v (.int .u64 (bif bM then be (takeB 8 SP) else 0 : Nat)), .v (.int .u16 (bif bQ then be (takeB 2 SM) else 0 : Nat)), .v (.bool (bJ && (be (takeB 1 SQ) == 1)))] (msgC M) := by
    rw [hM]
    simp only [msgC, msgB, ← hLU, ← hP]
    refine .cons (Wk.refl _) (.cons (wk_eq ?_) (.cons (wk_eq ?_) (.cons (wk_all ?_) (.cons (wk_eq ?_) (.cons (wk_eq ?_) (.cons (wk_eq ?_) (.cons (wk_eq ?_) (.cons (wk_eq ?_) (.cons (wk_eq ?_) (.cons (wk_eq ?_) (.cons (wk_all ?_) (.cons (wk_grA onil0) (.cons (wk_eq ?_) (.cons (wk_eq ?_) (.cons (wk_eq ?_) (.cons (wk_all ?_) (.cons (wk_per ?_) (.cons (wk_eq ?_) (.cons (wk_eq ?_) (.cons (wk_eq ?_) .nil))))))))))))))))))))
    all_goals first | rfl | (cases bE <;> simp [be_byteS]; done) | (cases bE <;> rfl) | (cases bT <;> simp [be_byteS]; done) | (cases bV <;> simp [be_byteS]; done) | (cases bO <;> simp [be_byteS]; done) | (cases bN <;> rfl) | (cases bP <;> rfl) | (cases bM <;> rfl) | (cases bQ <;> rfl)
  have hmr : ∀ τ, CallsA Try.prog 52 [.agg [.v (.int .u8 x1.toNat), .v (.int .u8 (bif bE then 0 else be (takeB 1 s) : Nat)), .v (.int .u64 (bif bE then 0 else be (takeB 8 (takeS 1 s)) : Nat)), allA (!bE) (coinsL (takeS 8 (takeS 1 s))), .v (.int .u8 (bif bT then be (takeB 1 SE) else 0 : Nat)), .v (.int .u8 (bif bV then be (takeB 1 ST) else 0 : Nat)), .v (.int .u8 (bif bO then be (takeB 1 SV) else 0 : Nat)), .v (.int .u64 (limb (bif bN then numOf (numB SO) else 0 : Nat) 0)), .v (.int .u64 (limb (bif bN then numOf (numB SO) else 0 : Nat) 1)), .v (.int .u64 (limb (bif bN then numOf (numB SO) else 0 : Nat) 2)), .v (.int .u64 (limb (bif bN then numOf (numB SO) else 0 : Nat) 3)), allA bC (coinsL SN), grA σ.toks.length 2 (posB LU.length) (outsC LU) LU.length, .v (.int .u8 (bif bP then Pk else 0 : UInt8).toNat), .v (.int .u64 (bif bP then Ps else 0 : Nat)), .v (.int .u64 (bif bP then Pe else 0 : Nat)), allA bP Pt, perA bP Pq, .v (.int .u64 (bif bM then be (takeB 8 SP) else 0 : Nat)), .v (.int .u16 (bif bQ then be (takeB 2 SM) else 0 : Nat)), .v (.bool (bJ && (be (takeB 1 SQ) == 1)))]] τ (fun av σ' => av = .v (.bool (rightM M)) ∧ τ = σ') := fun τ => callsA_wk (.cons (WkL.agg hW) .nil) (rmright_ok hMo)
  have hD2 : D = (endB SJ && rightM M) := by
    rw [hD]
    cases hk : hasK x1 with
    | true => rw [(hMR hk).1, (hMR hk).2]; rfl
    | false => rw [right_has (m := M) (by rw [hMk]; exact hk)]; simp
  have hMA : D = true → A = M := fun hd => by
    cases hk : hasK x1 with
    | true => rw [hMd, hd, (hMR hk).1]; rfl
    | false => rw [hD, hk] at hd; simp at hd
  have hMZ : D = false → A = zeroM := fun hd => by rw [hMd, hd]; rfl
  obtain ⟨R, hR⟩ : ∃ R, R = rightM M := ⟨_, rfl⟩
  rw [← hR] at hmr hD2
  clear hR hMR hMo hMk hM hP hD hMd
  have ic1 : ∀ (b : Bool) (l : List Coin), (allA b l).isCell = true := fun b l => by cases b <;> rfl
  have ic3 : ∀ (b : Bool) (l : List Per), (perA b l).isCell = true := fun b l => by cases b <;> rfl
  have ic4 : ∀ (k : Nat) (b : Bool) (cs : List AV) (n : Nat), (grA k 2 b cs n).isCell = true := fun k b cs n => by cases b <;> rfl
  simp only [AV.isCell] at ic1 ic3 ic4
  have hl0 : ∀ i, limb 0 i = 0 := by intro i; simp [limb]
  have hdr : ∀ f : Nat → AV, List.drop 2 (List.map f (List.range 2)) = [] := fun _ => rfl
  have hd21 : ∀ f : Nat → AV, List.drop 21 (List.map f (List.range 21)) = [] := fun _ => rfl
  have hd3 : ∀ f : Nat → AV, List.drop 3 (List.map f (List.range 3)) = [] := fun _ => rfl
  have hnA : ∀ x, numA x = [.v (.int .u64 (limb x 0)), .v (.int .u64 (limb x 1)), .v (.int .u64 (limb x 2)), .v (.int .u64 (limb x 3))] := fun _ => rfl
  have hw16 : ∀ S, IntKind.u16.wrap (be (takeB 2 S) : Nat) = (be (takeB 2 S) : Nat) := fun S => by rw [wrap_u16, Nat.mod_eq_of_lt (be_lt2 (takeB_len 2 S))]
  have hi2 : ∀ k b, (inC p .shut k b)[2]? = some (.v (.bool b)) := fun _ _ => rfl
  have hin0 : [AV.sl 1 (bytesA p) p.length .shut, .v (.int .i64 0), .v (.bool false)] = inC p .shut 0 false := rfl
  obtain ⟨B66, hB66⟩ : ∃ b, b = (decide (x1 = 3) || decide (x1 = 4)) := ⟨_, rfl⟩
  obtain ⟨B86, hB86⟩ : ∃ b, b = (decide (x1 = 6) || decide (x1 = 7) || decide (x1 = 11) || decide (x1 = 35)) := ⟨_, rfl⟩
  obtain ⟨B94, hB94⟩ : ∃ b, b = (decide (x1 = 8) || decide (x1 = 10)) := ⟨_, rfl⟩
  have F := And.intro hl0 (And.intro ic1 (And.intro ic3 (And.intro ic4 (And.intro hdr (And.intro hd21 (And.intro hd3 (And.intro hi2 (And.intro hin0 (And.intro hw16 (True.intro))))))))))
  refine callsA_body Try.func59 rfl rfl rfl ?_; refine sr fun _ hJ2 => ?_; refine hJ2 _ _ ?_; refine sr fun _ hJ4 => ?_; refine hJ4 _ _ ?_; refine sr fun _ hJ6 => ?_; refine hJ6 _ _ ?_; refine sr fun _ hJ8 => ?_
  refine ca (c := hby (by simp [F])) (k := ?_)
  rintro _ _ ⟨rfl, k0, hk0, rfl⟩; (repeat (first | simp [F] | simp (disch := omega) only [wC, if_pos, if_neg])); refine hJ8 _ _ ?_; refine sqc (X := Nat) [2, 3, 4, 5] (fun q1 ρ σ1 => (At p q1 SE) ∧ (σ1 = { σ with objs := σ.objs ++ [[.v (.int .u8 0), .v (.int .u8 0), .v (.int .u64 0), .sl 0 [] 0 .full, .v (.int .u8 0), .v (.int .u8 0), .v (.int .u8 0), .v (.int .u64 0), .v (.int .u64 0), .v (.int .u64 0), .v (.int .u64 0), .sl 0 [] 0 .full, .sl 0 [] 0 .full, .v (.int .u8 0), .v (.int .u64 0), .v (.int .u64 0), .sl 0 [] 0 .full, .sl 0 [] 0 .full, .v (.int .u64 0), .v (.int .u16 0), .v (.bool false)], inC p .shut q1 (SE).isNone, [.v (.int .u8 x1.toNat), .v (.int .u8 (bif bE then 0 else be (takeB 1 s) : Nat)), .v (.int .u64 (bif bE then 0 else be (takeB 8 (takeS 1 s)) : Nat)), allA (!bE) (coinsL (takeS 8 (takeS 1 s))), .v (.int .u8 0), .v (.int .u8 0), .v (.int .u8 0), .v (.int .u64 0), .v (.int .u64 0), .v (.int .u64 0), .v (.int .u64 0), .sl 0 [] 0 .full, .sl 0 [] 0 .full, .v (.int .u8 0), .v (.int .u64 0), .v (.int .u64 0), .sl 0 [] 0 .full, .sl 0 [] 0 .full, .v (.int .u64 0), .v (.int .u16 0), .v (.bool false)]], toks := σ.toks })) ?cy9 ?cx9
  case cy9 =>
   rintro q1 ρCc17 σ1 hFCc17 ⟨hq1, hσ⟩; obtain rfl := hσ.symm
   have fCc17 := keepL hFCc17
   (try simp [KeepL, F] at fCc17); (try replace F := aF fCc17 F); refine sqc (X := Nat) [2, 3, 4, 5] (fun q9 ρ σ1 => (At p q9 SJ) ∧ (σ1 = { σ with objs := σ.objs ++ [[.v (.int .u8 0), .v (.int .u8 0), .v (.int .u64 0), .sl 0 [] 0 .full, .v (.int .u8 0), .v (.int .u8 0), .v (.int .u8 0), .v (.int .u64 0), .v (.int .u64 0), .v (.int .u64 0), .v (.int .u64 0), .sl 0 [] 0 .full, .sl 0 [] 0 .full, .v (.int .u8 0), .v (.int .u64 0), .v (.int .u64 0), .sl 0 [] 0 .full, .sl 0 [] 0 .full, .v (.int .u64 0), .v (.int .u16 0), .v (.bool false)], inC p .shut q9 (SJ).isNone, [.v (.int .u8 x1.toNat), .v (.int .u8 (bif bE then 0 else be (takeB 1 s) : Nat)), .v (.int .u64 (bif bE then 0 else be (takeB 8 (takeS 1 s)) : Nat)), allA (!bE) (coinsL (takeS 8 (takeS 1 s))), .v (.int .u8 (bif bT then be (takeB 1 SE) else 0 : Nat)), .v (.int .u8 (bif bV then be (takeB 1 ST) else 0 : Nat)), .v (.int .u8 (bif bO then be (takeB 1 SV) else 0 : Nat)), .v (.int .u64 (limb (bif bN then numOf (numB SO) else 0 : Nat) 0)), .v (.int .u64 (limb (bif bN then numOf (numB SO) else 0 : Nat) 1)), .v (.int .u64 (limb (bif bN then numOf (numB SO) else 0 : Nat) 2)), .v (.int .u64 (limb (bif bN then numOf (numB SO) else 0 : Nat) 3)), allA bC (coinsL SN), grA σ.toks.length 2 (posB LU.length) (outsC LU) LU.length, .v (.int .u8 (bif bP then Pk else 0 : UInt8).toNat), .v (.int .u64 (bif bP then Ps else 0 : Nat)), .v (.int .u64 (bif bP then Pe else 0 : Nat)), allA bP Pt, perA bP Pq, .v (.int .u64 (bif bM then be (takeB 8 SP) else 0 : Nat)), .v (.int .u16 (bif bQ then be (takeB 2 SM) else 0 : Nat)), .v (.bool (bJ && (be (takeB 1 SQ) == 1)))]], toks := σ.toks ++ grT (posB LU.length) LU.length })) ?cy10 ?cx10
   case cy10 =>
    rintro q9 ρCb0 σ1 hFCb0 ⟨hq9, hσ⟩; obtain rfl := hσ.symm
    have fCb0 := keepL hFCb0
    (try simp [KeepL, F] at fCb0); (try replace F := aF fCb0 F); refine sq fun K11 hK11 => ?_; refine sr fun _ hJ13 => ?_
    refine ca (c := inEnd_ok (s := SJ) (p := p) (tl := .shut) (by simp [F]) hq9) (k := ?_)
    rintro _ _ ⟨rfl, rfl⟩; (repeat (first | simp [F] | simp (disch := omega) only [wC, if_pos, if_neg])); refine gs 139 (fun g50_3 => ?_) (fun g50_3 => ?_)
    · (try exact nope g50_3); all_goals have g50_3p := g50_3; try simp [F] at g50_3p
      all_goals
       replace F := aF g50_3 F; (try replace F := aF g50_3p F); (iterate 3 refine no2 (k := ?_)); refine hJ13 _ _ ?_; refine ct ?_; refine sr fun _ hJ15 => ?_; refine hJ15 _ _ ?_; refine run_ret ?_; (try simp only [Then, InBlock, NoGoto]); refine acell2 (h := ?_)
       have hDf : D = false := by (rw [hD2]; have h := g50_3; simp at h; simp [h])
       rw [hMZ hDf, hDf]
       exact gcr (hA := WkL.tup (.cons (WkL.agg zero_wk) (.cons (Wk.refl _) .nil)))
    (try exact nope g50_3); all_goals have g50_3p := g50_3; try simp [F] at g50_3p
    all_goals
     replace F := aF g50_3 F; (try replace F := aF g50_3p F); refine go2 (k := ?_); refine ca (c := hmr _) (k := ?_); rintro _ _ ⟨rfl, rfl⟩; (repeat (first | simp [F] | simp (disch := omega) only [wC, if_pos, if_neg])); refine go2 (k := ?_); refine hJ13 _ _ ?_; refine cs (t := !R) (fun c143 => ?_) (fun c143 => ?_)
     · (try exact nope c143); all_goals have c143p := c143; try simp [F] at c143p
       all_goals
        replace F := aF c143 F; (try replace F := aF c143p F); refine sr fun _ hJ17 => ?_; refine hJ17 _ _ ?_; refine run_ret ?_; (try simp only [Then, InBlock, NoGoto]); refine acell2 (h := ?_)
        have hDf : D = false := by (rw [hD2]; have h := c143; simp at h; simp [h])
        rw [hMZ hDf, hDf]
        exact gcr (hA := WkL.tup (.cons (WkL.agg zero_wk) (.cons (Wk.refl _) .nil)))
     (try exact nope c143); all_goals have c143p := c143; try simp [F] at c143p
     all_goals
      replace F := aF c143 F; (try replace F := aF c143p F); refine run_skip ?_; refine hK11 _ _ ?_; refine sr fun _ hJ19 => ?_; refine hJ19 _ _ ?_; refine run_ret ?_; (try simp only [Then, InBlock, NoGoto]); refine acell2 (h := ?_)
      have hDt : D = true := by (rw [hD2]; have h1 := g50_3; have h2 := c143; simp at h1 h2; simp [h1, h2])
      rw [hMA hDt, hDt]
      exact gcr (hA := WkL.tup (.cons (WkL.agg hW) (.cons (Wk.refl _) .nil)))
   case cx10 =>
    intro K10 hK10
    refine sr fun _ hJ21 => ?_; refine hJ21 _ _ ?_; refine run_block_k ?_; refine sr fun _ hJ23 => ?_; refine hJ23 _ _ ?_; refine cs (fun c29 => ?_) (fun c29 => ?_)
    · (try exact nope c29); all_goals have c29p := c29; try simp [F] at c29p
      all_goals
       replace F := aF c29 F; try replace F := aF c29p F
       have hk : x1 = 1 := (hkn 1).2 (by simpa using c29)
       have fb : bT = true ∧ bV = false ∧ bO = false ∧ bN = false ∧ bC = true ∧ bU = false ∧ bP = false ∧ bM = false ∧ bQ = false ∧ bJ = false := by (rw [hbT, hbV, hbO, hbN, hbC, hbU, hbP, hbM, hbQ, hbJ]; rw [hk]; decide)
       obtain ⟨fT, fV, fO, fN, fC, fU, fP, fM, fQ, fJ⟩ := fb
       refine sr fun _ hJ25 => ?_
       refine ca (c := inByte_ok (tl := .shut) (by simp [F]) hp hq1) (k := ?_)
       rintro _ _ ⟨rfl, k5, hk5, rfl⟩; (repeat (first | simp [F] | simp (disch := omega) only [wC, if_pos, if_neg])); refine hJ25 _ _ ?_; refine rg' (h := fun J26 hJ26 => ?_)
       refine ca (c := inCoins_ok (by simp [F]) hp hk5) (k := ?_)
       rintro _ _ ⟨rfl, k6, hk6, rfl⟩; (repeat (first | simp [F] | simp (disch := omega) only [wC, if_pos, if_neg])); refine hJ26 _ _ ?_
       first | refine hK10 (k6) _ _ ⟨kp, ?_, ?_⟩ | refine hK10 (y.k) _ _ ⟨kp, ?_, ?_⟩ | refine hK10 (k9) _ _ ⟨kp, ?_, ?_⟩ | refine hK10 (k12) _ _ ⟨kp, ?_, ?_⟩ | refine hK10 (k13) _ _ ⟨kp, ?_, ?_⟩ | refine hK10 (k14) _ _ ⟨kp, ?_, ?_⟩ | refine hK10 (k16) _ _ ⟨kp, ?_, ?_⟩ | refine hK10 (k17) _ _ ⟨kp, ?_, ?_⟩ | refine hK10 (k21) _ _ ⟨kp, ?_, ?_⟩ | refine hK10 (k23) _ _ ⟨kp, ?_, ?_⟩ | refine hK10 (q1) _ _ ⟨kp, ?_, ?_⟩
       · simp only [hST, hSV, hSO, hSN, hSC, hSU, hSP, hSM, hSQ, hSJ, fT, fV, fO, fN, fC, fU, fP, fM, fQ, fJ, cond_true, cond_false]
         exact hk6
       · simp [hST, hSV, hSO, hSN, hSC, hSU, hSP, hSM, hSQ, hSJ, fT, fV, fO, fN, fC, fU, fP, fM, fQ, fJ, hLU, hnA, F]
    (try exact nope c29); all_goals have c29p := c29; try simp [F] at c29p
    all_goals
     replace F := aF c29 F; (try replace F := aF c29p F); refine sr fun _ hJ28 => ?_; refine hJ28 _ _ ?_; refine cs (fun c37 => ?_) (fun c37 => ?_)
     · (try exact nope c37); all_goals have c37p := c37; try simp [F] at c37p
       all_goals
        replace F := aF c37 F; try replace F := aF c37p F
        have hk : x1 = 2 := (hkn 2).2 (by simpa using c37)
        have fb : bT = false ∧ bV = false ∧ bO = false ∧ bN = false ∧ bC = false ∧ bU = true ∧ bP = false ∧ bM = false ∧ bQ = false ∧ bJ = false := by (rw [hbT, hbV, hbO, hbN, hbC, hbU, hbP, hbM, hbQ, hbJ]; rw [hk]; decide)
        obtain ⟨fT, fV, fO, fN, fC, fU, fP, fM, fQ, fJ⟩ := fb
        refine sq fun K29 hK29 => ?_
        have eSC : SC = SE := by (rw [hSC, hSN, hSO, hSV, hST, fC, fN, fO, fV, fT]; rfl)
        obtain ⟨c, hc⟩ : ∃ c, c = be (takeB 1 SE) := ⟨_, rfl⟩
        have hcm := be_lt1 (takeB_len 1 SE)
        rw [← hc] at hcm
        replace F := aF hc.symm F; refine rg' (h := fun J30 hJ30 => ?_)
        refine ca (c := inByte_ok (tl := .shut) (by simp [F]) hp hq1) (k := ?_)
        rintro _ _ ⟨rfl, k7, hk7, rfl⟩; (repeat (first | simp [F] | simp (disch := omega) only [wC, if_pos, if_neg])); refine hJ30 _ _ ?_; refine hK29 _ _ ?_; refine sr fun _ hJ32 => ?_; refine hJ32 _ _ ?_; refine run_block_k ?_; refine run_loopG (X := RSk) [2, 3, 4, 5, 6] (fun y ρ σ1 => (y.m ≤ c) ∧ (y.m + y.l.length ≤ 255) ∧ (outsGo y.m y.s y.l = outsR SC) ∧ (At p y.k y.s) ∧ (ρ 7 = .v (.int .i64 (c - y.m : Nat))) ∧ (σ1 = { σ with objs := σ.objs ++ [[.v (.int .u8 0), .v (.int .u8 0), .v (.int .u64 0), .sl 0 [] 0 .full, .v (.int .u8 0), .v (.int .u8 0), .v (.int .u8 0), .v (.int .u64 0), .v (.int .u64 0), .v (.int .u64 0), .v (.int .u64 0), .sl 0 [] 0 .full, .sl 0 [] 0 .full, .v (.int .u8 0), .v (.int .u64 0), .v (.int .u64 0), .sl 0 [] 0 .full, .sl 0 [] 0 .full, .v (.int .u64 0), .v (.int .u16 0), .v (.bool false)], inC p .shut y.k y.s.isNone, [.v (.int .u8 x1.toNat), .v (.int .u8 (bif bE then 0 else be (takeB 1 s) : Nat)), .v (.int .u64 (bif bE then 0 else be (takeB 8 (takeS 1 s)) : Nat)), allA (!bE) (coinsL (takeS 8 (takeS 1 s))), .v (.int .u8 0), .v (.int .u8 0), .v (.int .u8 0), .v (.int .u64 0), .v (.int .u64 0), .v (.int .u64 0), .v (.int .u64 0), .sl 0 [] 0 .full, grA σ.toks.length 2 (posB y.l.length) (outsC y.l) y.l.length, .v (.int .u8 0), .v (.int .u64 0), .v (.int .u64 0), .sl 0 [] 0 .full, .sl 0 [] 0 .full, .v (.int .u64 0), .v (.int .u16 0), .v (.bool false)]], toks := σ.toks ++ grT (posB y.l.length) y.l.length })) (fun y => y.m) (⟨c, takeS 1 SE, [], k7⟩) ?st1 ?rd1
        case st1 =>
         refine ⟨lp, ?_, ?_, ?_, lp, ?_⟩
         · simp
           omega
         · rw [eSC]
           unfold outsR
           rw [← hc]
         · exact hk7
         · simp [F]
        case rd1 =>
         rintro y ρ1 σ1 hF1 ⟨hmc, hml, hg, hyk, hi, hσ⟩; obtain rfl := hσ.symm
         have f1 := keepL hF1
         (try simp [KeepL, F] at f1); replace F := aF hi F; (try replace F := aF f1 F); refine sq fun K33 hK33 => ?_; refine sqc (X := Unit) [2, 3, 4, 5, 6, 7] (fun z ρ σ1 => (ρ 51 = .v (.bool (decide (0 < y.m) && !y.s.isNone))) ∧ (σ1 = { σ with objs := σ.objs ++ [[.v (.int .u8 0), .v (.int .u8 0), .v (.int .u64 0), .sl 0 [] 0 .full, .v (.int .u8 0), .v (.int .u8 0), .v (.int .u8 0), .v (.int .u64 0), .v (.int .u64 0), .v (.int .u64 0), .v (.int .u64 0), .sl 0 [] 0 .full, .sl 0 [] 0 .full, .v (.int .u8 0), .v (.int .u64 0), .v (.int .u64 0), .sl 0 [] 0 .full, .sl 0 [] 0 .full, .v (.int .u64 0), .v (.int .u16 0), .v (.bool false)], inC p .shut y.k y.s.isNone, [.v (.int .u8 x1.toNat), .v (.int .u8 (bif bE then 0 else be (takeB 1 s) : Nat)), .v (.int .u64 (bif bE then 0 else be (takeB 8 (takeS 1 s)) : Nat)), allA (!bE) (coinsL (takeS 8 (takeS 1 s))), .v (.int .u8 0), .v (.int .u8 0), .v (.int .u8 0), .v (.int .u64 0), .v (.int .u64 0), .v (.int .u64 0), .v (.int .u64 0), .sl 0 [] 0 .full, grA σ.toks.length 2 (posB y.l.length) (outsC y.l) y.l.length, .v (.int .u8 0), .v (.int .u64 0), .v (.int .u64 0), .sl 0 [] 0 .full, .sl 0 [] 0 .full, .v (.int .u64 0), .v (.int .u16 0), .v (.bool false)]], toks := σ.toks ++ grT (posB y.l.length) y.l.length })) ?cy34 ?cx34
         case cy34 =>
          rintro z ρCr15 σ1 hFCr15 ⟨h51, hσ⟩; obtain rfl := hσ.symm
          have fCr15 := keepL hFCr15
          (try simp [KeepL, F] at fCr15); replace F := aF h51 F; (try replace F := aF fCr15 F); refine cs (t := (decide (0 < y.m) && !y.s.isNone)) (fun c51 => ?_) (fun c51 => ?_)
          · (try exact nope c51); all_goals have c51p := c51; try simp [F] at c51p
            all_goals
             replace F := aF c51 F; (try replace F := aF c51p F); refine run_skip ?_; refine hK33 _ _ ?_; refine sq fun K35 hK35 => ?_; refine run_block_k ?_; refine sq fun K36 hK36 => ?_
             obtain ⟨m, S, L, j⟩ := y
             simp only at hmc hml hg hyk hi
             have hmS : 0 < m ∧ ¬ S = none := by have h := c51; simp at h; exact ⟨h.1, by intro e; rw [e] at h; simp at h⟩
             have hnx := outsGo_more (l := L) hmS.1 hmS.2
             have hPo : outsC (L ++ [outS S]) = outsC L ++ [.v (.int .u8 (be (takeB 1 S))), .sl 5 (coinsC (coinsL (takeS 1 S))) (coinsL (takeS 1 S)).length .shut] := by rw [← outsC_append, be_byteS]; rfl
             have hLl : L.length ≤ 254 := by omega
             have happ : ∀ objs, appendA Try.prog 70 (grA σ.toks.length 2 (posB L.length) (outsC L) L.length) (.sl 2 [.v (.int .u8 (be (takeB 1 S))), .sl 5 (coinsC (coinsL (takeS 1 S))) (coinsL (takeS 1 S)).length .shut] 1 .full) ⟨objs, σ.toks ++ grT (posB L.length) L.length, σ.gl, σ.rows⟩ = some (grA σ.toks.length 2 true (outsC L ++ [.v (.int .u8 (be (takeB 1 S))), .sl 5 (coinsC (coinsL (takeS 1 S))) (coinsL (takeS 1 S)).length .shut]) (L.length + 1), ⟨objs, σ.toks ++ grT true (L.length + 1), σ.gl, σ.rows⟩) := fun objs => append_gr elemT_70 ti_122 (by decide) rfl onil0 (.inl rfl) (by simp [roomA]; omega) (by simp [maxLen]; omega)
             replace F := aF hPo.symm F; refine rg' (h := fun J37 hJ37 => ?_); refine hJ37 _ _ ?_; refine hK36 _ _ ?_; refine sr fun _ hJ39 => ?_
             refine ca (c := inByte_ok (tl := .shut) (by simp [F]) hp hyk) (k := ?_)
             rintro _ _ ⟨rfl, ka, hka, rfl⟩; (repeat (first | simp [F] | simp (disch := omega) only [wC, if_pos, if_neg])); refine hJ39 _ _ ?_; refine sr fun _ hJ41 => ?_
             refine ca (c := inCoins_ok (by simp [F]) hp hka) (k := ?_)
             rintro _ _ ⟨rfl, kb, hkb, rfl⟩; (repeat (first | simp [F] | simp (disch := omega) only [wC, if_pos, if_neg])); refine hJ41 _ _ ?_; replace F := aF happ F; refine rg' (h := fun J42 hJ42 => ?_); refine hJ42 _ _ ?_; refine hK35 _ _ ?_; refine rg' (h := fun J43 hJ43 => ?_); refine hJ43 _ _ ?_; refine ⟨gk, (⟨m - 1, outT S, L ++ [outS S], kb⟩), ⟨kpG, ?_, ?_, ?_, ?_, ?_, ?_⟩, ?_⟩
             · simp
               omega
             · simp
               omega
             · rw [← hg]
               exact hnx.symm
             · exact hkb
             · simp [F, AV.gcO]
               omega
             · simp [F, outT, St.trimO]
             · simp
               omega
          (try exact nope c51); all_goals have c51p := c51; try simp [F] at c51p
          all_goals
           replace F := aF c51 F; try replace F := aF c51p F
           have he : outsR SC = (y.l, y.s) := by rw [← hg]; exact outsGo_stop (by have h := c51; simp at h; by_cases h0 : y.m = 0; exact .inl h0; exact .inr (h (by omega)))
           have hLUe : LU = y.l := by rw [hLU, fU, he]; rfl
           have hSJe : SJ = y.s := by (rw [hSJ, hSQ, hSM, hSP, hSU, fJ, fQ, fM, fP, fU, he]; rfl)
           refine run_exit ?_
           first | refine hK10 (k6) _ _ ⟨kp, ?_, ?_⟩ | refine hK10 (y.k) _ _ ⟨kp, ?_, ?_⟩ | refine hK10 (k9) _ _ ⟨kp, ?_, ?_⟩ | refine hK10 (k12) _ _ ⟨kp, ?_, ?_⟩ | refine hK10 (k13) _ _ ⟨kp, ?_, ?_⟩ | refine hK10 (k14) _ _ ⟨kp, ?_, ?_⟩ | refine hK10 (k16) _ _ ⟨kp, ?_, ?_⟩ | refine hK10 (k17) _ _ ⟨kp, ?_, ?_⟩ | refine hK10 (k21) _ _ ⟨kp, ?_, ?_⟩ | refine hK10 (k23) _ _ ⟨kp, ?_, ?_⟩ | refine hK10 (q1) _ _ ⟨kp, ?_, ?_⟩
           · rw [hSJe]
             exact hyk
           · simp [hSJe, hLUe, fT, fV, fO, fN, fC, fU, fP, fM, fQ, fJ, F]
         case cx34 =>
          intro K34 hK34
          refine rg' (h := fun J44 hJ44 => ?_); refine gs 45 (fun g15_3 => ?_) (fun g15_3 => ?_)
          · (try exact nope g15_3); all_goals have g15_3p := g15_3; try simp [F] at g15_3p
            all_goals
             replace F := aF g15_3 F; (try replace F := aF g15_3p F); (iterate 5 refine go2 (k := ?_)); refine hJ44 _ _ ?_; refine hK34 (()) _ _ ⟨kp, ?_, lp⟩
             · have h := g15_3
               simp at h
               simp [F]
               try omega
          (try exact nope g15_3); all_goals have g15_3p := g15_3; try simp [F] at g15_3p
          all_goals
           replace F := aF g15_3 F; (try replace F := aF g15_3p F); (iterate 5 refine no2 (k := ?_)); refine hJ44 _ _ ?_; refine hK34 (()) _ _ ⟨kp, ?_, lp⟩
           · have h := g15_3
             simp at h
             simp [F]
             try omega
     (try exact nope c37); all_goals have c37p := c37; try simp [F] at c37p
     all_goals
      replace F := aF c37 F; (try replace F := aF c37p F); refine sqc (X := Unit) [2, 3, 4, 5, 28] (fun z ρ σ1 => (ρ 66 = .v (.bool B66)) ∧ (σ1 = { σ with objs := σ.objs ++ [[.v (.int .u8 0), .v (.int .u8 0), .v (.int .u64 0), .sl 0 [] 0 .full, .v (.int .u8 0), .v (.int .u8 0), .v (.int .u8 0), .v (.int .u64 0), .v (.int .u64 0), .v (.int .u64 0), .v (.int .u64 0), .sl 0 [] 0 .full, .sl 0 [] 0 .full, .v (.int .u8 0), .v (.int .u64 0), .v (.int .u64 0), .sl 0 [] 0 .full, .sl 0 [] 0 .full, .v (.int .u64 0), .v (.int .u16 0), .v (.bool false)], inC p .shut q1 (SE).isNone, [.v (.int .u8 x1.toNat), .v (.int .u8 (bif bE then 0 else be (takeB 1 s) : Nat)), .v (.int .u64 (bif bE then 0 else be (takeB 8 (takeS 1 s)) : Nat)), allA (!bE) (coinsL (takeS 8 (takeS 1 s))), .v (.int .u8 0), .v (.int .u8 0), .v (.int .u8 0), .v (.int .u64 0), .v (.int .u64 0), .v (.int .u64 0), .v (.int .u64 0), .sl 0 [] 0 .full, .sl 0 [] 0 .full, .v (.int .u8 0), .v (.int .u64 0), .v (.int .u64 0), .sl 0 [] 0 .full, .sl 0 [] 0 .full, .v (.int .u64 0), .v (.int .u16 0), .v (.bool false)]], toks := σ.toks })) ?cy45 ?cx45
      case cy45 =>
       rintro z ρCc66 σ1 hFCc66 ⟨h66, hσ⟩; obtain rfl := hσ.symm
       have fCc66 := keepL hFCc66
       (try simp [KeepL, F] at fCc66); replace F := aF h66 F; (try replace F := aF fCc66 F); refine cs (t := B66) (fun c66 => ?_) (fun c66 => ?_)
       · (try exact nope c66); all_goals have c66p := c66; try simp [F] at c66p
         all_goals
          replace F := aF c66 F; (try replace F := aF c66p F); refine sq fun K46 hK46 => ?_
          have hk : x1 = 3 ∨ x1 = 4 := by rw [hB66] at c66; simpa using c66
          have fb : bT = false ∧ bV = true ∧ bO = false ∧ bN = true ∧ bC = false ∧ bU = false ∧ bP = false ∧ bM = false ∧ bQ = false ∧ bJ = false := by (rw [hbT, hbV, hbO, hbN, hbC, hbU, hbP, hbM, hbQ, hbJ]; rcases hk with e | e <;> (rw [e]; decide))
          obtain ⟨fT, fV, fO, fN, fC, fU, fP, fM, fQ, fJ⟩ := fb
          refine rg' (h := fun J47 hJ47 => ?_)
          refine ca (c := inByte_ok (tl := .shut) (by simp [F]) hp hq1) (k := ?_)
          rintro _ _ ⟨rfl, k8, hk8, rfl⟩; (repeat (first | simp [F] | simp (disch := omega) only [wC, if_pos, if_neg])); refine hJ47 _ _ ?_; refine hK46 _ _ ?_; replace F := aF hnA F; refine rg' (h := fun J48 hJ48 => ?_)
          refine ca (c := inNum_ok (by simp [F]) hp hk8) (k := ?_)
          rintro _ _ ⟨rfl, k9, hk9, rfl⟩; (repeat (first | simp [F] | simp (disch := omega) only [wC, if_pos, if_neg])); refine hJ48 _ _ ?_
          first | refine hK10 (k6) _ _ ⟨kp, ?_, ?_⟩ | refine hK10 (y.k) _ _ ⟨kp, ?_, ?_⟩ | refine hK10 (k9) _ _ ⟨kp, ?_, ?_⟩ | refine hK10 (k12) _ _ ⟨kp, ?_, ?_⟩ | refine hK10 (k13) _ _ ⟨kp, ?_, ?_⟩ | refine hK10 (k14) _ _ ⟨kp, ?_, ?_⟩ | refine hK10 (k16) _ _ ⟨kp, ?_, ?_⟩ | refine hK10 (k17) _ _ ⟨kp, ?_, ?_⟩ | refine hK10 (k21) _ _ ⟨kp, ?_, ?_⟩ | refine hK10 (k23) _ _ ⟨kp, ?_, ?_⟩ | refine hK10 (q1) _ _ ⟨kp, ?_, ?_⟩
          · simp only [hST, hSV, hSO, hSN, hSC, hSU, hSP, hSM, hSQ, hSJ, fT, fV, fO, fN, fC, fU, fP, fM, fQ, fJ, cond_true, cond_false]
            exact hk9
          · simp [hST, hSV, hSO, hSN, hSC, hSU, hSP, hSM, hSQ, hSJ, fT, fV, fO, fN, fC, fU, fP, fM, fQ, fJ, hLU, hnA, F]
       (try exact nope c66); all_goals have c66p := c66; try simp [F] at c66p
       all_goals
        replace F := aF c66 F; (try replace F := aF c66p F); refine sr fun _ hJ50 => ?_; refine hJ50 _ _ ?_; refine cs (fun c75 => ?_) (fun c75 => ?_)
        · (try exact nope c75); all_goals have c75p := c75; try simp [F] at c75p
          all_goals
           replace F := aF c75 F; try replace F := aF c75p F
           have hk : x1 = 5 := (hkn 5).2 (by simpa using c75)
           have fb : bT = false ∧ bV = true ∧ bO = true ∧ bN = true ∧ bC = false ∧ bU = false ∧ bP = false ∧ bM = false ∧ bQ = false ∧ bJ = false := by (rw [hbT, hbV, hbO, hbN, hbC, hbU, hbP, hbM, hbQ, hbJ]; rw [hk]; decide)
           obtain ⟨fT, fV, fO, fN, fC, fU, fP, fM, fQ, fJ⟩ := fb
           refine sr fun _ hJ52 => ?_
           refine ca (c := inByte_ok (tl := .shut) (by simp [F]) hp hq1) (k := ?_)
           rintro _ _ ⟨rfl, k10, hk10, rfl⟩; (repeat (first | simp [F] | simp (disch := omega) only [wC, if_pos, if_neg])); refine hJ52 _ _ ?_; refine sr fun _ hJ54 => ?_
           refine ca (c := inByte_ok (tl := .shut) (by simp [F]) hp hk10) (k := ?_)
           rintro _ _ ⟨rfl, k11, hk11, rfl⟩; (repeat (first | simp [F] | simp (disch := omega) only [wC, if_pos, if_neg])); refine hJ54 _ _ ?_; replace F := aF hnA F; refine rg' (h := fun J55 hJ55 => ?_)
           refine ca (c := inNum_ok (by simp [F]) hp hk11) (k := ?_)
           rintro _ _ ⟨rfl, k12, hk12, rfl⟩; (repeat (first | simp [F] | simp (disch := omega) only [wC, if_pos, if_neg])); refine hJ55 _ _ ?_
           first | refine hK10 (k6) _ _ ⟨kp, ?_, ?_⟩ | refine hK10 (y.k) _ _ ⟨kp, ?_, ?_⟩ | refine hK10 (k9) _ _ ⟨kp, ?_, ?_⟩ | refine hK10 (k12) _ _ ⟨kp, ?_, ?_⟩ | refine hK10 (k13) _ _ ⟨kp, ?_, ?_⟩ | refine hK10 (k14) _ _ ⟨kp, ?_, ?_⟩ | refine hK10 (k16) _ _ ⟨kp, ?_, ?_⟩ | refine hK10 (k17) _ _ ⟨kp, ?_, ?_⟩ | refine hK10 (k21) _ _ ⟨kp, ?_, ?_⟩ | refine hK10 (k23) _ _ ⟨kp, ?_, ?_⟩ | refine hK10 (q1) _ _ ⟨kp, ?_, ?_⟩
           · simp only [hST, hSV, hSO, hSN, hSC, hSU, hSP, hSM, hSQ, hSJ, fT, fV, fO, fN, fC, fU, fP, fM, fQ, fJ, cond_true, cond_false]
             exact hk12
           · simp [hST, hSV, hSO, hSN, hSC, hSU, hSP, hSM, hSQ, hSJ, fT, fV, fO, fN, fC, fU, fP, fM, fQ, fJ, hLU, hnA, F]
        (try exact nope c75); all_goals have c75p := c75; try simp [F] at c75p
        all_goals
         replace F := aF c75 F; (try replace F := aF c75p F); refine sqc (X := Unit) [2, 3, 4, 5, 28] (fun z ρ σ1 => (ρ 86 = .v (.bool B86)) ∧ (σ1 = { σ with objs := σ.objs ++ [[.v (.int .u8 0), .v (.int .u8 0), .v (.int .u64 0), .sl 0 [] 0 .full, .v (.int .u8 0), .v (.int .u8 0), .v (.int .u8 0), .v (.int .u64 0), .v (.int .u64 0), .v (.int .u64 0), .v (.int .u64 0), .sl 0 [] 0 .full, .sl 0 [] 0 .full, .v (.int .u8 0), .v (.int .u64 0), .v (.int .u64 0), .sl 0 [] 0 .full, .sl 0 [] 0 .full, .v (.int .u64 0), .v (.int .u16 0), .v (.bool false)], inC p .shut q1 (SE).isNone, [.v (.int .u8 x1.toNat), .v (.int .u8 (bif bE then 0 else be (takeB 1 s) : Nat)), .v (.int .u64 (bif bE then 0 else be (takeB 8 (takeS 1 s)) : Nat)), allA (!bE) (coinsL (takeS 8 (takeS 1 s))), .v (.int .u8 0), .v (.int .u8 0), .v (.int .u8 0), .v (.int .u64 0), .v (.int .u64 0), .v (.int .u64 0), .v (.int .u64 0), .sl 0 [] 0 .full, .sl 0 [] 0 .full, .v (.int .u8 0), .v (.int .u64 0), .v (.int .u64 0), .sl 0 [] 0 .full, .sl 0 [] 0 .full, .v (.int .u64 0), .v (.int .u16 0), .v (.bool false)]], toks := σ.toks })) ?cy56 ?cx56
         case cy56 =>
          rintro z ρCc86 σ1 hFCc86 ⟨h86, hσ⟩; obtain rfl := hσ.symm
          have fCc86 := keepL hFCc86
          (try simp [KeepL, F] at fCc86); replace F := aF h86 F; (try replace F := aF fCc86 F); refine cs (t := B86) (fun c86 => ?_) (fun c86 => ?_)
          · (try exact nope c86); all_goals have c86p := c86; try simp [F] at c86p
            all_goals
             replace F := aF c86 F; try replace F := aF c86p F
             have hk : ((x1 = 6 ∨ x1 = 7) ∨ x1 = 11) ∨ x1 = 35 := by rw [hB86] at c86; simpa using c86
             have fb : bT = false ∧ bV = true ∧ bO = false ∧ bN = false ∧ bC = false ∧ bU = false ∧ bP = false ∧ bM = false ∧ bQ = false ∧ bJ = false := by (rw [hbT, hbV, hbO, hbN, hbC, hbU, hbP, hbM, hbQ, hbJ]; rcases hk with ((e | e) | e) | e <;> (rw [e]; decide))
             obtain ⟨fT, fV, fO, fN, fC, fU, fP, fM, fQ, fJ⟩ := fb
             refine rg' (h := fun J57 hJ57 => ?_)
             refine ca (c := inByte_ok (tl := .shut) (by simp [F]) hp hq1) (k := ?_)
             rintro _ _ ⟨rfl, k13, hk13, rfl⟩; (repeat (first | simp [F] | simp (disch := omega) only [wC, if_pos, if_neg])); refine hJ57 _ _ ?_
             first | refine hK10 (k6) _ _ ⟨kp, ?_, ?_⟩ | refine hK10 (y.k) _ _ ⟨kp, ?_, ?_⟩ | refine hK10 (k9) _ _ ⟨kp, ?_, ?_⟩ | refine hK10 (k12) _ _ ⟨kp, ?_, ?_⟩ | refine hK10 (k13) _ _ ⟨kp, ?_, ?_⟩ | refine hK10 (k14) _ _ ⟨kp, ?_, ?_⟩ | refine hK10 (k16) _ _ ⟨kp, ?_, ?_⟩ | refine hK10 (k17) _ _ ⟨kp, ?_, ?_⟩ | refine hK10 (k21) _ _ ⟨kp, ?_, ?_⟩ | refine hK10 (k23) _ _ ⟨kp, ?_, ?_⟩ | refine hK10 (q1) _ _ ⟨kp, ?_, ?_⟩
             · simp only [hST, hSV, hSO, hSN, hSC, hSU, hSP, hSM, hSQ, hSJ, fT, fV, fO, fN, fC, fU, fP, fM, fQ, fJ, cond_true, cond_false]
               exact hk13
             · simp [hST, hSV, hSO, hSN, hSC, hSU, hSP, hSM, hSQ, hSJ, fT, fV, fO, fN, fC, fU, fP, fM, fQ, fJ, hLU, hnA, F]
          (try exact nope c86); all_goals have c86p := c86; try simp [F] at c86p
          all_goals
           replace F := aF c86 F; (try replace F := aF c86p F); refine sqc (X := Unit) [2, 3, 4, 5, 28] (fun z ρ σ1 => (ρ 94 = .v (.bool B94)) ∧ (σ1 = { σ with objs := σ.objs ++ [[.v (.int .u8 0), .v (.int .u8 0), .v (.int .u64 0), .sl 0 [] 0 .full, .v (.int .u8 0), .v (.int .u8 0), .v (.int .u8 0), .v (.int .u64 0), .v (.int .u64 0), .v (.int .u64 0), .v (.int .u64 0), .sl 0 [] 0 .full, .sl 0 [] 0 .full, .v (.int .u8 0), .v (.int .u64 0), .v (.int .u64 0), .sl 0 [] 0 .full, .sl 0 [] 0 .full, .v (.int .u64 0), .v (.int .u16 0), .v (.bool false)], inC p .shut q1 (SE).isNone, [.v (.int .u8 x1.toNat), .v (.int .u8 (bif bE then 0 else be (takeB 1 s) : Nat)), .v (.int .u64 (bif bE then 0 else be (takeB 8 (takeS 1 s)) : Nat)), allA (!bE) (coinsL (takeS 8 (takeS 1 s))), .v (.int .u8 0), .v (.int .u8 0), .v (.int .u8 0), .v (.int .u64 0), .v (.int .u64 0), .v (.int .u64 0), .v (.int .u64 0), .sl 0 [] 0 .full, .sl 0 [] 0 .full, .v (.int .u8 0), .v (.int .u64 0), .v (.int .u64 0), .sl 0 [] 0 .full, .sl 0 [] 0 .full, .v (.int .u64 0), .v (.int .u16 0), .v (.bool false)]], toks := σ.toks })) ?cy58 ?cx58
           case cy58 =>
            rintro z ρCc94 σ1 hFCc94 ⟨h94, hσ⟩; obtain rfl := hσ.symm
            have fCc94 := keepL hFCc94
            (try simp [KeepL, F] at fCc94); replace F := aF h94 F; (try replace F := aF fCc94 F); refine cs (t := B94) (fun c94 => ?_) (fun c94 => ?_)
            · (try exact nope c94); all_goals have c94p := c94; try simp [F] at c94p
              all_goals
               replace F := aF c94 F; try replace F := aF c94p F
               have hk : x1 = 8 ∨ x1 = 10 := by rw [hB94] at c94; simpa using c94
               have fb : bT = true ∧ bV = false ∧ bO = false ∧ bN = false ∧ bC = false ∧ bU = false ∧ bP = false ∧ bM = false ∧ bQ = false ∧ bJ = false := by (rw [hbT, hbV, hbO, hbN, hbC, hbU, hbP, hbM, hbQ, hbJ]; rcases hk with e | e <;> (rw [e]; decide))
               obtain ⟨fT, fV, fO, fN, fC, fU, fP, fM, fQ, fJ⟩ := fb
               refine rg' (h := fun J59 hJ59 => ?_)
               refine ca (c := inByte_ok (tl := .shut) (by simp [F]) hp hq1) (k := ?_)
               rintro _ _ ⟨rfl, k14, hk14, rfl⟩; (repeat (first | simp [F] | simp (disch := omega) only [wC, if_pos, if_neg])); refine hJ59 _ _ ?_
               first | refine hK10 (k6) _ _ ⟨kp, ?_, ?_⟩ | refine hK10 (y.k) _ _ ⟨kp, ?_, ?_⟩ | refine hK10 (k9) _ _ ⟨kp, ?_, ?_⟩ | refine hK10 (k12) _ _ ⟨kp, ?_, ?_⟩ | refine hK10 (k13) _ _ ⟨kp, ?_, ?_⟩ | refine hK10 (k14) _ _ ⟨kp, ?_, ?_⟩ | refine hK10 (k16) _ _ ⟨kp, ?_, ?_⟩ | refine hK10 (k17) _ _ ⟨kp, ?_, ?_⟩ | refine hK10 (k21) _ _ ⟨kp, ?_, ?_⟩ | refine hK10 (k23) _ _ ⟨kp, ?_, ?_⟩ | refine hK10 (q1) _ _ ⟨kp, ?_, ?_⟩
               · simp only [hST, hSV, hSO, hSN, hSC, hSU, hSP, hSM, hSQ, hSJ, fT, fV, fO, fN, fC, fU, fP, fM, fQ, fJ, cond_true, cond_false]
                 exact hk14
               · simp [hST, hSV, hSO, hSN, hSC, hSU, hSP, hSM, hSQ, hSJ, fT, fV, fO, fN, fC, fU, fP, fM, fQ, fJ, hLU, hnA, F]
            (try exact nope c94); all_goals have c94p := c94; try simp [F] at c94p
            all_goals
             replace F := aF c94 F; (try replace F := aF c94p F); refine sr fun _ hJ61 => ?_; refine hJ61 _ _ ?_; refine cs (fun c100 => ?_) (fun c100 => ?_)
             · (try exact nope c100); all_goals have c100p := c100; try simp [F] at c100p
               all_goals
                replace F := aF c100 F; try replace F := aF c100p F
                have hk : x1 = 9 := (hkn 9).2 (by simpa using c100)
                have fb : bT = true ∧ bV = false ∧ bO = false ∧ bN = false ∧ bC = false ∧ bU = false ∧ bP = true ∧ bM = false ∧ bQ = false ∧ bJ = false := by (rw [hbT, hbV, hbO, hbN, hbC, hbU, hbP, hbM, hbQ, hbJ]; rw [hk]; decide)
                obtain ⟨fT, fV, fO, fN, fC, fU, fP, fM, fQ, fJ⟩ := fb
                refine sr fun _ hJ63 => ?_
                refine ca (c := inByte_ok (tl := .shut) (by simp [F]) hp hq1) (k := ?_)
                rintro _ _ ⟨rfl, k15, hk15, rfl⟩; (repeat (first | simp [F] | simp (disch := omega) only [wC, if_pos, if_neg])); refine hJ63 _ _ ?_
                have e9 : takeS 1 SE = SU := by (rw [hSU, hSC, hSN, hSO, hSV, hST, fU, fC, fN, fO, fV, fT]; rfl)
                rw [e9] at hk15
                replace F := aF e9 F; refine rg' (h := fun J64 hJ64 => ?_)
                refine ca (c := hptk (by simp [F]) hk15) (k := ?_)
                rintro _ _ ⟨rfl, k16, hk16, rfl⟩; (repeat (first | simp [F] | simp (disch := omega) only [wC, if_pos, if_neg])); refine hJ64 _ _ ?_
                first | refine hK10 (k6) _ _ ⟨kp, ?_, ?_⟩ | refine hK10 (y.k) _ _ ⟨kp, ?_, ?_⟩ | refine hK10 (k9) _ _ ⟨kp, ?_, ?_⟩ | refine hK10 (k12) _ _ ⟨kp, ?_, ?_⟩ | refine hK10 (k13) _ _ ⟨kp, ?_, ?_⟩ | refine hK10 (k14) _ _ ⟨kp, ?_, ?_⟩ | refine hK10 (k16) _ _ ⟨kp, ?_, ?_⟩ | refine hK10 (k17) _ _ ⟨kp, ?_, ?_⟩ | refine hK10 (k21) _ _ ⟨kp, ?_, ?_⟩ | refine hK10 (k23) _ _ ⟨kp, ?_, ?_⟩ | refine hK10 (q1) _ _ ⟨kp, ?_, ?_⟩
                · have e : SJ = takeT SU := by (rw [hSJ, hSQ, hSM, hSP, fJ, fQ, fM, fP]; rfl)
                  rw [e]
                  exact hk16
                · have e : SJ = takeT SU := by (rw [hSJ, hSQ, hSM, hSP, fJ, fQ, fM, fP]; rfl)
                  have eL : LU = [] := by (rw [hLU, fU]; rfl)
                  simp [e, eL, fT, fV, fO, fN, fC, fU, fP, fM, fQ, fJ, F]
             (try exact nope c100); all_goals have c100p := c100; try simp [F] at c100p
             all_goals
              replace F := aF c100 F; (try replace F := aF c100p F); refine sr fun _ hJ66 => ?_; refine hJ66 _ _ ?_; refine cs (fun c108 => ?_) (fun c108 => ?_)
              · (try exact nope c108); all_goals have c108p := c108; try simp [F] at c108p
                all_goals
                 replace F := aF c108 F; try replace F := aF c108p F
                 have hk : x1 = 32 := (hkn 32).2 (by simpa using c108)
                 have fb : bT = false ∧ bV = false ∧ bO = false ∧ bN = false ∧ bC = false ∧ bU = false ∧ bP = false ∧ bM = true ∧ bQ = false ∧ bJ = false := by (rw [hbT, hbV, hbO, hbN, hbC, hbU, hbP, hbM, hbQ, hbJ]; rw [hk]; decide)
                 obtain ⟨fT, fV, fO, fN, fC, fU, fP, fM, fQ, fJ⟩ := fb
                 refine rg' (h := fun J67 hJ67 => ?_)
                 refine ca (c := inLong_ok (n := 8) (tl := .shut) (by simp [F]) hp hq1 (by omega)) (k := ?_)
                 rintro _ _ ⟨rfl, k17, hk17, rfl⟩; (repeat (first | simp [F] | simp (disch := omega) only [wC, if_pos, if_neg])); refine hJ67 _ _ ?_
                 first | refine hK10 (k6) _ _ ⟨kp, ?_, ?_⟩ | refine hK10 (y.k) _ _ ⟨kp, ?_, ?_⟩ | refine hK10 (k9) _ _ ⟨kp, ?_, ?_⟩ | refine hK10 (k12) _ _ ⟨kp, ?_, ?_⟩ | refine hK10 (k13) _ _ ⟨kp, ?_, ?_⟩ | refine hK10 (k14) _ _ ⟨kp, ?_, ?_⟩ | refine hK10 (k16) _ _ ⟨kp, ?_, ?_⟩ | refine hK10 (k17) _ _ ⟨kp, ?_, ?_⟩ | refine hK10 (k21) _ _ ⟨kp, ?_, ?_⟩ | refine hK10 (k23) _ _ ⟨kp, ?_, ?_⟩ | refine hK10 (q1) _ _ ⟨kp, ?_, ?_⟩
                 · simp only [hST, hSV, hSO, hSN, hSC, hSU, hSP, hSM, hSQ, hSJ, fT, fV, fO, fN, fC, fU, fP, fM, fQ, fJ, cond_true, cond_false]
                   exact hk17
                 · simp [hST, hSV, hSO, hSN, hSC, hSU, hSP, hSM, hSQ, hSJ, fT, fV, fO, fN, fC, fU, fP, fM, fQ, fJ, hLU, hnA, F]
              (try exact nope c108); all_goals have c108p := c108; try simp [F] at c108p
              all_goals
               replace F := aF c108 F; (try replace F := aF c108p F); refine sr fun _ hJ69 => ?_; refine hJ69 _ _ ?_; refine cs (fun c113 => ?_) (fun c113 => ?_)
               · (try exact nope c113); all_goals have c113p := c113; try simp [F] at c113p
                 all_goals
                  replace F := aF c113 F; try replace F := aF c113p F
                  have hk : x1 = 33 := (hkn 33).2 (by simpa using c113)
                  have fb : bT = false ∧ bV = true ∧ bO = false ∧ bN = false ∧ bC = false ∧ bU = false ∧ bP = false ∧ bM = true ∧ bQ = true ∧ bJ = true := by (rw [hbT, hbV, hbO, hbN, hbC, hbU, hbP, hbM, hbQ, hbJ]; rw [hk]; decide)
                  obtain ⟨fT, fV, fO, fN, fC, fU, fP, fM, fQ, fJ⟩ := fb
                  refine sr fun _ hJ71 => ?_
                  refine ca (c := inByte_ok (tl := .shut) (by simp [F]) hp hq1) (k := ?_)
                  rintro _ _ ⟨rfl, k18, hk18, rfl⟩; (repeat (first | simp [F] | simp (disch := omega) only [wC, if_pos, if_neg])); refine hJ71 _ _ ?_; refine sr fun _ hJ73 => ?_
                  refine ca (c := inLong_ok (n := 8) (tl := .shut) (by simp [F]) hp hk18 (by omega)) (k := ?_)
                  rintro _ _ ⟨rfl, k19, hk19, rfl⟩; (repeat (first | simp [F] | simp (disch := omega) only [wC, if_pos, if_neg])); refine hJ73 _ _ ?_; refine sr fun _ hJ75 => ?_
                  refine ca (c := inLong_ok (n := 2) (tl := .shut) (by simp [F]) hp hk19 (by omega)) (k := ?_)
                  rintro _ _ ⟨rfl, k20, hk20, rfl⟩; (repeat (first | simp [F] | simp (disch := omega) only [wC, if_pos, if_neg])); refine hJ75 _ _ ?_; refine rg' (h := fun J76 hJ76 => ?_)
                  refine ca (c := inFlag_ok (tl := .shut) (by simp [F]) hp hk20) (k := ?_)
                  rintro _ _ ⟨rfl, k21, hk21, rfl⟩; (repeat (first | simp [F] | simp (disch := omega) only [wC, if_pos, if_neg])); refine hJ76 _ _ ?_
                  first | refine hK10 (k6) _ _ ⟨kp, ?_, ?_⟩ | refine hK10 (y.k) _ _ ⟨kp, ?_, ?_⟩ | refine hK10 (k9) _ _ ⟨kp, ?_, ?_⟩ | refine hK10 (k12) _ _ ⟨kp, ?_, ?_⟩ | refine hK10 (k13) _ _ ⟨kp, ?_, ?_⟩ | refine hK10 (k14) _ _ ⟨kp, ?_, ?_⟩ | refine hK10 (k16) _ _ ⟨kp, ?_, ?_⟩ | refine hK10 (k17) _ _ ⟨kp, ?_, ?_⟩ | refine hK10 (k21) _ _ ⟨kp, ?_, ?_⟩ | refine hK10 (k23) _ _ ⟨kp, ?_, ?_⟩ | refine hK10 (q1) _ _ ⟨kp, ?_, ?_⟩
                  · simp only [hST, hSV, hSO, hSN, hSC, hSU, hSP, hSM, hSQ, hSJ, fT, fV, fO, fN, fC, fU, fP, fM, fQ, fJ, cond_true, cond_false]
                    exact hk21
                  · simp [hST, hSV, hSO, hSN, hSC, hSU, hSP, hSM, hSQ, hSJ, fT, fV, fO, fN, fC, fU, fP, fM, fQ, fJ, hLU, hnA, F]
               (try exact nope c113); all_goals have c113p := c113; try simp [F] at c113p
               all_goals
                replace F := aF c113 F; (try replace F := aF c113p F); refine sr fun _ hJ78 => ?_; refine hJ78 _ _ ?_; refine cs (fun c128 => ?_) (fun c128 => ?_)
                · (try exact nope c128); all_goals have c128p := c128; try simp [F] at c128p
                  all_goals
                   replace F := aF c128 F; try replace F := aF c128p F
                   have hk : x1 = 34 := (hkn 34).2 (by simpa using c128)
                   have fb : bT = false ∧ bV = true ∧ bO = false ∧ bN = false ∧ bC = true ∧ bU = false ∧ bP = false ∧ bM = false ∧ bQ = false ∧ bJ = false := by (rw [hbT, hbV, hbO, hbN, hbC, hbU, hbP, hbM, hbQ, hbJ]; rw [hk]; decide)
                   obtain ⟨fT, fV, fO, fN, fC, fU, fP, fM, fQ, fJ⟩ := fb
                   refine sr fun _ hJ80 => ?_
                   refine ca (c := inByte_ok (tl := .shut) (by simp [F]) hp hq1) (k := ?_)
                   rintro _ _ ⟨rfl, k22, hk22, rfl⟩; (repeat (first | simp [F] | simp (disch := omega) only [wC, if_pos, if_neg])); refine hJ80 _ _ ?_; refine rg' (h := fun J81 hJ81 => ?_)
                   refine ca (c := inCoins_ok (by simp [F]) hp hk22) (k := ?_)
                   rintro _ _ ⟨rfl, k23, hk23, rfl⟩; (repeat (first | simp [F] | simp (disch := omega) only [wC, if_pos, if_neg])); refine hJ81 _ _ ?_
                   first | refine hK10 (k6) _ _ ⟨kp, ?_, ?_⟩ | refine hK10 (y.k) _ _ ⟨kp, ?_, ?_⟩ | refine hK10 (k9) _ _ ⟨kp, ?_, ?_⟩ | refine hK10 (k12) _ _ ⟨kp, ?_, ?_⟩ | refine hK10 (k13) _ _ ⟨kp, ?_, ?_⟩ | refine hK10 (k14) _ _ ⟨kp, ?_, ?_⟩ | refine hK10 (k16) _ _ ⟨kp, ?_, ?_⟩ | refine hK10 (k17) _ _ ⟨kp, ?_, ?_⟩ | refine hK10 (k21) _ _ ⟨kp, ?_, ?_⟩ | refine hK10 (k23) _ _ ⟨kp, ?_, ?_⟩ | refine hK10 (q1) _ _ ⟨kp, ?_, ?_⟩
                   · simp only [hST, hSV, hSO, hSN, hSC, hSU, hSP, hSM, hSQ, hSJ, fT, fV, fO, fN, fC, fU, fP, fM, fQ, fJ, cond_true, cond_false]
                     exact hk23
                   · simp [hST, hSV, hSO, hSN, hSC, hSU, hSP, hSM, hSQ, hSJ, fT, fV, fO, fN, fC, fU, fP, fM, fQ, fJ, hLU, hnA, F]
                (try exact nope c128); all_goals have c128p := c128; try simp [F] at c128p
                all_goals
                 replace F := aF c128 F; try replace F := aF c128p F
                 have fb : bT = false ∧ bV = false ∧ bO = false ∧ bN = false ∧ bC = false ∧ bU = false ∧ bP = false ∧ bM = false ∧ bQ = false ∧ bJ = false := by
                   have hv : hasN x1 = 0 ∨ hasN x1 = 1024 := by
                     rw [hB66] at c66; rw [hB86] at c86; rw [hB94] at c94; simp at c66 c86 c94
                     have a1 : ¬ x1 = 1 := by simpa [hkn] using c29
                     have a2 : ¬ x1 = 2 := by simpa [hkn] using c37
                     have a3 : ¬ x1 = 5 := by simpa [hkn] using c75
                     have a4 : ¬ x1 = 9 := by simpa [hkn] using c100
                     have a5 : ¬ x1 = 32 := by simpa [hkn] using c108
                     have a6 : ¬ x1 = 33 := by simpa [hkn] using c113
                     have a7 : ¬ x1 = 34 := by simpa [hkn] using c128
                     by_cases a8 : x1 = 36
                     · right; rw [a8]; decide
                     · left; simp [hasN, a1, a2, a3, a4, a5, a6, a7, a8, c66, c86, c94]
                   rw [hbT, hbV, hbO, hbN, hbC, hbU, hbP, hbM, hbQ, hbJ]; unfold hB; rcases hv with e | e <;> (rw [e]; decide)
                 obtain ⟨fT, fV, fO, fN, fC, fU, fP, fM, fQ, fJ⟩ := fb
                 refine run_skip ?_
                 first | refine hK10 (k6) _ _ ⟨kp, ?_, ?_⟩ | refine hK10 (y.k) _ _ ⟨kp, ?_, ?_⟩ | refine hK10 (k9) _ _ ⟨kp, ?_, ?_⟩ | refine hK10 (k12) _ _ ⟨kp, ?_, ?_⟩ | refine hK10 (k13) _ _ ⟨kp, ?_, ?_⟩ | refine hK10 (k14) _ _ ⟨kp, ?_, ?_⟩ | refine hK10 (k16) _ _ ⟨kp, ?_, ?_⟩ | refine hK10 (k17) _ _ ⟨kp, ?_, ?_⟩ | refine hK10 (k21) _ _ ⟨kp, ?_, ?_⟩ | refine hK10 (k23) _ _ ⟨kp, ?_, ?_⟩ | refine hK10 (q1) _ _ ⟨kp, ?_, ?_⟩
                 · simp only [hST, hSV, hSO, hSN, hSC, hSU, hSP, hSM, hSQ, hSJ, fT, fV, fO, fN, fC, fU, fP, fM, fQ, fJ, cond_true, cond_false]
                   exact hq1
                 · simp [hST, hSV, hSO, hSN, hSC, hSU, hSP, hSM, hSQ, hSJ, fT, fV, fO, fN, fC, fU, fP, fM, fQ, fJ, hLU, hnA, F]
           case cx58 =>
            intro K58 hK58
            refine sr fun _ hJ83 => ?_; refine hJ83 _ _ ?_; refine cs (fun c94 => ?_) (fun c94 => ?_)
            · (try exact nope c94); all_goals have c94p := c94; try simp [F] at c94p
              all_goals
               replace F := aF c94 F; (try replace F := aF c94p F); refine run_skip ?_; refine hK58 (()) _ _ ⟨kp, ?_, lp⟩
               · rw [hB94]
                 simp [hkn, F]
                 try rfl
            (try exact nope c94); all_goals have c94p := c94; try simp [F] at c94p
            all_goals
             replace F := aF c94 F; (try replace F := aF c94p F); refine rg' (h := fun J84 hJ84 => ?_); refine hJ84 _ _ ?_; refine hK58 (()) _ _ ⟨kp, ?_, lp⟩
             · rw [hB94]
               simp [hkn, F]
               try rfl
         case cx56 =>
          intro K56 hK56
          refine sr fun _ hJ86 => ?_; refine hJ86 _ _ ?_; refine cs (fun c86 => ?_) (fun c86 => ?_)
          · (try exact nope c86); all_goals have c86p := c86; try simp [F] at c86p
            all_goals
             replace F := aF c86 F; (try replace F := aF c86p F); refine run_skip ?_; refine hK56 (()) _ _ ⟨kp, ?_, lp⟩
             · rw [hB86]
               simp [hkn, F]
               try rfl
          (try exact nope c86); all_goals have c86p := c86; try simp [F] at c86p
          all_goals
           replace F := aF c86 F; (try replace F := aF c86p F); refine sr fun _ hJ88 => ?_; refine hJ88 _ _ ?_; refine cs (fun c86 => ?_) (fun c86 => ?_)
           · (try exact nope c86); all_goals have c86p := c86; try simp [F] at c86p
             all_goals
              replace F := aF c86 F; (try replace F := aF c86p F); refine run_skip ?_; refine hK56 (()) _ _ ⟨kp, ?_, lp⟩
              · rw [hB86]
                simp [hkn, F]
                try rfl
           (try exact nope c86); all_goals have c86p := c86; try simp [F] at c86p
           all_goals
            replace F := aF c86 F; (try replace F := aF c86p F); refine sr fun _ hJ90 => ?_; refine hJ90 _ _ ?_; refine cs (fun c86 => ?_) (fun c86 => ?_)
            · (try exact nope c86); all_goals have c86p := c86; try simp [F] at c86p
              all_goals
               replace F := aF c86 F; (try replace F := aF c86p F); refine run_skip ?_; refine hK56 (()) _ _ ⟨kp, ?_, lp⟩
               · rw [hB86]
                 simp [hkn, F]
                 try rfl
            (try exact nope c86); all_goals have c86p := c86; try simp [F] at c86p
            all_goals
             replace F := aF c86 F; (try replace F := aF c86p F); refine rg' (h := fun J91 hJ91 => ?_); refine hJ91 _ _ ?_; refine hK56 (()) _ _ ⟨kp, ?_, lp⟩
             · rw [hB86]
               simp [hkn, F]
               try rfl
      case cx45 =>
       intro K45 hK45
       refine sr fun _ hJ93 => ?_; refine hJ93 _ _ ?_; refine cs (fun c66 => ?_) (fun c66 => ?_)
       · (try exact nope c66); all_goals have c66p := c66; try simp [F] at c66p
         all_goals
          replace F := aF c66 F; (try replace F := aF c66p F); refine run_skip ?_; refine hK45 (()) _ _ ⟨kp, ?_, lp⟩
          · rw [hB66]
            simp [hkn, F]
            try rfl
       (try exact nope c66); all_goals have c66p := c66; try simp [F] at c66p
       all_goals
        replace F := aF c66 F; (try replace F := aF c66p F); refine rg' (h := fun J94 hJ94 => ?_); refine hJ94 _ _ ?_; refine hK45 (()) _ _ ⟨kp, ?_, lp⟩
        · rw [hB66]
          simp [hkn, F]
          try rfl
  case cx9 =>
   intro K9 hK9
   refine sq fun K95 hK95 => ?_
   have hb32s := hb32.symm
   replace F := aF hb32s F; refine rg' (h := fun J96 hJ96 => ?_); refine hJ96 _ _ ?_; refine hK95 _ _ ?_; refine cs (t := b32) (fun c17 => ?_) (fun c17 => ?_)
   · (try exact nope c17); all_goals have c17p := c17; try simp [F] at c17p
     all_goals
      replace F := aF c17 F; (try replace F := aF c17p F); refine sr fun _ hJ98 => ?_
      refine ca (c := inByte_ok (tl := .shut) (by simp [F]) hp hk0) (k := ?_)
      rintro _ _ ⟨rfl, k1, hk1, rfl⟩; (repeat (first | simp [F] | simp (disch := omega) only [wC, if_pos, if_neg])); refine hJ98 _ _ ?_; refine sr fun _ hJ100 => ?_
      refine ca (c := inLong_ok (n := 8) (tl := .shut) (by simp [F]) hp hk1 (by omega)) (k := ?_)
      rintro _ _ ⟨rfl, k2, hk2, rfl⟩; (repeat (first | simp [F] | simp (disch := omega) only [wC, if_pos, if_neg])); refine hJ100 _ _ ?_; refine rg' (h := fun J101 hJ101 => ?_)
      refine ca (c := inCoins_ok (by simp [F]) hp hk2) (k := ?_)
      rintro _ _ ⟨rfl, k3, hk3, rfl⟩; (repeat (first | simp [F] | simp (disch := omega) only [wC, if_pos, if_neg])); refine hJ101 _ _ ?_
      first | refine hK9 (k3) _ _ ⟨kp, ?_, ?_⟩ | refine hK9 (k0) _ _ ⟨kp, ?_, ?_⟩
      · rw [hSE, hbE, c17]
        exact hk3
      · have h := c17
        simp [hSE, hbE, h, F]
   (try exact nope c17); all_goals have c17p := c17; try simp [F] at c17p
   all_goals
    replace F := aF c17 F; (try replace F := aF c17p F); refine run_skip ?_
    first | refine hK9 (k3) _ _ ⟨kp, ?_, ?_⟩ | refine hK9 (k0) _ _ ⟨kp, ?_, ?_⟩
    · rw [hSE, hbE, c17]
      exact hk0
    · have h := c17
      simp [hSE, hbE, h, F]
end Go.Proofs.Ytdbaddholggkbaa

/-
  What was read of a message is what writing it lays: the plain law.
-/
namespace Go.Proofs.Ytdbaddholggkbaa
set_option linter.unnecessarySimpa false
set_option maxRecDepth 100000
open Go Go.Vm
set_option linter.unusedSimpArgs false
set_option linter.unusedVariables false

theorem nBytes8_be {l : List UInt8} (h : l.length = 8) : nBytes 8 (be l) = l := by
  obtain ⟨a, b, c, d, e, f, g, i, rfl⟩ : ∃ a b c d e f g i, l = [a, b, c, d, e, f, g, i] := by
    match l, h with
    | [a, b, c, d, e, f, g, i], _ => exact ⟨a, b, c, d, e, f, g, i, rfl⟩
  have e0 : ∀ n, nBytes 8 n = [UInt8.ofNat (n / 2 ^ 56 % 256), UInt8.ofNat (n / 2 ^ 48 % 256), UInt8.ofNat (n / 2 ^ 40 % 256), UInt8.ofNat (n / 2 ^ 32 % 256), UInt8.ofNat (n / 2 ^ 24 % 256), UInt8.ofNat (n / 2 ^ 16 % 256), UInt8.ofNat (n / 2 ^ 8 % 256), UInt8.ofNat (n / 2 ^ 0 % 256)] := fun _ => rfl
  have hu : ∀ (x : Nat) (y : UInt8), x = y.toNat → UInt8.ofNat x = y := fun x y hx => by rw [hx]; simp
  have ha := a.toNat_lt; have hb := b.toNat_lt; have hc := c.toNat_lt; have hd := d.toNat_lt
  have he := e.toNat_lt; have hf := f.toNat_lt; have hg := g.toNat_lt; have hi := i.toNat_lt
  rw [e0]
  simp only [be, List.foldl_cons, List.foldl_nil]
  rw [hu _ a (by omega), hu _ b (by omega), hu _ c (by omega), hu _ d (by omega), hu _ e (by omega), hu _ f (by omega), hu _ g (by omega), hu _ i (by omega)]
theorem nBytes2_be {l : List UInt8} (h : l.length = 2) : nBytes 2 (be l) = l := by
  obtain ⟨a, b, rfl⟩ : ∃ a b, l = [a, b] := by
    match l, h with
    | [a, b], _ => exact ⟨a, b, rfl⟩
  have e0 : ∀ n, nBytes 2 n = [UInt8.ofNat (n / 2 ^ 8 % 256), UInt8.ofNat (n / 2 ^ 0 % 256)] := fun _ => rfl
  have hu : ∀ (x : Nat) (y : UInt8), x = y.toNat → UInt8.ofNat x = y := fun x y hx => by rw [hx]; simp
  have ha := a.toNat_lt; have hb := b.toNat_lt
  rw [e0]
  simp only [be, List.foldl_cons, List.foldl_nil]
  rw [hu _ a (by omega), hu _ b (by omega)]

theorem byte_inv {s : Option (List UInt8)} {q : List UInt8} (h : takeS 1 s = some q) : s = some (byteS s :: q) := by
  cases s with
  | none => simp [takeS] at h
  | some p => exact congrArg some (byte_split h)
theorem long_inv {s : Option (List UInt8)} {q : List UInt8} (h : takeS 8 s = some q) : s = some (nBytes 8 (be (takeB 8 s)) ++ q) := by
  cases s with
  | none => simp [takeS] at h
  | some p => obtain ⟨h1, h2⟩ := takeS_split h; rw [nBytes8_be h2]; exact congrArg some h1
theorem short_inv {s : Option (List UInt8)} {q : List UInt8} (h : takeS 2 s = some q) : s = some (nBytes 2 (be (takeB 2 s)) ++ q) := by
  cases s with
  | none => simp [takeS] at h
  | some p => obtain ⟨h1, h2⟩ := takeS_split h; rw [nBytes2_be h2]; exact congrArg some h1
theorem flag_inv {s : Option (List UInt8)} {q : List UInt8} (h : flagS s = some q) : s = some ((if (be (takeB 1 s) == 1) = true then 1 else 0) :: q) := by
  unfold flagS at h
  split at h
  · cases h
  · rename_i h1
    have h2 := byte_inv h
    have h3 := be_byteS s
    have h4 : byteS s = if (be (takeB 1 s) == 1) = true then 1 else 0 := by
      apply UInt8.toNat_inj.1
      rw [← h3]
      by_cases h5 : be (takeB 1 s) = 1
      · simp [h5]
      · have h6 : be (takeB 1 s) = 0 := by omega
        simp [h6]
    rw [← h4]; exact h2
theorem num_inv {s : Option (List UInt8)} {q : List UInt8} (h : numS s = some q) : s = some (encN (numOf (numB s)) ++ q) := by
  cases s with
  | none => simp [numS, takeS] at h
  | some p => exact congrArg some (num_split h)
theorem coins_inv {s : Option (List UInt8)} {q : List UInt8} (h : coinsS s = some q) : s = some (encL (coinsL s) ++ q) := by
  cases s with
  | none =>
    exfalso
    have : coinsS none = none := by
      have hr : coinsR none = ([], none) := by simp [coinsR, takeS, takeB, be, coinsGo]
      unfold coinsS; rw [hr]; simp
    rw [this] at h; cases h
  | some p => exact congrArg some (coins_split h)
theorem outs_inv : ∀ (m : Nat) (s : Option (List UInt8)) (l L : List Out) (q : List UInt8), outsGo m s l = (L, some q) → ∃ L2, L = l ++ L2 ∧ L2.length = m ∧ s = some (encOs L2 ++ q)
  | 0, s, l, L, q, h => by
    simp only [outsGo, Prod.mk.injEq] at h
    exact ⟨[], by simp [h.1], rfl, by simp [encOs, h.2]⟩
  | m + 1, none, l, L, q, h => by simp [outsGo] at h
  | m + 1, some p, l, L, q, h => by
    rw [outsGo] at h
    obtain ⟨L2, h1, h2, h3⟩ := outs_inv m _ _ _ _ h
    refine ⟨outS (some p) :: L2, by rw [h1]; simp, by simp [h2], ?_⟩
    have h4 := coins_inv h3
    have h5 := byte_inv h4
    exact h5.trans (by simp [encOs, encO, outS])
theorem outsR_inv {s : Option (List UInt8)} {q : List UInt8} (h : (outsR s).2 = some q) : s = some (UInt8.ofNat (outsR s).1.length :: (encOs (outsR s).1 ++ q)) := by
  obtain ⟨L2, h1, h2, h3⟩ := outs_inv (be (takeB 1 s)) (takeS 1 s) [] (outsR s).1 q (by rw [← h]; rfl)
  have h4 := byte_inv h3
  rw [List.nil_append] at h1
  rw [h1, h2, be_byteS]
  have : UInt8.ofNat (byteS s).toNat = byteS s := by simp
  rw [this]; exact h4
theorem pers_inv : ∀ (m : Nat) (s : Option (List UInt8)) (l L : List Per) (q : List UInt8), persGo m s l = (L, some q) → ∃ L2, L = l ++ L2 ∧ L2.length = m ∧ s = some (encPers L2 ++ q)
  | 0, s, l, L, q, h => by
    simp only [persGo, Prod.mk.injEq] at h
    exact ⟨[], by simp [h.1], rfl, by simp [encPers, h.2]⟩
  | m + 1, none, l, L, q, h => by simp [persGo] at h
  | m + 1, some p, l, L, q, h => by
    rw [persGo] at h
    obtain ⟨L2, h1, h2, h3⟩ := pers_inv m _ _ _ _ h
    refine ⟨perS (some p) :: L2, by rw [h1]; simp, by simp [h2], ?_⟩
    have h4 := coins_inv h3
    have h5 := long_inv h4
    exact h5.trans (by simp [encPers, encPer, perS])
theorem plan_inv {s : Option (List UInt8)} {q : List UInt8} (h : takeT s = some q) : s = some (encPl (takeP s) ++ q) := by
  have hP : takeP s = planP s (planR s).1 := by unfold takeP; rw [h]; simp
  unfold takeT at h
  split at h
  · obtain ⟨L2, h1, h2, h3⟩ := pers_inv (be (takeB 1 (s4S s))) (takeS 1 (s4S s)) [] (planR s).1 q (by rw [← h]; rfl)
    rw [List.nil_append] at h1
    have h4 := byte_inv h3
    have h5 := coins_inv (s := takeS 8 (takeS 8 (takeS 1 s))) (show coinsS (takeS 8 (takeS 8 (takeS 1 s))) = some _ from h4)
    have h6 := long_inv h5
    have h7 := long_inv h6
    have h8 := byte_inv h7
    rw [hP]
    have hc : UInt8.ofNat (planR s).1.length = byteS (s4S s) := by rw [h1, h2, be_byteS]; simp
    rw [h1] at hc ⊢
    exact h8.trans (by simp [encPl, planP, hc])
  · cases h

theorem bif_inv {b : Bool} {s t : Option (List UInt8)} {q e : List UInt8} (h : (bif b then t else s) = some q) (ht : t = some q → s = some (e ++ q)) : s = some ((bif b then e else []) ++ q) := by
  cases b with
  | true => exact ht h
  | false => exact h
theorem ev_inv {k : UInt8} {s : Option (List UInt8)} {q : List UInt8} (h : stE k s = some q) : s = some ((bif hB k 1024 then [] else byteS s :: (nBytes 8 (be (takeB 8 (takeS 1 s))) ++ encL (coinsL (takeS 8 (takeS 1 s))))) ++ q) := by
  unfold stE at h
  cases hb : hB k 1024 with
  | true => rw [hb] at h; exact h
  | false =>
    rw [hb] at h
    have a1 := coins_inv h
    have a2 := long_inv a1
    have a3 := byte_inv a2
    simpa using a3
theorem dec_enc {p : List UInt8} (h : decB p = true) : encM (decM p) = p := by
  have hM : decM p = msgR (byteS (some p)) (takeS 1 (some p)) := by unfold decM; rw [h]; rfl
  unfold decB at h
  simp only [Bool.and_eq_true] at h
  have hE := h.1.2
  rw [hM]
  obtain ⟨k, hk⟩ : ∃ k, k = byteS (some p) := ⟨_, rfl⟩
  obtain ⟨s, hs⟩ : ∃ s, s = takeS 1 (some p) := ⟨_, rfl⟩
  rw [← hk, ← hs] at hE ⊢
  have e11 : stJ k s = some [] := by unfold endB at hE; exact eq_of_beq hE
  have e10 := bif_inv (e := [if (be (takeB 1 (stQ k s)) == 1) = true then 1 else 0]) e11 (fun h => flag_inv h)
  have e9 := bif_inv (show stQ k s = some _ from e10) (fun h => short_inv h)
  have e8 := bif_inv (show stM k s = some _ from e9) (fun h => long_inv h)
  have e7 := bif_inv (show stP k s = some _ from e8) (fun h => plan_inv h)
  have e6 := bif_inv (e := UInt8.ofNat (outsR (stC k s)).1.length :: encOs (outsR (stC k s)).1) (show stU k s = some _ from e7) (fun h => outsR_inv h)
  have e5 := bif_inv (show stC k s = some _ from e6) (fun h => coins_inv h)
  have e4 := bif_inv (show stN k s = some _ from e5) (fun h => num_inv h)
  have e3 := bif_inv (e := [byteS (stV k s)]) (show stO k s = some _ from e4) (fun h => byte_inv h)
  have e2 := bif_inv (e := [byteS (stT k s)]) (show stV k s = some _ from e3) (fun h => byte_inv h)
  have e1 := bif_inv (e := [byteS (stE k s)]) (show stT k s = some _ from e2) (fun h => byte_inv h)
  have e0 := ev_inv (show stE k s = some _ from e1)
  have e00 := byte_inv (hs.symm.trans e0)
  rw [← hk] at e00
  have hp := Option.some.inj e00
  rw [hp]
  have hJ : ncJ (msgR k s) = bif hB k 512 then [if (be (takeB 1 (stQ k s)) == 1) = true then 1 else 0] else [] := by
    unfold ncJ
    show (bif hB k 512 then [if (hB k 512 && (be (takeB 1 (stQ k s)) == 1)) = true then (1 : UInt8) else 0] else []) = _
    cases hB k 512 <;> rfl
  rw [encM, hJ]
  simp only [ncE, ncT, ncV, ncO, ncN, ncC, ncU, ncP, ncM, ncQ, msgR]
  have c1 : (bif hB k 1024 then ([] : List UInt8) else (bif hB k 1024 then 0 else byteS s) :: (nBytes 8 (bif hB k 1024 then 0 else be (takeB 8 (takeS 1 s))) ++ encL (bif hB k 1024 then [] else coinsL (takeS 8 (takeS 1 s))))) = bif hB k 1024 then [] else byteS s :: (nBytes 8 (be (takeB 8 (takeS 1 s))) ++ encL (coinsL (takeS 8 (takeS 1 s)))) := by cases hB k 1024 <;> rfl
  have c2 : ∀ (b : Bool) (x : UInt8), (bif b then [bif b then x else 0] else ([] : List UInt8)) = bif b then [x] else [] := fun b x => by cases b <;> rfl
  have c3 : ∀ (b : Bool) (s : Option (List UInt8)), (bif b then encN (bif b then numN s else (⟨0, by decide⟩ : Num)).v else ([] : List UInt8)) = bif b then encN (numOf (numB s)) else [] := fun b s => by cases b <;> rfl
  have c4 : ∀ (b : Bool) (x : List Coin), (bif b then encL (bif b then x else []) else ([] : List UInt8)) = bif b then encL x else [] := fun b x => by cases b <;> rfl
  have c5 : ∀ (b : Bool) (x : List Out), (bif b then UInt8.ofNat (bif b then x else []).length :: encOs (bif b then x else []) else ([] : List UInt8)) = bif b then UInt8.ofNat x.length :: encOs x else [] := fun b x => by cases b <;> rfl
  have c6 : ∀ (b : Bool) (x : Pln), (bif b then encPl (bif b then x else ⟨0, 0, 0, [], []⟩) else ([] : List UInt8)) = bif b then encPl x else [] := fun b x => by cases b <;> rfl
  have c7 : ∀ (b : Bool) (n x : Nat), (bif b then nBytes n (bif b then x else 0) else ([] : List UInt8)) = bif b then nBytes n x else [] := fun b n x => by cases b <;> rfl
  simp only [c1, c2, c3, c4, c5, c6, c7, List.append_nil]

end Go.Proofs.Ytdbaddholggkbaa

/-
  Arguments: numbers, lists of coins, plans.
-/
namespace Go.Vm
set_option linter.unnecessarySimpa false
set_option linter.unusedVariables false
open Go

theorem leavesF_mono {go go' : TypeId → Option (List TypeId)} (h : ∀ t l, go t = some l → go' t = some l) : ∀ (fs : List Field) (acc ls : List TypeId), leavesF go fs acc = some ls → leavesF go' fs acc = some ls
  | [], acc, ls, e => e
  | f :: fs, acc, ls, e => by
    simp only [leavesF] at e ⊢
    split at e
    · rename_i hf
      rw [if_pos hf]
      cases hg : go f.type with
      | none => rw [hg] at e; cases e
      | some l =>
        rw [hg] at e
        rw [h _ _ hg]
        exact leavesF_mono h fs _ ls e
    · cases e

theorem leaves_succ {P : Program} : ∀ (n : Nat) (t : TypeId) (l : List TypeId), leaves P n t = some l → leaves P (n + 1) t = some l
  | 0, t, l, h => by simp [leaves] at h
  | n + 1, t, l, h => by
    have ih := leaves_succ (P := P) n
    rw [leaves] at h ⊢
    split at h
    · exact h
    · exact h
    · exact h
    · rename_i e hu
      cases hg : leaves P n e with
      | none => rw [hg] at h; cases h
      | some l' => rw [hg] at h; simp only [ih _ _ hg]; exact h
    · rename_i fs hu
      cases hg : leavesF (leaves P n) fs.toList [] with
      | none => rw [hg] at h; cases h
      | some l' => rw [hg] at h; simp only [leavesF_mono ih _ _ _ hg]; exact h
    · rename_i k e hu
      cases hg : leaves P n e with
      | none => rw [hg] at h; cases h
      | some l' => rw [hg] at h; simp only [ih _ _ hg]; exact h
    · cases h

theorem leaves_add {P : Program} {n : Nat} {t : TypeId} {l : List TypeId} (h : leaves P n t = some l) : ∀ k, leaves P (n + k) t = some l
  | 0 => h
  | k + 1 => leaves_succ _ _ _ (leaves_add h k)
theorem leaves_one {P : Program} {n m : Nat} {t : TypeId} {l l' : List TypeId} (h : leaves P n t = some l) (h' : leaves P m t = some l') : l = l' := by
  have h1 := leaves_add h m
  have h2 := leaves_add h' n
  rw [Nat.add_comm] at h2
  rw [h1] at h2
  exact Option.some.inj h2

theorem u8_of {P : Program} {u : TypeId} {a : AV} (hu : P.underlying u = some (.int .u8)) (w : WC P u a) : ∃ b : UInt8, a = .v (.int .u8 b.toNat) := by
  cases w with
  | bool h => rw [hu] at h; cases h
  | string h _ => rw [hu] at h; cases h
  | slice h _ _ _ _ => rw [hu] at h; cases h
  | int h hw =>
    rename_i k n
    rw [hu] at h
    cases h
    have m1 : IntKind.u8.min = 0 := rfl
    have m2 : IntKind.u8.max = 255 := rfl
    simp [Lit.wf, m1, m2] at hw
    refine ⟨UInt8.ofNat n.toNat, ?_⟩
    have e : (UInt8.ofNat n.toNat).toNat = n.toNat := toNat_u8 (by omega)
    rw [e]
    congr 2; omega

theorem wc_len {P : Program} {t : TypeId} {sz n : Nat} {cs : List AV} {tl : Tail} (w : WC P t (.sl sz cs n tl)) : n ≤ 9223372036854775807 := by
  generalize hx : AV.sl sz cs n tl = x at w
  cases w with
  | bool h => cases hx
  | string h _ => cases hx
  | int h _ => cases hx
  | slice h hls hl hn hc => cases hx; exact hn

end Go.Vm
