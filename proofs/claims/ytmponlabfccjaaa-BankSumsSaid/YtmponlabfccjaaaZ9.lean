import Derived.Test.YtmponlabfccjaaaZ8
import Derived.Test.YtmponlabfccjaaaZ7
import Derived.Test.YtmponlabfccjaaaZ6
/-
  The codec's reader, over plain lists.
-/
namespace Go.Proofs.Ytmponlabfccjaaa
set_option linter.unnecessarySimpa false
set_option maxRecDepth 100000
open Go Go.Vm
set_option linter.unusedSimpArgs false
set_option linter.unusedVariables false
attribute [local simp] evalL wantedA isCall opA evalA evalAll evalsA evalOpt ofValue ofCell plain binA_eql_pn binA_neq_pn binA_gtr binA_lss binA_geq binA_leq binA_add binA_sub binA_eql binA_neq binA_or binA_shl binA_quo binA_rem convA_int unA_not fieldAddrA loadA partA pickA lenA builtinA storeA splice AV.cells AV.isCell sliceA boundA intA callOf indexAddrA newObjA

def rd : Option (List UInt8) → List AV
  | some p => [.sl 1 (bytesA p) p.length .shut, .v (.bool false)]
  | none => [.sl 1 [] 0 .shut, .v (.bool true)]

theorem set_same {α : Type} {l : List α} {i : Nat} {x : α} (h : l[i]? = some x) : l.set i x = l := by
  apply List.ext_getElem?
  intro j
  by_cases hj : i = j
  · subst hj; rw [set_self_of h x, h]
  · rw [List.getElem?_set_ne hj]

theorem St.set_same {σ : St} {i : Nat} {x : List AV} (h : σ.objs[i]? = some x) : { σ with objs := σ.objs.set i x } = σ := by
  rw [Ytmponlabfccjaaa.set_same h]

end Go.Proofs.Ytmponlabfccjaaa

/-
  A loop over a function value that yields a slice's cells, the last one first.
-/
namespace Go.Vm
set_option linter.unnecessarySimpa false
set_option linter.unusedSimpArgs false
set_option linter.unusedVariables false
open Go Go.RowKit

def KeepsAt (Good : Nat → Nat → Prop) (A B : World) : Prop := ∀ (b o : Nat) x, Good b o → A.cell? ⟨b, o, none⟩ = some x → B.cell? ⟨b, o, none⟩ = some x

def Backs (P : Program) (gf : FuncId) (ob : Nat → Prop) : Prop :=
  ∀ (n : Nat) (w : World) (Bn Bo m c : Nat) (ad : Option Addr) (xs : List Value) (Good : Nat → Nat → Prop), 1 ≤ n → ob m →
    w.cell? ⟨Bn, Bo, none⟩ = some (.slice ad m c) → Good Bn Bo → (hl : xs.length = m) → (∀ (j : Nat) x, xs[j]? = some x → ∃ b o, ad = some ⟨b, o, none⟩ ∧ Good b (o + j) ∧ w.cell? ⟨b, o + j, none⟩ = some x) →
    SeqStopsK Fence.wide n P gf #[.pointer (some ⟨Bn, Bo, none⟩)] (fun i : Fin m => #[.int .i64 i.val, xs[i.val]'(by omega)]) (KeepsAt Good) (fun ys => ys.map Fin.val = (List.range m).reverse) (fun ys => ys.map Fin.val <+: (List.range m).reverse) m w

theorem wpIn_assign1 {F : Fence} {n : Nat} {P : Program} {id : Nat} {o : Oper} {p : Tmp} {Q : Exit → Act → World → Prop} {a : Act} {w : World} (hF : ∀ f, F.fn f) (ho : o.op = .assign (.tmp p)) (hg : o.guard = none)
    (h : Q .normal (a.put o.dst (a.eval (.tmp p))) w) : (Code.region id #[o] false).wpIn F n P Q a w := by
  refine wpIn_region_lit (l := [o]) ?_
  unfold wpListIn
  rw [if_pos (by simp [Region.wanted, hg])]
  refine ⟨fun f _ => hF f, ?_⟩
  rw [Oper.semAt_eq _ _ _ (fun c e => by rw [ho] at e; cases e)]
  have : (execOp a.eval o).run P w = .ok (.value (a.eval (.tmp p))) w := by
    unfold execOp
    rw [ho]
    simp
  rw [this]
  exact h

section
variable {P : Program} {N : Nat} {ρ : Nat → AV} {σ : St}

theorem Ext.others {G G' : Gh} {w w' : World} (h : Ext G w G' w') : KeepsOthers w w' :=
  ⟨h.size, fun k o hk ho => h.oth k o hk (fun c e fr he => by rw [he] at ho; cases ho)⟩

theorem run_backward {g p1 p2 q1 q2 : Tmp} {o1 o2 : Oper} {i1 i2 : Nat} {body : Code} {gf : FuncId} {ob : Nat → Prop} {cells : List AV} {m : Nat} {t : Tail} {Q : Exit → (Nat → AV) → St → Prop} (hback : Backs P gf ob) (hm : ob m) (hcb : callable P gf = true)
    (hN : (decide (p1 < N) && decide (p2 < N) && decide (q1 < N) && decide (q2 < N)) = true) (ho1 : o1.op = .assign (.tmp p1)) (ho2 : o2.op = .assign (.tmp p2)) (hg1 : o1.guard = none) (hg2 : o2.guard = none) (hd1 : o1.dst = some q1) (hd2 : o2.dst = some q2)
    (hne : (p1 != p2 && p1 != q1 && p2 != q1) = true)
    (hg : ρ g = .fn gf [.ep [.sl 1 cells m t]])
    (I : List Nat → St → Prop) (Ix : Code → List Nat → St → Prop) (h0 : I [] σ)
    (round : ∀ z pre i x σ', i < m → cells[i]? = some x → I pre σ' → Run z P N body (putA (putA (putA (putA ρ (some p1) (.v (.int .i64 (i : Nat)))) (some p2) x) (some q1) (.v (.int .i64 (i : Nat)))) (some q2) x) σ' (fun e _ σ'' => match e with
      | .normal => I (pre ++ [i]) σ''
      | .ret => Ix .ret (pre ++ [i]) σ''
      | .exit j => Ix (.exit j) (pre ++ [i]) σ''
      | .goto j => Ix (.goto j) (pre ++ [i]) σ''
      | _ => False))
    (done : ∀ σ', I (List.range m).reverse σ' → Q .normal ρ σ')
    (stop : ∀ c pre σ', pre <+: (List.range m).reverse → Ix c pre σ' → Run ⟨none, 3⟩ P N c ρ σ' Q) :
    Run ⟨none, 3⟩ P N (.rangeFunc (.tmp g) #[p1, p2] (.seq (.region i1 #[o1] false) (.region i2 #[o2] false)) body) ρ σ Q := by
  intro G w a R hR hK
  simp only [Bool.and_eq_true, decide_eq_true_eq, bne_iff_ne, ne_eq] at hN hne
  obtain ⟨⟨⟨n1, n2⟩, n3⟩, n4⟩ := hN
  obtain ⟨⟨e1, e2⟩, e3⟩ := hne
  have hgv := hR.env g
  rw [hg] at hgv
  -- the iterator, and what it holds
  obtain ⟨cs, hcs, hcl, hcr⟩ : ∃ cs : Array Value, a.tmps.getD g undef = .func (.func gf) #[] cs ∧ cs.size = 1 ∧ ∀ x, cs[0]? = some x → AVR G w x (.ep [.sl 1 cells m t]) := by
    generalize a.tmps.getD g undef = v at hgv
    cases hgv with
    | fn hl h => exact ⟨_, rfl, hl, fun x hx => h 0 x _ hx rfl⟩
  obtain ⟨Bn, Bo, hcap, hBg, v, hv, hva⟩ : ∃ Bn Bo, cs = #[.pointer (some ⟨Bn, Bo, none⟩)] ∧ G.tag Bn Bo = .fixd ∧ ∃ v, w.cell? ⟨Bn, Bo, none⟩ = some v ∧ AVR G w v (.sl 1 cells m t) := by
    have h1 := hcr cs[0] (Array.getElem?_eq_getElem (by omega))
    generalize hx : cs[0] = x at h1
    cases h1 with
    | ep xs hl hs hxs h =>
      rename_i b o
      have hlt : 0 < xs.length := by rw [hl]; simp
      obtain ⟨c1, _⟩ := hxs 0 xs[0] (List.getElem?_eq_getElem hlt)
      refine ⟨b, o, ?_, by simpa using hs 0 (by simp), xs[0], by simpa using c1, h 0 _ _ (List.getElem?_eq_getElem hlt) rfl⟩
      apply Array.ext
      · simpa using hcl
      · intro i hi1 hi2
        have : i = 0 := by omega
        subst this
        simpa using hx
  obtain ⟨ad, c, xs, rfl, hxl, hcl2, hx, hxa⟩ : ∃ ad c, ∃ xs : List Value, v = .slice ad m c ∧ xs.length = m ∧ cells.length = m ∧ (∀ (j : Nat) x, xs[j]? = some x → ∃ b o, ad = some ⟨b, o, none⟩ ∧ G.tag b (o + j) = .fixd ∧ w.cell? ⟨b, o + j, none⟩ = some x) ∧ ∀ (j : Nat) x y, xs[j]? = some x → cells[j]? = some y → AVR G w x y := by
    cases hva with
    | sl0 ht => exact ⟨_, _, [], rfl, rfl, rfl, by simp, by simp⟩
    | sl xs hl hn hc hs hx h ht =>
      refine ⟨_, _, xs, rfl, by omega, by omega, fun j x hj => ⟨_, _, rfl, hs j ?_, (hx j x hj).1⟩, h⟩
      have := (List.getElem?_eq_some_iff.1 hj).1
      omega
  have hgood : ∀ (j : Nat) x, xs[j]? = some x → ∃ b o, ad = some ⟨b, o, none⟩ ∧ (fun b o => G.tag b o = .fixd) b (o + j) ∧ w.cell? ⟨b, o + j, none⟩ = some x := hx
  have hseq := hback 2 w Bn Bo m c ad xs (fun b o => G.tag b o = .fixd) (by omega) hm hv hBg hxl hgood
  have hdf : ∀ D, w.heap.size ≤ D → ({ target := .collected D, args := #[] } : Deferred) ∉ a.defers := by
    intro D hD hmem
    obtain ⟨D', h1, _, h3⟩ := hR.defers.1 _ hmem
    have : D = D' := by injection h1 with h1; injection h1
    subst this
    have := (Array.getElem?_eq_some_iff.1 h3).1
    omega
  have hRel : ∀ (D : Nat) G' W σ', w.heap.size ≤ D → Ext G w G' W → RelS G' W σ' → W.heap[D]? = some (.deferred (some [])) → Rel N G' W ρ σ' { a with defers := { target := .collected D, args := #[] } :: a.defers } := by
    intro D G' W σ' hD hE hS hk
    refine ⟨hS, ⟨fun d hd => ?_, List.nodup_cons.2 ⟨hdf D hD, hR.defers.2.1⟩, by rw [hE.base]; exact Nat.le_trans hR.defers.2.2 hE.size⟩, hR.size, fun i => (hR.env i).mono hE⟩
    rcases List.mem_cons.1 hd with rfl | hd
    · refine ⟨D, rfl, ?_, hk⟩
      rw [hE.base]
      exact Nat.le_trans hR.defers.2.2 hD
    · exact (hR.defers.1.mono hE) d hd
  have hown : ∀ {β : Type} (J : β → St → Prop), OwnFrom w.heap.size (fun (s : β) W => ∃ G' σ', Ext G w G' W ∧ RelS G' W σ' ∧ J s σ') := by
    rintro β J s W W' row ⟨G', σ', hE, hS, hJ⟩ hgr hrow
    have hst : Still W W' := still_grown hgr (fun r e => (hrow r e).2)
    refine ⟨G', σ', hE.still hst hgr.os hgr.tape hgr.output (fun b hb => hgr.block b (Nat.lt_of_lt_of_le hb hE.size) (fun e => ?_)), hS.still hst, hJ⟩
    have := (hrow b e.symm).1
    omega
  let a0 : Fin m → Act := fun i => { tmps := ((#[p1, p2] : Array Tmp).zip #[.int .i64 i.val, xs[i.val]'(by omega)]).foldl (fun t (p, v) => t.setIfInBounds p v) a.tmps, defers := [] }
  let a1 : Fin m → Act := fun i => (a0 i).put (some q1) ((a0 i).eval (.tmp p1))
  let a2 : Fin m → Act := fun i => (a1 i).put (some q2) ((a1 i).eval (.tmp p2))
  have hF : ∀ l f, ((Fence.wide).inRound l).fn f := fun _ _ => trivial
  have post : ∀ (pre : List (Fin m)) (i : Fin m) (W : World) (e : Exit) (ρ' : Nat → AV) (σ'' : St) (G2 : Gh) (a' : Act) (W' : World) (G' : Gh), Ext G w G' W → (match e with
      | .normal => I (pre.map Fin.val ++ [i.val]) σ''
      | .ret => Ix .ret (pre.map Fin.val ++ [i.val]) σ''
      | .exit j => Ix (.exit j) (pre.map Fin.val ++ [i.val]) σ''
      | .goto j => Ix (.goto j) (pre.map Fin.val ++ [i.val]) σ''
      | _ => False) → Ext G' W G2 W' → Rel N G2 W' ρ' σ'' a' →
      ownPostK (KeepsAt fun b o => G.tag b o = .fixd) (fun (s : List (Fin m)) W => ∃ G' σ', Ext G w G' W ∧ RelS G' W σ' ∧ I (s.map Fin.val) σ') (fun c (s : List (Fin m)) W => ∃ G' σ', Ext G w G' W ∧ RelS G' W σ' ∧ Ix c (s.map Fin.val) σ') (pre ++ [i]) W e a' W' := by
    intro pre i W e ρ' σ'' G2 a' W' G' hE hq hE2 hR2
    have hkp : KeepsAt (fun b o => G.tag b o = .fixd) W W' := fun b o x hb hx => hE2.cell (hE.sealed b o hb) hx
    cases e with
    | normal => exact ⟨hE2.others, hkp, G2, σ'', hE.trans hE2, hR2.s, by simpa using hq⟩
    | ret => exact ⟨hE2.others, G2, σ'', hE.trans hE2, hR2.s, by simpa using hq⟩
    | exit j => exact ⟨hE2.others, G2, σ'', hE.trans hE2, hR2.s, by simpa using hq⟩
    | goto j => exact ⟨hE2.others, G2, σ'', hE.trans hE2, hR2.s, by simpa using hq⟩
    | panic ch => exact hq.elim
    | outgrown => exact hq.elim
  refine wpIn_rangeFunc_ownF (F := Fence.wide) rfl (by show 1 ≤ 3; omega) (gf := gf) (lb := #[.pointer (some ⟨Bn, Bo, none⟩)]) (by rw [← hcap]; exact hcs) trivial (fun args w => run_callFunc hcb) hseq
    (fun h k b o x hb hx => k b o x hb (h b o x hb hx)) (fun W l o o' _ hl ho _ b off x _ hx => ?keep) (Below.refl _ _) (fun _ => rfl)
    (fun s W => ∃ G' σ', Ext G w G' W ∧ RelS G' W σ' ∧ I (s.map Fin.val) σ') (fun c s W => ∃ G' σ', Ext G w G' W ∧ RelS G' W σ' ∧ Ix c (s.map Fin.val) σ')
    (hown _) (fun c => hown _) ⟨G, σ, .refl _ _, hR.s, h0⟩ a2 ?assign ?body ?done ?stop
  case keep => exact (still_put hl ho).cell hx
  case assign =>
    intro l x W K hK'
    refine wpIn_seq ?_; refine wpIn_assign1 (hF l) ho1 hg1 ?_
    show Code.wpIn _ _ _ _ _ _ _
    refine wpIn_assign1 (hF l) ho2 hg2 ?_
    rw [hd1, hd2]
    exact hK'
  case body =>
    rintro l pre i W ⟨G', σ', hE, hS, hI⟩ hlt
    have hi : i.val < xs.length := by omega
    have hic : i.val < cells.length := by omega
    have hxi := hxa i.val _ _ (List.getElem?_eq_getElem hi) (List.getElem?_eq_getElem hic)
    refine round ⟨some l, 1⟩ (pre.map Fin.val) i.val cells[i.val] σ' i.isLt (List.getElem?_eq_getElem hic) hI G' W (a2 i) _ ?_ (fun e ρ' σ'' G2 a' W' hq hE2 hR2 => post pre i W e ρ' σ'' G2 a' W' G' hE hq hE2 hR2)
    have hb : a0 i = (({ a with defers := [] } : Act).put (some p1) (.int .i64 i.val)).put (some p2) (xs[i.val]'hi) := by simp [a0, Act.put]
    have r0 : Rel N G' W ρ σ' { a with defers := [] } := ⟨hS, ⟨Marks.nil _ _, List.nodup_nil, by rw [hE.base]; exact Nat.le_trans hR.defers.2.2 hE.size⟩, hR.size, fun i => (hR.env i).mono hE⟩
    have r1 := r0.put (.refl _ _) hS (d := some p1) (by simpa [inN] using n1) (v := .int .i64 i.val) (x := .v (.int .i64 i.val)) (.v rfl)
    have r2 := r1.put (.refl _ _) hS (d := some p2) (by simpa [inN] using n2) (hxi.mono hE)
    rw [← hb] at r2
    have v1 : AVR G' W ((a0 i).eval (.tmp p1)) (.v (.int .i64 i.val)) := by
      have h := r2.env p1
      have e : putA (putA ρ (some p1) (.v (.int .i64 i.val))) (some p2) cells[i.val] p1 = .v (.int .i64 i.val) := by simp [putA, e1]
      rw [e] at h
      exact h
    have r3 := r2.put (.refl _ _) hS (d := some q1) (by simpa [inN] using n3) v1
    have v2 : AVR G' W ((a1 i).eval (.tmp p2)) cells[i.val] := by
      have h := r3.env p2
      have e : putA (putA (putA ρ (some p1) (.v (.int .i64 i.val))) (some p2) cells[i.val]) (some q1) (.v (.int .i64 i.val)) p2 = cells[i.val] := by simp [putA, e3]
      rw [e] at h
      exact h
    exact r3.put (.refl _ _) hS (d := some q2) (by simpa [inN] using n4) v2
  case done =>
    rintro D ys W hD hys ⟨G', σ', hE, hS, hI⟩ hk
    rw [hys] at hI
    exact hK .normal ρ σ' G' _ W (done σ' hI) hE (hRel D G' W σ' hD hE hS hk)
  case stop =>
    rintro D c pre W hD hpre ⟨G', σ', hE, hS, hI⟩ hk; exact stop c _ σ' hpre hI G' W _ R (hRel D G' W σ' hD hE hS hk) (fun e ρ' σ2 G2 a2 w2 hq hE2 hR2 => hK e ρ' σ2 G2 a2 w2 hq (hE.trans hE2) hR2)

end
end Go.Vm
