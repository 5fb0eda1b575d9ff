import Derived.Test.YtdbaddholggkbaaZ8
import Derived.Test.YtdbaddholggkbaaZ7
import Derived.Test.YtdbaddholggkbaaZ6
/-
  The codec's reader, over plain lists.
-/
namespace Go.Proofs.Ytdbaddholggkbaa
set_option linter.unnecessarySimpa false
set_option maxRecDepth 100000
open Go Go.Vm
set_option linter.unusedSimpArgs false
set_option linter.unusedVariables false

attribute [local simp] evalL wantedA isCall opA evalA evalAll evalsA evalOpt ofValue ofCell plain binA_eql_pn binA_neq_pn binA_gtr binA_lss binA_geq binA_leq binA_add binA_sub binA_eql binA_neq binA_or binA_shl binA_quo binA_rem convA_int unA_not fieldAddrA loadA partA pickA lenA builtinA storeA splice AV.cells AV.isCell sliceA boundA intA callOf indexAddrA newObjA

theorem set_same {α : Type} {l : List α} {i : Nat} {x : α} (h : l[i]? = some x) : l.set i x = l := by
  apply List.ext_getElem?
  intro j
  by_cases hj : i = j
  · subst hj; rw [set_self_of h x, h]
  · rw [List.getElem?_set_ne hj]

theorem St.set_same {σ : St} {i : Nat} {x : List AV} (h : σ.objs[i]? = some x) : { σ with objs := σ.objs.set i x } = σ := by
  rw [Ytdbaddholggkbaa.set_same h]

end Go.Proofs.Ytdbaddholggkbaa

/-
  A loop over a function value that yields a slice's cells, the last one first.
-/
namespace Go.Vm
set_option linter.unnecessarySimpa false
set_option linter.unusedSimpArgs false
set_option linter.unusedVariables false
open Go Go.RowKit

/-- What stays of memory, where cells of some places do. -/
def KeepsAt (Good : Nat → Nat → Prop) (A B : World) : Prop := ∀ (b o : Nat) x, Good b o → A.cell? ⟨b, o, none⟩ = some x → B.cell? ⟨b, o, none⟩ = some x

/-- An iterator's contract: called with a round, it yields each index and its cell, the last one first. -/
def Backs (P : Program) (gf : FuncId) (ob : Nat → Prop) : Prop :=
  ∀ (n : Nat) (w : World) (Bn Bo m c : Nat) (ad : Option Addr) (xs : List Value) (Good : Nat → Nat → Prop), 1 ≤ n → ob m →
    w.cell? ⟨Bn, Bo, none⟩ = some (.slice ad m c) → Good Bn Bo → (hl : xs.length = m) → (∀ (j : Nat) x, xs[j]? = some x → ∃ b o, ad = some ⟨b, o, none⟩ ∧ Good b (o + j) ∧ w.cell? ⟨b, o + j, none⟩ = some x) →
    SeqStopsK Fence.wide n P gf #[.pointer (some ⟨Bn, Bo, none⟩)] (fun i : Fin m => #[.int .i64 i.val, xs[i.val]'(by omega)]) (KeepsAt Good) (fun ys => ys.map Fin.val = (List.range m).reverse) (fun ys => ys.map Fin.val <+: (List.range m).reverse) m w

theorem wpIn_assign1 {F : Fence} {n : Nat} {P : Program} {id : Nat} {o : Oper} {p : Tmp} {Q : Exit → Act → World → Prop} {a : Act} {w : World} (hF : ∀ f, F.fn f) (ho : o.op = .assign (.tmp p)) (hg : o.guard = none)
    (h : Q .normal (a.put o.dst (a.eval (.tmp p))) w) : (Code.region id #[o] false).wpIn F n P Q a w := by
  refine wpIn_region_lit (l := [o]) ?_
  unfold wpListIn
  rw [if_pos (by simp [Region.wanted, hg])]
  refine ⟨fun f _ => hF f, ?_⟩
  rw [Oper.semAt_eq _ _ _ (fun c e => by rw [ho] at e; cases e)]
  have : (execOp a.eval o).run P w = .ok (.value (a.eval (.tmp p))) w := by
    unfold execOp
    rw [ho]
    simp
  rw [this]
  exact h

section
variable {P : Program} {N : Nat} {ρ : Nat → AV} {σ : St}

theorem Ext.others {G G' : Gh} {w w' : World} (h : Ext G w G' w') : KeepsOthers w w' :=
  ⟨h.size, fun k o hk ho => h.oth k o hk (fun c e fr he => by rw [he] at ho; cases ho)⟩

end
end Go.Vm
