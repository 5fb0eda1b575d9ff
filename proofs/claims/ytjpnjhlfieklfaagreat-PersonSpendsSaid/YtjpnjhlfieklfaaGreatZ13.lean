import Derived.Test.YtjpnjhlfieklfaaGreatZ12
import Derived.Lib.ConvBytes
set_option linter.unnecessarySimpa false
set_option linter.unusedSimpArgs false
set_option linter.unusedVariables false
namespace Go.Vm
open Go
section
variable {P : Program} {G : Gh} {w : World} {σ : St}
theorem n6 (hS : dD G w σ) {id j sz s : Nat} {cs : List AV} (h : σ.objs[id]? = some cs) (hj : cs[j]? = some (.sl s [] 0 .full)) :
  ∃ G', Ext G w G' w ∧ dD G' w { σ with objs := σ.objs.set id (cs.set j (.row σ.rows.length 0 0 sz 0)), rows := σ.rows ++ [⟨0, [], none⟩] } := by
 obtain ⟨G', hE, hS', hrw⟩ := tQ hS
 refine ⟨G', hE, ⟨fun i b hp => ?_, hS'.inj, hS'.tok, hS'.fresh, hS'.gl, fun i hi => hS'.tot i (by simpa using hi), hS'.totk, hS'.row, hS'.totr⟩⟩
 obtain ⟨c, e, cs2, h1, h2, h3, h4, h5⟩ := hS'.obj i b hp
 simp only at h1
 by_cases hi : id = i
 · subst hi
   rw [h] at h1; cases h1
   refine ⟨c, e, cs.set j (.row σ.rows.length 0 0 sz 0), by simp only; exact cY h _, h2, by simpa using h3, h4, fun q x a hx ha => ?_⟩
   by_cases hq : j = q
   · subst hq
     rw [cY hj] at ha; cases ha
     have hx' := h5 j x _ hx hj
     obtain ⟨ad, c', e1, e2⟩ := sG hx'
     subst e2
     rw [e1]
     exact .row hrw (Nat.le_refl _) (Nat.le_refl _) (fun h => (h rfl).elim) (fun _ => ⟨by simp, fun h => (h rfl).elim⟩)
   · rw [List.getElem?_set_ne hq] at ha
     exact h5 q x a hx ha
 · exact ⟨c, e, cs2, by simp only; rw [List.getElem?_set_ne hi]; exact h1, h2, h3, h4, h5⟩
end
section
variable {z : kV} {P : Program} {N : Nat} {ρ : Nat → AV} {σ : St} {ops : Array Oper} {rest : List Oper} {o : Oper} {K : (Nat → AV) → St → Prop}
end
end Go.Vm
