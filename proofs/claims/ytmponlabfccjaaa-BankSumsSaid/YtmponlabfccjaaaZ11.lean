import Derived.Test.YtmponlabfccjaaaZ10
import Derived.Lib.ConvBytes
/-
  The bytes of a string that is written down; a nil cell of an object that is told as9 a row.
-/
namespace Go.Vm
set_option linter.unnecessarySimpa false
set_option linter.unusedSimpArgs false
set_option linter.unusedVariables false
open Go

theorem bytesWorld_alloc (w : World) (e : TypeId) (s : ByteArray) : Lib.bytesWorld w e s = w.drew.alloc (.cells (Lib.bytesCells w e s) e ((Lib.bytesCells w e s).size, (Lib.bytesCells w e s).size + 1)) := by
  have h : (w.drew.heap.push (.cells (Lib.bytesCells w e s) e)).modify w.heap.size (fun
      | .cells c elem (lo, hi) => .cells c elem (if lo == hi then ((Lib.bytesCells w e s).size, (Lib.bytesCells w e s).size + 1) else (min lo (Lib.bytesCells w e s).size, max hi ((Lib.bytesCells w e s).size + 1)))
      | o => o) = w.drew.heap.push (.cells (Lib.bytesCells w e s) e ((Lib.bytesCells w e s).size, (Lib.bytesCells w e s).size + 1)) := by
    apply Array.ext
    · simp
    · intro i h1 h2
      have hd : w.drew.heap = w.heap := rfl
      simp only [hd]
      rw [Array.getElem_modify]
      by_cases hi : w.heap.size = i
      · subst hi; simp
      · rw [if_neg hi]
        simp only [hd] at h2
        have hlt : i < w.heap.size := by simp at h2; omega
        rw [Array.getElem_push_lt hlt, Array.getElem_push_lt hlt]
  have h2 := congrArg (fun h => ({ w.drew with heap := h } : World)) h
  unfold Lib.bytesWorld World.freeze
  rw [if_neg (by decide)]
  exact h2

section
variable {P : Program} {G : Gh} {w : World} {σ : St}

theorem strBytes_sound (hS : RelS G w σ) {src dst e : TypeId} {u : TypeDesc} (s : ByteArray) (hs : P.underlying src = some u) (hd : P.underlying dst = some (.slice e)) (he : P.underlying e = some (.int .u8)) :
    ∃ y w' G', (convert src dst (.string s)).run P w = .ok y w' ∧ Ext G w G' w' ∧ RelS G' w' σ ∧ AVR G' w' y (.sl 1 (bytesA s.data.toList) s.data.toList.length .shut) := by
  have hrun := Lib.run_convert_string_bytes w src dst e s hs hd he
  rw [bytesWorld_alloc] at hrun
  let f : Nat → Tag := fun _ => .fixd
  have hE := ext_alloc hS.drew.fresh (.cells (Lib.bytesCells w e s) e ((Lib.bytesCells w e s).size, (Lib.bytesCells w e s).size + 1)) f
  have hS' := hS.drew.alloc (.cells (Lib.bytesCells w e s) e ((Lib.bytesCells w e s).size, (Lib.bytesCells w e s).size + 1)) f
  refine ⟨_, _, _, hrun, (ext_drew G w).trans hE, hS', ?_⟩
  have hsz : s.size = s.data.toList.length := (Array.length_toList (xs := s.data)).symm
  rw [hsz]
  by_cases h0 : s.data.toList = []
  · rw [h0]; exact .sl0 trivial
  · have hc : ∀ (j : Nat) x, ((bytesA s.data.toList).map fun a => match a with | .v x => x | _ => .nilFunc)[j]? = some x → (Lib.bytesCells w e s)[j]? = some x ∧ ∃ n : Int, x = .int .u8 n ∧ (bytesA s.data.toList)[j]? = some (.v x) := by
      intro j x hx
      simp only [List.getElem?_map, bytesA] at hx ⊢
      cases hj : s.data.toList[j]? with
      | none => simp [hj] at hx
      | some b =>
        simp [hj] at hx
        subst hx
        refine ⟨?_, _, rfl, by simp⟩
        have hlt := (List.getElem?_eq_some_iff.1 hj).1
        unfold Lib.bytesCells
        rw [Array.getElem?_append_left (by simpa using hlt)]
        rw [Array.getElem?_map, ← Array.getElem?_toList, hj]; rfl
    refine .sl ((bytesA s.data.toList).map fun a => match a with | .v x => x | _ => .nilFunc) (by simp) (by simp) ?_ (fun j hj => ?_) (fun j x hx => ⟨?_, ?_⟩) (fun j x a hx ha => ?_) trivial
    · have := grownCap_ge w s.size 0 e; rw [hsz] at this; exact this
    · show (if w.heap.size = w.drew.heap.size then f (0 + j) else _) = _
      exact if_pos rfl
    · have := (hc j x hx).1
      have h9 := heap_cell (o := 0 + j) (heap_alloc_new w.drew (.cells (Lib.bytesCells w e s) e ((Lib.bytesCells w e s).size, (Lib.bytesCells w e s).size + 1)))
      rw [Nat.zero_add] at h9 ⊢
      exact h9.trans this
    · obtain ⟨_, n, rfl, _⟩ := hc j x hx; rfl
    · obtain ⟨_, n, rfl, h2⟩ := hc j x hx
      rw [h2] at ha; cases ha; exact .v rfl

theorem nilcell_sound (hS : RelS G w σ) {id j sz s : Nat} {cs : List AV} (h : σ.objs[id]? = some cs) (hj : cs[j]? = some (.sl s [] 0 .full)) :
    ∃ G', Ext G w G' w ∧ RelS G' w { σ with objs := σ.objs.set id (cs.set j (.row σ.rows.length 0 0 sz 0)), rows := σ.rows ++ [⟨0, [], none⟩] } := by
  obtain ⟨G', hE, hS', hrw⟩ := nilrow_sound hS
  refine ⟨G', hE, ⟨fun i b hp => ?_, hS'.inj, hS'.tok, hS'.fresh, hS'.gl, fun i hi => hS'.tot i (by simpa using hi), hS'.totk, hS'.row, hS'.totr⟩⟩
  obtain ⟨c, e, cs2, h1, h2, h3, h4, h5⟩ := hS'.obj i b hp
  simp only at h1
  by_cases hi : id = i
  · subst hi
    rw [h] at h1; cases h1
    refine ⟨c, e, cs.set j (.row σ.rows.length 0 0 sz 0), by simp only; exact set_self_of h _, h2, by simpa using h3, h4, fun q x a hx ha => ?_⟩
    by_cases hq : j = q
    · subst hq
      rw [set_self_of hj] at ha; cases ha
      have hx' := h5 j x _ hx hj
      obtain ⟨ad, c', e1, e2⟩ := sl_empty_full hx'
      subst e2
      rw [e1]
      exact .row hrw (Nat.le_refl _) (Nat.le_refl _) (fun h => (h rfl).elim) (fun _ => ⟨by simp, fun h => (h rfl).elim⟩)
    · rw [List.getElem?_set_ne hq] at ha
      exact h5 q x a hx ha
  · exact ⟨c, e, cs2, by simp only; rw [List.getElem?_set_ne hi]; exact h1, h2, h3, h4, h5⟩
end

section
variable {z : Zone} {P : Program} {N : Nat} {ρ : Nat → AV} {σ : St} {ops : Array Oper} {rest : List Oper} {o : Oper} {K : (Nat → AV) → St → Prop}

theorem sb {src dst : TypeId} {s : ByteArray} (ho : o.op = .convert src dst (.const (.string s))) (hsd : (match elemT P dst with | some e => isStrT P src && isU8 P e | none => false) = true := by simp)
    (k : evalL z P N ops rest (putA ρ o.dst (.sl 1 (bytesA s.data.toList) s.data.toList.length .shut)) σ K) (hw : wantedA ops o ρ = some true := by first | rfl | (simp [F, wantedA]; done)) (hN : ((o :: rest).all fun o => inN N o.dst) = true := by rfl) : RunL z P N ops (o :: rest) ρ σ K := by
  intro G w a R hR hK
  simp only [List.all_cons, Bool.and_eq_true] at hN
  obtain ⟨e, u, hs, hd, he⟩ : ∃ e u, P.underlying src = some u ∧ P.underlying dst = some (.slice e) ∧ P.underlying e = some (.int .u8) := by
    split at hsd
    · rename_i e he
      simp only [Bool.and_eq_true] at hsd
      obtain ⟨h1, h2⟩ := hsd
      unfold isStrT at h1
      unfold isU8 at h2
      split at h1
      · split at h2
        · exact ⟨e, _, by assumption, elemT_some he, by assumption⟩
        · cases h2
      · cases h1
    · cases hsd
  obtain ⟨v, w', G', hv, hE, hS, hav⟩ := strBytes_sound (P := P) hR.s s hs hd he
  unfold wpListIn
  rw [if_pos (wantedA_sound hR hw)]
  refine ⟨fun _ _ => trivial, ?_⟩
  rw [Oper.semAt_eq _ _ _ (fun c e => by rw [ho] at e; cases e)]
  have hrun : (execOp a.eval o).run P w = .ok (.value v) w' := by
    unfold execOp
    rw [ho]
    have hc : a.eval (.const (.string s)) = .string s := rfl
    simp only [hc, Sem.run_bind, hv, Result.andThen_ok, Sem.run_pure]
  rw [hrun]
  exact runL_eval hN.2 k G' w' (a.put o.dst v) R (hR.put hE hS hN.1 hav) (fun ρ' σ' G2 a' w2 hq hE2 hR2 => hK ρ' σ' G2 a' w2 hq (hE.trans hE2) hR2)

end
end Go.Vm
