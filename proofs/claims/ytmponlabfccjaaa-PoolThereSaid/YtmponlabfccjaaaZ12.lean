import Derived.Test.YtmponlabfccjaaaZ10
import Derived.Laws.Externs
/-
  Calls of functions that have no body here.
-/
namespace Go.Vm
set_option linter.unnecessarySimpa false
set_option linter.unusedSimpArgs false
set_option linter.unusedVariables false
open Go

def ExtA (P : Program) (f : FuncId) (args : List AV) (σ : St) (Q : AV → St → Prop) : Prop :=
  ∀ G w (vs : Array Value), RelS G w σ → vs.size = args.length → (∀ (j : Nat) x b, vs[j]? = some x → args[j]? = some b → AVR G w x b) →
    ∃ v av, (callFunc f vs).run P w = .ok (.value v) w ∧ AVR G w v av ∧ Q av σ

section
variable {z : Zone} {P : Program} {N : Nat} {ρ : Nat → AV} {σ : St} {ops : Array Oper} {rest : List Oper} {o : Oper} {K : (Nat → AV) → St → Prop}

theorem run_ext {f : FuncId} {args : List AV} {Qc : AV → St → Prop} {G : Gh} {w : World} {a : Act} (hR : Rel N G w ρ σ a) (ho : callOf ρ σ o.op = some (f, args)) (c : ExtA P f args σ Qc) :
    ∃ v av, (execOp a.eval o).run P w = .ok (.value v) w ∧ AVR G w v av ∧ Qc av σ := by
  unfold callOf at ho
  split at ho
  · rename_i c' hop
    split at ho
    · rename_i x hx
      split at ho
      · rename_i f' caps args' hf ha
        cases ho
        have hfv := evalA_sound hR.s hR.env hf
        obtain ⟨hl, hr⟩ := forall2_get (evalAll_sound hR.s hR.env ha)
        cases hev : a.eval x with
        | func fn first caps' =>
          rw [hev] at hfv
          cases hfv with
          | fn hcl hcr =>
          obtain ⟨v, av, h1, h2, h3⟩ := c G w (c'.args.map a.eval ++ caps') hR.s (by simpa [hcl] using hl) (fun j y b hj hb => by
            by_cases h1 : j < c'.args.size
            · rw [Array.getElem?_append_left (by simpa using h1)] at hj
              rw [List.getElem?_append_left (by simp at hl; omega)] at hb
              refine hr j y b ?_ hb
              have : (c'.args.map a.eval).toList[j]? = some y := by simpa using hj
              simpa using this
            · rw [Array.getElem?_append_right (by simpa using h1)] at hj
              rw [List.getElem?_append_right (by simp at hl; omega)] at hb
              simp only [Array.size_map] at hj
              have e : c'.args.size = args'.length := by simpa using hl
              rw [e] at hj
              exact hcr _ y b hj hb)
          refine ⟨v, av, ?_, h2, h3⟩
          unfold execOp
          rw [hop]
          simp only [resolve, hx, hev, Deferred.ofValue, Sem.run_bind, Sem.run_pure, Result.andThen_ok, invoke]
          rw [Array.empty_append] at *
          exact h1
        | _ => rw [hev] at hfv; cases hfv
      · cases ho
    · cases ho
  · cases ho

theorem ce {f : FuncId} {args : List AV} {Qc : AV → St → Prop} (hw : wantedA ops o ρ = some true := by first | rfl | (simp [F, wantedA]; done))
    (ho : callOf ρ σ o.op = some (f, args) := by first | rfl | (simp [F, callOf]; done)) (c : ExtA P f args σ Qc) (k : ∀ av σ', Qc av σ' → σ' = σ → evalL z P N ops rest (putA ρ o.dst av) σ' K) (hN : ((o :: rest).all fun o => inN N o.dst) = true := by rfl) : RunL z P N ops (o :: rest) ρ σ K := by
  intro G w a R hR hK
  simp only [List.all_cons, Bool.and_eq_true] at hN
  obtain ⟨v, av, h1, h2, h3⟩ := run_ext hR ho c
  have ho' : ∃ c', o.op = .call c' := by
    unfold callOf at ho
    split at ho
    · exact ⟨_, by assumption⟩
    · cases ho
  obtain ⟨c', hop⟩ := ho'
  unfold wpListIn
  rw [if_pos (wantedA_sound hR hw)]
  refine ⟨fun _ _ => trivial, ?_⟩
  rw [show Oper.semAt z.F.round a.eval o = execOp a.eval o from Oper.semAt_eq _ _ _ (fun c e => by rw [hop] at e; cases e)]
  rw [h1]
  exact runL_eval hN.2 (k av σ h3 rfl) G w (a.put o.dst v) R (hR.put (.refl _ _) hR.s hN.1 h2) hK
end

end Go.Vm
