import Derived.Test.YtmponlabfccjaaaZ10
import Derived.Laws.Externs
/-
  Calls of functions that have no body here.
-/
namespace Go.Vm
set_option linter.unnecessarySimpa false
set_option linter.unusedSimpArgs false
set_option linter.unusedVariables false
open Go

def ExtA (P : Program) (f : FuncId) (args : List AV) (σ : St) (Q : AV → St → Prop) : Prop :=
  ∀ G w (vs : Array Value), RelS G w σ → vs.size = args.length → (∀ (j : Nat) x b, vs[j]? = some x → args[j]? = some b → AVR G w x b) →
    ∃ v av, (callFunc f vs).run P w = .ok (.value v) w ∧ AVR G w v av ∧ Q av σ

section
variable {z : Zone} {P : Program} {N : Nat} {ρ : Nat → AV} {σ : St} {ops : Array Oper} {rest : List Oper} {o : Oper} {K : (Nat → AV) → St → Prop}

theorem run_ext {f : FuncId} {args : List AV} {Qc : AV → St → Prop} {G : Gh} {w : World} {a : Act} (hR : Rel N G w ρ σ a) (ho : callOf ρ σ o.op = some (f, args)) (c : ExtA P f args σ Qc) :
    ∃ v av, (execOp a.eval o).run P w = .ok (.value v) w ∧ AVR G w v av ∧ Qc av σ := by
  unfold callOf at ho
  split at ho
  · rename_i c' hop
    split at ho
    · rename_i x hx
      split at ho
      · rename_i f' caps args' hf ha
        cases ho
        have hfv := evalA_sound hR.s hR.env hf
        obtain ⟨hl, hr⟩ := forall2_get (evalAll_sound hR.s hR.env ha)
        cases hev : a.eval x with
        | func fn first caps' =>
          rw [hev] at hfv
          cases hfv with
          | fn hcl hcr =>
          obtain ⟨v, av, h1, h2, h3⟩ := c G w (c'.args.map a.eval ++ caps') hR.s (by simpa [hcl] using hl) (fun j y b hj hb => by
            by_cases h1 : j < c'.args.size
            · rw [Array.getElem?_append_left (by simpa using h1)] at hj
              rw [List.getElem?_append_left (by simp at hl; omega)] at hb
              refine hr j y b ?_ hb
              have : (c'.args.map a.eval).toList[j]? = some y := by simpa using hj
              simpa using this
            · rw [Array.getElem?_append_right (by simpa using h1)] at hj
              rw [List.getElem?_append_right (by simp at hl; omega)] at hb
              simp only [Array.size_map] at hj
              have e : c'.args.size = args'.length := by simpa using hl
              rw [e] at hj
              exact hcr _ y b hj hb)
          refine ⟨v, av, ?_, h2, h3⟩
          unfold execOp
          rw [hop]
          simp only [resolve, hx, hev, Deferred.ofValue, Sem.run_bind, Sem.run_pure, Result.andThen_ok, invoke]
          rw [Array.empty_append] at *
          exact h1
        | _ => rw [hev] at hfv; cases hfv
      · cases ho
    · cases ho
  · cases ho

theorem ce {f : FuncId} {args : List AV} {Qc : AV → St → Prop} (hw : wantedA ops o ρ = some true := by first | rfl | (simp [F, wantedA]; done))
    (ho : callOf ρ σ o.op = some (f, args) := by first | rfl | (simp [F, callOf]; done)) (c : ExtA P f args σ Qc) (k : ∀ av σ', Qc av σ' → σ' = σ → evalL z P N ops rest (putA ρ o.dst av) σ' K) (hN : ((o :: rest).all fun o => inN N o.dst) = true := by rfl) : RunL z P N ops (o :: rest) ρ σ K := by
  intro G w a R hR hK
  simp only [List.all_cons, Bool.and_eq_true] at hN
  obtain ⟨v, av, h1, h2, h3⟩ := run_ext hR ho c
  have ho' : ∃ c', o.op = .call c' := by
    unfold callOf at ho
    split at ho
    · exact ⟨_, by assumption⟩
    · cases ho
  obtain ⟨c', hop⟩ := ho'
  unfold wpListIn
  rw [if_pos (wantedA_sound hR hw)]
  refine ⟨fun _ _ => trivial, ?_⟩
  rw [show Oper.semAt z.F.round a.eval o = execOp a.eval o from Oper.semAt_eq _ _ _ (fun c e => by rw [hop] at e; cases e)]
  rw [h1]
  exact runL_eval hN.2 (k av σ h3 rfl) G w (a.put o.dst v) R (hR.put (.refl _ _) hR.s hN.1 h2) hK
theorem de {S D : List Nat} {ρ0 : Nat → AV} (i : Nat) {o : Oper} {f : FuncId} {args : List AV} {Qc : AV → St → Prop} (ho : ops[i]? = some o)
    (hw : wantedA ops o ρ = some true := by first | rfl | (simp [F]; done)) (hv : callOf ρ σ o.op = some (f, args) := by first | rfl | (simp [F]; done)) (c : ExtA P f args σ Qc)
    (k : ∀ av σ', Qc av σ' → σ' = σ → RunD z P N ops (i :: S) (later D o) ρ0 (putA ρ o.dst av) σ' K)
    (hb : (acyclic ops && (ops.toList.all fun o => inN N o.dst) && ready ops S i && ((List.range ops.size).all fun j => j == i || !ready ops S j) && (match o.dst with | some x => fresh ops (later D o) x | none => true) && covers ops D o) = true := by kernel_rfl) : RunD z P N ops S D ρ0 ρ σ K := by
  simp only [Bool.and_eq_true] at hb
  obtain ⟨⟨⟨⟨⟨h1, h2⟩, h3⟩, h4⟩, h5⟩, h6⟩ := hb
  refine runD_core i (K := fun a s => Qc a s ∧ s = σ) h1 h2 h3 ho h4 h5 h6 (fun ρr hag G w a R R' hR hK => ?_) (fun a s ⟨e1, e2⟩ => ⟨fun _ _ h => e2 ▸ h, k a s e1 e2⟩)
  have hv' : callOf ρr σ o.op = some (f, args) := by rw [callOf_congr (fun t ht => hag t (looksAt_op ht))]; exact hv
  obtain ⟨v, av, g1, g2, g3⟩ := run_ext hR hv' c
  have hop : ∃ c', o.op = .call c' := by
    unfold callOf at hv'
    split at hv'
    · exact ⟨_, by assumption⟩
    · cases hv'
  obtain ⟨c', hop⟩ := hop
  unfold wpOpIn
  simp only [ho]
  rw [if_pos (wantedA_sound hR ((wantedA_congr hag).trans hw))]
  refine ⟨fun _ _ => trivial, ?_⟩
  rw [show Oper.semAt z.F.round a.eval o = execOp a.eval o from Oper.semAt_eq _ _ _ (fun c e => by rw [hop] at e; cases e)]
  rw [g1]
  exact hK av σ G w v ⟨g3, rfl⟩ (.refl _ _) hR.s g2
end

def sub64E : Array Value → Sem Value := fun args => do
  let (x, y, b) ← Extern.MathBitsCarry.three "Sub64" args
  pure (Extern.MathBitsCarry.pair ((x + Extern.MathBitsCarry.m64 - y - b) % Extern.MathBitsCarry.m64) (if x < y + b then 1 else 0))

theorem args3 {G : Gh} {w : World} {vs : Array Value} {x y z : Value} (hl : vs.size = 3) (h : ∀ (j : Nat) v b, vs[j]? = some v → ([.v x, .v y, .v z] : List AV)[j]? = some b → AVR G w v b) : vs = #[x, y, z] := by
  apply Array.ext
  · simpa using hl
  · intro i h1 h2
    have h3 : i = 0 ∨ i = 1 ∨ i = 2 := by simp at h2; omega
    rcases h3 with rfl | rfl | rfl
    · exact (h 0 _ _ (Array.getElem?_eq_getElem h1) rfl).v_eq
    · exact (h 1 _ _ (Array.getElem?_eq_getElem h1) rfl).v_eq
    · exact (h 2 _ _ (Array.getElem?_eq_getElem h1) rfl).v_eq

theorem add64_ext {P : Program} {σ : St} {f : FuncId} {fn : Func} {x y c : Nat} (hf : P.funcs[f]? = some fn) (hname : (fn.name == "runtime.NumGoroutine") = false) (hb : fn.body.isNone = true) (hn : Extern.findNext fn = none) (he : Extern.find fn = some add64Entry) (hc : c ≤ 1) :
    ExtA P f [.v (.int .u64 x), .v (.int .u64 y), .v (.int .u64 c)] σ (fun av _ => ∃ s c' : Nat, s = (x + y + c) % 18446744073709551616 ∧ c' = (x + y + c) / 18446744073709551616 ∧ av = .tup [.v (.int .u64 s), .v (.int .u64 c')]) := by
  intro G w vs hS hl hr
  rw [args3 hl hr]
  refine ⟨.tuple #[.int .u64 (((x + y + c) % 18446744073709551616 : Nat) : Int), .int .u64 (((x + y + c) / 18446744073709551616 : Nat) : Int)], _, ?_, ?_, _, _, rfl, rfl, rfl⟩
  · rw [run_callFunc_extern hf hname hb hn he, run_add64 x y c (by omega) (by omega) (by omega) (by omega)]
    simp only [Result.andThen]
    congr 5 <;> omega
  · refine .tup rfl (fun j a b ha hb => ?_)
    match j with
    | 0 => simp only [List.getElem?_cons_zero, Option.some.injEq] at hb; subst hb; simp only [List.getElem?_toArray, List.getElem?_cons_zero, Option.some.injEq] at ha; subst ha; exact .v rfl
    | 1 => simp only [List.getElem?_cons_succ, List.getElem?_cons_zero, Option.some.injEq] at hb; subst hb; simp only [List.getElem?_toArray, List.getElem?_cons_succ, List.getElem?_cons_zero, Option.some.injEq] at ha; subst ha; exact .v rfl
    | j + 2 => simp at ha

theorem sub64_ext {P : Program} {σ : St} {f : FuncId} {fn : Func} {x y c : Nat} (hf : P.funcs[f]? = some fn) (hname : (fn.name == "runtime.NumGoroutine") = false) (hb : fn.body.isNone = true) (hn : Extern.findNext fn = none) (he : Extern.find fn = some sub64E) (hc : c ≤ 1) :
    ExtA P f [.v (.int .u64 x), .v (.int .u64 y), .v (.int .u64 c)] σ (fun av _ => ∃ s c' : Nat, s = (x + 18446744073709551616 - y - c) % 18446744073709551616 ∧ c' = (if x < y + c then 1 else 0) ∧ av = .tup [.v (.int .u64 s), .v (.int .u64 c')]) := by
  intro G w vs hS hl hr
  rw [args3 hl hr]
  refine ⟨.tuple #[.int .u64 (((x + 18446744073709551616 - y - c) % 18446744073709551616 : Nat) : Int), .int .u64 ((if x < y + c then 1 else 0 : Nat) : Int)], _, ?_, ?_, _, _, rfl, rfl, rfl⟩
  · rw [run_callFunc_extern hf hname hb hn he]
    have : c = 0 ∨ c = 1 := by omega
    rcases this with rfl | rfl <;> rfl
  · refine .tup rfl (fun j a b ha hb => ?_)
    match j with
    | 0 => simp only [List.getElem?_cons_zero, Option.some.injEq] at hb; subst hb; simp only [List.getElem?_toArray, List.getElem?_cons_zero, Option.some.injEq] at ha; subst ha; exact .v rfl
    | 1 => simp only [List.getElem?_cons_succ, List.getElem?_cons_zero, Option.some.injEq] at hb; subst hb; simp only [List.getElem?_toArray, List.getElem?_cons_succ, List.getElem?_cons_zero, Option.some.injEq] at ha; subst ha; exact .v rfl
    | j + 2 => simp at ha

end Go.Vm
