import Derived.Test.YtmponlabfccjaaaZ3
import Derived.Tactics
import Derived.Scope
import Derived.ScopeJumps
import Derived.RangeFuncFrom
import Derived.TacticsIn
import Derived.RangeFuncLeaves
/-
  How code runs over plain lists: one rule for each form.
-/
namespace Go.Vm
set_option linter.unnecessarySimpa false
set_option linter.unusedSimpArgs false
set_option linter.unusedVariables false
open Go

def putA (ρ : Nat → AV) (d : Option Tmp) (x : AV) : Nat → AV :=
  match d with
  | some d => fun i => if i = d then x else ρ i
  | none => ρ

def inN (N : Nat) : Option Tmp → Bool
  | some d => decide (d < N)
  | none => true

def wantedA (ops : Array Oper) (o : Oper) (ρ : Nat → AV) : Option Bool :=
  match o.guard with
  | none => some true
  | some (j, want) => match (ops[j]?).bind (·.dst) with
    | some d => match ρ d with
      | .v (.bool b) => some (b == want)
      | .v (.tuple _) => some false
      | _ => none
    | none => some false

structure Zone where
  ro : Option Nat
  n : Nat

def Zone.F (z : Zone) : Fence := { Fence.wide with round := z.ro }

theorem zone_call {z : Zone} {n : Nat} {P : Program} {f : FuncId} {args : Array Value} {w : World} {R : Ending → World → Prop} (h : Calls P f args w R) : CallsIn z.F n P f args w R :=
  show CallsIn Fence.wide n P f args w R from callsIn_wide.2 h

theorem zone_semAt {z : Zone} {P : Program} {ρ : Nat → AV} {σ : St} {g : Operand → Value} {o : Oper} {r : AV × St} (h : opA P ρ σ o.op = some r) : Oper.semAt z.F.round g o = execOp g o :=
  Oper.semAt_eq _ g o (fun c e => by rw [e] at h; simp [opA] at h)

def Run (z : Zone) (P : Program) (N : Nat) (c : Code) (ρ : Nat → AV) (σ : St) (Q : Exit → (Nat → AV) → St → Prop) : Prop :=
  ∀ G w a (R : Exit → Act → World → Prop), Rel N G w ρ σ a → (∀ e ρ' σ' G' a' w', Q e ρ' σ' → Ext G w G' w' → Rel N G' w' ρ' σ' a' → R e a' w') → c.wpIn z.F z.n P R a w

def RunL (z : Zone) (P : Program) (N : Nat) (ops : Array Oper) (l : List Oper) (ρ : Nat → AV) (σ : St) (Q : (Nat → AV) → St → Prop) : Prop :=
  ∀ G w a (R : Exit → Act → World → Prop), Rel N G w ρ σ a → (∀ ρ' σ' G' a' w', Q ρ' σ' → Ext G w G' w' → Rel N G' w' ρ' σ' a' → R .normal a' w') → wpListIn z.F z.n P ops R l a w

def CallsA (P : Program) (f : FuncId) (args : List AV) (σ : St) (Q : AV → St → Prop) : Prop :=
  ∀ G w (vs : Array Value) (R : Ending → World → Prop), RelS G w σ → vs.size = args.length → (∀ (j : Nat) x b, vs[j]? = some x → args[j]? = some b → AVR G w x b) →
    (∀ v av σ' G' w', Q av σ' → Ext G w G' w' → RelS G' w' σ' → AVR G' w' v av → R (.returned v) w') → Calls P f vs w R

section
variable {z : Zone} {P : Program} {N : Nat} {ρ : Nat → AV} {σ : St}

theorem Rel.put {G : Gh} {w : World} {a : Act} (h : Rel N G w ρ σ a) {G' : Gh} {w' : World} {σ' : St} (hE : Ext G w G' w') (hS : RelS G' w' σ') {d : Option Tmp} (hd : inN N d = true) {v : Value} {x : AV} (hv : AVR G' w' v x) : Rel N G' w' (putA ρ d x) σ' (a.put d v) := by
  cases d with
  | none => exact ⟨hS, ⟨h.defers.1.mono hE, by first | exact h.defers.2.1 | simpa [Act.put] using h.defers.2.1, by rw [hE.base]; exact Nat.le_trans h.defers.2.2 hE.size⟩, h.size, fun i => (h.env i).mono hE⟩
  | some d =>
    have hd' : d < N := by simpa [inN] using hd
    refine ⟨hS, ⟨h.defers.1.mono hE, by first | exact h.defers.2.1 | simpa [Act.put] using h.defers.2.1, by rw [hE.base]; exact Nat.le_trans h.defers.2.2 hE.size⟩, by simpa [Act.put] using h.size, fun i => ?_⟩
    show AVR G' w' ((a.tmps.setIfInBounds d v).getD i undef) (if i = d then x else ρ i)
    by_cases hi : i = d
    · subst hi
      rw [if_pos rfl]
      have : i < a.tmps.size := by rw [h.size]; exact hd'
      simpa [Array.getD, this] using hv
    · rw [if_neg hi]
      have e : (a.tmps.setIfInBounds d v).getD i undef = a.tmps.getD i undef := by
        simp only [Array.getD_eq_getD_getElem?, Array.getElem?_setIfInBounds]
        rw [if_neg (Ne.symm hi)]
      rw [e]; exact (h.env i).mono hE

theorem wantedA_sound {G : Gh} {w : World} {a : Act} (h : Rel N G w ρ σ a) {ops : Array Oper} {o : Oper} {b : Bool} (hw : wantedA ops o ρ = some b) : Region.wanted o (yielded ops a.tmps) = b := by
  unfold wantedA at hw
  unfold Region.wanted
  split at hw
  · rename_i hg; rw [hg]; simpa using hw
  · rename_i j want hg
    rw [hg]
    simp only
    unfold yielded
    split at hw
    · rename_i d hd
      rw [hd]
      simp only [Option.bind_some]
      have henv := h.env d
      split at hw
      · rename_i c hc
        cases hw
        rw [hc] at henv
        have hv := henv.v_eq
        have hlt : d < a.tmps.size := by
          apply Classical.byContradiction
          intro hn
          rw [Array.getD_eq_getD_getElem?, Array.getElem?_eq_none (Nat.not_lt.1 hn)] at hv
          cases hv
        rw [Array.getD_eq_getD_getElem?, Array.getElem?_eq_getElem hlt] at hv
        rw [Array.getElem?_eq_getElem hlt]
        simp only [Option.getD_some] at hv
        rw [hv]
        cases c <;> cases want <;> rfl
      · rename_i vs hc
        cases hw
        rw [hc] at henv
        have hv := henv.v_eq
        by_cases hlt : d < a.tmps.size
        · rw [Array.getD_eq_getD_getElem?, Array.getElem?_eq_getElem hlt] at hv
          rw [Array.getElem?_eq_getElem hlt]
          simp only [Option.getD_some] at hv
          rw [hv]; rfl
        · rw [Array.getElem?_eq_none (Nat.not_lt.1 hlt)]; rfl
      · cases hw
    · rename_i hd
      cases hw
      rw [hd]; rfl

section ops
variable {ops : Array Oper} {rest : List Oper} {o : Oper} {Q : (Nat → AV) → St → Prop}

theorem runL_nil (h : Q ρ σ) : RunL z P N ops [] ρ σ Q := fun G w _ _ hR hK => hK ρ σ G _ w h (.refl _ _) hR

theorem runL_op {av : AV} {σ' : St} (hw : wantedA ops o ρ = some true) (hd : inN N o.dst = true) (h : opA P ρ σ o.op = some (av, σ')) (k : RunL z P N ops rest (putA ρ o.dst av) σ' Q) : RunL z P N ops (o :: rest) ρ σ Q := by
  intro G w a R hR hK
  obtain ⟨nx, v, w', G', hr, hn, hE, hS, hv⟩ := op_sound (P := P) hR.s hR.env h
  unfold wpListIn
  rw [if_pos (wantedA_sound hR hw)]
  refine ⟨fun _ _ => trivial, ?_⟩
  rw [zone_semAt h, hr]
  have key := k G' w' (a.put o.dst v) R (hR.put hE hS hd hv) (fun ρ' σ' G2 a' w2 hq hE2 hR2 => hK ρ' σ' G2 a' w2 hq (hE.trans hE2) hR2)
  rcases hn with rfl | ⟨rfl, rfl⟩
  · exact key
  · exact key

theorem runL_skip (hw : wantedA ops o ρ = some false) (hd : inN N o.dst = true) (k : RunL z P N ops rest (putA ρ o.dst undefA) σ Q) : RunL z P N ops (o :: rest) ρ σ Q := by
  intro G w a R hR hK
  unfold wpListIn
  rw [if_neg (by rw [wantedA_sound hR hw]; simp)]
  exact ⟨fun _ _ => trivial, k G w (a.put o.dst undef) R (hR.put (.refl _ _) hR.s hd (.v rfl)) hK⟩

def callable (P : Program) (f : FuncId) : Bool :=
  match P.funcs[f]? with
  | some fn => fn.name != "runtime.NumGoroutine" && fn.body.isSome
  | none => false

theorem run_callFunc {f : FuncId} {args : Array Value} {w : World} (h : callable P f = true) : (callFunc f args).run P w = .ok (.enter f args) w := by
  unfold callable at h
  split at h
  · rename_i fn hf
    simp only [Bool.and_eq_true, bne_iff_ne, ne_eq] at h
    obtain ⟨h1, h2⟩ := h
    unfold callFunc
    simp only [Sem.run_bind, run_program, Result.andThen_ok, hf]
    rw [if_neg (by simpa using h1), if_neg (by simpa [Option.isNone_iff_eq_none, Option.isSome_iff_ne_none] using h2)]
    rfl
  · cases h

theorem runL_call {c : Call} {x : Operand} {f : FuncId} {caps args : List AV} {Qc : AV → St → Prop} (hw : wantedA ops o ρ = some true) (hd : inN N o.dst = true) (ho : o.op = .call c) (hc : c.callee = .value x)
    (hf : evalA ρ σ x = some (.fn f caps)) (ha : evalAll ρ σ c.args.toList = some args) (hcb : callable P f = true) (hcall : CallsA P f (args ++ caps) σ Qc)
    (k : ∀ av σ', Qc av σ' → RunL z P N ops rest (putA ρ o.dst av) σ' Q) : RunL z P N ops (o :: rest) ρ σ Q := by
  intro G w a R hR hK
  have hfv := evalA_sound hR.s hR.env hf
  obtain ⟨hl, hr⟩ := forall2_get (evalAll_sound hR.s hR.env ha)
  unfold wpListIn
  rw [if_pos (wantedA_sound hR hw)]
  refine ⟨fun _ _ => trivial, ?_⟩
  rw [show Oper.semAt z.F.round a.eval o = execOp a.eval o from Oper.semAt_eq _ _ _ (fun c e => by rw [ho] at e; cases e)]
  cases hev : a.eval x with
  | func fn first caps' =>
    rw [hev] at hfv
    cases hfv with
    | fn hcl hcr =>
    have hrun : (execOp a.eval o).run P w = .ok (.enter f (c.args.map a.eval ++ caps')) w := by
      unfold execOp
      rw [ho]
      simp only [resolve, hc, hev, Deferred.ofValue, Sem.run_bind, Sem.run_pure, Result.andThen_ok, invoke]
      rw [run_callFunc hcb]
      simp
    rw [hrun]
    refine ⟨fun h => (by cases h), zone_call (hcall G w _ _ hR.s (by simpa [hcl] using hl) (fun j y b hj hb => ?_) (fun v av σ' G' w' hq hE hS hv => ?_))⟩
    · by_cases h1 : j < c.args.size
      · rw [Array.getElem?_append_left (by simpa using h1)] at hj
        rw [List.getElem?_append_left (by simp at hl; omega)] at hb
        refine hr j y b ?_ hb
        have : (c.args.map a.eval).toList[j]? = some y := by simpa using hj
        simpa using this
      · rw [Array.getElem?_append_right (by simpa using h1)] at hj
        rw [List.getElem?_append_right (by simp at hl; omega)] at hb
        simp only [Array.size_map] at hj
        have e : c.args.size = args.length := by simpa using hl
        rw [e] at hj
        exact hcr _ y b hj hb
    · exact k av σ' hq G' w' (a.put o.dst v) R (hR.put hE hS hd hv) (fun ρ' σ2 G2 a' w2 hq2 hE2 hR2 => hK ρ' σ2 G2 a' w2 hq2 (hE.trans hE2) hR2)
  | _ => rw [hev] at hfv; cases hfv

end ops

section codes

variable {Q : Exit → (Nat → AV) → St → Prop}

theorem run_region {id : Nat} {l : List Oper} (h : RunL z P N l.toArray l ρ σ (Q .normal)) : Run z P N (.region id l.toArray false) ρ σ Q := by
  intro G w a R hR hK
  exact wpIn_region_lit (h G w a R hR (fun ρ' σ' G' a' w' hq => hK .normal ρ' σ' G' a' w' hq))

theorem run_seq {x y : Code} (h : Run z P N x ρ σ (fun e ρ' σ' => match e with | .normal => Run z P N y ρ' σ' Q | e => Q e ρ' σ')) : Run z P N (.seq x y) ρ σ Q := by
  intro G w a R hR hK
  apply wpIn_seq
  refine h G w a _ hR (fun e ρ' σ' G' a' w' hq hE hR' => ?_)
  cases e with
  | normal => exact hq G' w' a' R hR' (fun e2 ρ2 σ2 G2 a2 w2 hq2 hE2 hR2 => hK e2 ρ2 σ2 G2 a2 w2 hq2 (hE.trans hE2) hR2)
  | _ => exact hK _ ρ' σ' G' a' w' hq hE hR'

theorem run_cond {c : Operand} {x y : Code} {t : Bool} (hc : evalA ρ σ c = some (.v (.bool t))) (h : Run z P N (if t then x else y) ρ σ Q) : Run z P N (.cond c x y) ρ σ Q := by
  intro G w a R hR hK
  exact wpIn_cond (evalA_sound hR.s hR.env hc).v_eq (h G w a R hR hK)

theorem run_cond_true {c : Operand} {x y : Code} (hc : evalA ρ σ c = some (.v (.bool true))) (h : Run z P N x ρ σ Q) : Run z P N (.cond c x y) ρ σ Q := run_cond hc h
theorem run_cond_false {c : Operand} {x y : Code} (hc : evalA ρ σ c = some (.v (.bool false))) (h : Run z P N y ρ σ Q) : Run z P N (.cond c x y) ρ σ Q := run_cond hc h
theorem run_cond_split {c : Operand} {x y : Code} {t : Bool} (hc : evalA ρ σ c = some (.v (.bool t))) (h1 : t = true → Run z P N x ρ σ Q) (h2 : t = false → Run z P N y ρ σ Q) : Run z P N (.cond c x y) ρ σ Q := by
  cases t
  · exact run_cond hc (h2 rfl)
  · exact run_cond hc (h1 rfl)

theorem run_skip (h : Q .normal ρ σ) : Run z P N .skip ρ σ Q := fun G w a _ hR hK => wpIn_skip (hK .normal ρ σ G a w h (.refl _ _) hR)
theorem run_exit {id : Nat} (h : Q (.exit id) ρ σ) : Run z P N (.exit id) ρ σ Q := fun G w a _ hR hK => wpIn_exit (hK (.exit id) ρ σ G a w h (.refl _ _) hR)
theorem run_ret (h : Q .ret ρ σ) : Run z P N .ret ρ σ Q := fun G w a _ hR hK => wpIn_ret (hK .ret ρ σ G a w h (.refl _ _) hR)

theorem run_block {id : Nat} {c : Code} (h : Run z P N c ρ σ (fun e ρ' σ' => match e with | .exit i => if i = id then Q .normal ρ' σ' else Q (.exit i) ρ' σ' | e => Q e ρ' σ')) : Run z P N (.block id c) ρ σ Q := by
  intro G w a R hR hK
  apply wpIn_block
  refine h G w a _ hR (fun e ρ' σ' G' a' w' hq hE hR' => ?_)
  cases e with
  | exit i =>
    show if i = id then R .normal a' w' else R (.exit i) a' w'
    by_cases hi : i = id
    · rw [if_pos hi]
      simp only [hi, if_true] at hq
      exact hK _ ρ' σ' G' a' w' hq hE hR'
    · rw [if_neg hi]
      simp only [hi, if_false] at hq
      exact hK _ ρ' σ' G' a' w' hq hE hR'
  | _ => exact hK _ ρ' σ' G' a' w' hq hE hR'

def Turns (N : Nat) (σ0 : St) (T : (Nat → AV) → St → (Nat → AV) → St → Prop) : Prop :=
  ∀ G0 w0 G w (a : Act) ρ σ ρ2 σ2, RelS G0 w0 σ0 → Ext G0 w0 G w → Rel N G w ρ σ a → T ρ σ ρ2 σ2 → ∃ G2, Ext G0 w0 G2 w ∧ Rel N G2 w ρ2 σ2 a

theorem turns_id (N : Nat) (σ0 : St) : Turns N σ0 (fun ρ σ ρ2 σ2 => ρ2 = ρ ∧ σ2 = σ) := fun G0 w0 G w a ρ σ ρ2 σ2 _ hE hR h => by
  obtain ⟨rfl, rfl⟩ := h
  exact ⟨G, hE, hR⟩

theorem run_loopT {c : Code} {X : Type} {T : (Nat → AV) → St → (Nat → AV) → St → Prop} (hT : Turns N σ T) (I : X → (Nat → AV) → St → Prop) (μ : X → Nat) (x0 : X) (h0 : I x0 ρ σ)
    (round : ∀ x ρ σ, I x ρ σ → Run z P N c ρ σ (fun e ρ' σ' => match e with | .normal => ∃ y ρ2 σ2, T ρ' σ' ρ2 σ2 ∧ I y ρ2 σ2 ∧ μ y < μ x | e => Q e ρ' σ')) : Run z P N (.loop c) ρ σ Q := by
  intro G0 w0 a0 R hR0 hK
  have key : ∀ n, ∀ a w, (∃ x ρ σ G, I x ρ σ ∧ Ext G0 w0 G w ∧ Rel N G w ρ σ a ∧ μ x = n) → ∀ (b : Frame) (k : List Item) (cs : List Frame), b.roundOf = z.F.round → z.F.fn b.fn → z.F.room (cs.length + 1 + z.n) → ∃ e a' w', R e a' w' ∧ ArrivesIn (Machine.fenced P z.F) P (lone (b.atR a (.code c :: .inLoop c :: k)) cs w) b k cs e a' w' := by
    intro n
    induction n using Nat.strongRecOn with
    | _ n ih =>
      rintro a w ⟨x, ρ, σ, G, hI, hE, hR, hn⟩ b k cs hro hb hr
      obtain ⟨e, a', w', hq, harr⟩ := round x ρ σ hI G w a (fun e a' w' => match e with | .normal => (∀ (b : Frame) (k : List Item) (cs : List Frame), b.roundOf = z.F.round → z.F.fn b.fn → z.F.room (cs.length + 1 + z.n) → ∃ e2 a2 w2, R e2 a2 w2 ∧ ArrivesIn (Machine.fenced P z.F) P (lone (b.atR a' (.code c :: .inLoop c :: k)) cs w') b k cs e2 a2 w2) | e => R e a' w') hR (fun e ρ' σ' G' a' w' hq hE' hR' => by
        cases e with
        | normal =>
          obtain ⟨y, ρ2, σ2, ht, hy, hlt⟩ := hq
          obtain ⟨G2, hE2, hR2⟩ := hT G0 w0 G' w' a' ρ' σ' ρ2 σ2 hR0.s (hE.trans hE') hR' ht
          exact ih (μ y) (by omega) a' w' ⟨y, ρ2, σ2, G2, hy, hE2, hR2, rfl⟩
        | _ => exact hK _ ρ' σ' G' a' w' hq (hE.trans hE') hR') b (.inLoop c :: k) cs hro hb hr
      cases e with
      | normal =>
        obtain ⟨e2, a2, w2, hq2, harr2⟩ := hq b k cs hro hb hr
        exact ⟨e2, a2, w2, hq2, .of_steps (StepsIn.trans harr (.one (fenced_calm hb hr rfl) stepR_inLoop)) harr2⟩
      | exit i => exact ⟨_, a', w', hq, .pass (x := .inLoop c) rfl (fun _ _ => .inl (by simp)) harr⟩
      | goto l => exact ⟨_, a', w', hq, .pass (x := .inLoop c) rfl (fun _ _ => .inl (by simp)) harr⟩
      | ret => exact ⟨_, a', w', hq, .pass (x := .inLoop c) rfl (fun _ _ => .inl (by simp)) harr⟩
      | panic ch => exact ⟨_, a', w', hq, .pass (x := .inLoop c) rfl (fun _ _ => .inl (by simp)) harr⟩
      | outgrown => exact ⟨_, a', w', hq, .pass (x := .inLoop c) rfl (fun _ _ => .inl (by simp)) harr⟩
  intro b k cs hro hb hr
  obtain ⟨e, a', w', hq, harr⟩ := key _ a0 w0 ⟨x0, ρ, σ, G0, h0, .refl _ _, hR0, rfl⟩ b k cs hro hb hr
  exact ⟨e, a', w', hq, .of_steps (.one (fenced_calm hb hr rfl) stepR_loop) harr⟩

theorem run_loop {c : Code} {X : Type} (I : X → (Nat → AV) → St → Prop) (μ : X → Nat) (x0 : X) (h0 : I x0 ρ σ)
    (round : ∀ x ρ σ, I x ρ σ → Run z P N c ρ σ (fun e ρ' σ' => match e with | .normal => ∃ y, I y ρ' σ' ∧ μ y < μ x | e => Q e ρ' σ')) : Run z P N (.loop c) ρ σ Q :=
  run_loopT (turns_id N σ) I μ x0 h0 (fun x ρ1 σ1 hI G w a R hR hK => round x ρ1 σ1 hI G w a R hR (fun e ρ' σ' G' a' w' hq => hK e ρ' σ' G' a' w' (by
    cases e with
    | normal => exact let ⟨y, h1, h2⟩ := hq; ⟨y, ρ', σ', ⟨rfl, rfl⟩, h1, h2⟩
    | _ => exact hq)))

end codes

def resultA (P : Program) (ρ : Nat → AV) (σ : St) : ResultVar → Option AV
  | .tmp t => some (ρ t)
  | .cell t ty => loadA P ty (ρ t) σ

def resultsA (P : Program) (ρ : Nat → AV) (σ : St) : List ResultVar → Option (List AV)
  | [] => some []
  | r :: l => match resultA P ρ σ r, resultsA P ρ σ l with
    | some a, some as9 => some (a :: as9)
    | _, _ => none

def answerA (P : Program) (fn : Func) (ρ : Nat → AV) (σ : St) : Option AV :=
  match resultsA P ρ σ fn.results.toList with
  | some [a] => some a
  | some as9 => some (.tup as9)
  | none => none

def resRun (tmps : Array Value) : ResultVar → Sem Value
  | .tmp t => pure (tmps.getD t undef)
  | .cell a t => do loadVar t (← asAddr (tmps.getD a undef))

theorem resultsA_sound {G : Gh} {w : World} {a : Act} (hR : Rel N G w ρ σ a) : ∀ (l : List ResultVar) (as9 : List AV), resultsA P ρ σ l = some as9 →
    ∃ vs : List Value, (l.mapM (resRun a.tmps)).run P w = .ok vs w ∧ vs.length = as9.length ∧ ∀ (j : Nat) x b, vs[j]? = some x → as9[j]? = some b → AVR G w x b
  | [], as9, h => by simp [resultsA] at h; subst h; exact ⟨[], by simp, rfl, by simp⟩
  | r :: l, as9, h => by
    unfold resultsA at h
    split at h
    · rename_i av as9' h1 h2
      cases h
      obtain ⟨vs, hv, hl, hr⟩ := resultsA_sound hR l as9' h2
      obtain ⟨x, hx, hxa⟩ : ∃ x, (resRun a.tmps r).run P w = .ok x w ∧ AVR G w x av := by
        cases r with
        | tmp t => simp [resultA] at h1; subst h1; exact ⟨_, rfl, hR.env t⟩
        | cell t ty =>
          simp only [resultA] at h1
          obtain ⟨y, hy, hya⟩ := loadA_sound (P := P) hR.s (hR.env t) h1
          refine ⟨y, ?_, hya⟩; simp only [Instr.loadAt, Sem.run_bind] at hy
          simp only [resRun, Sem.run_bind]
          cases hv : a.tmps.getD t undef with
          | pointer q =>
            cases q with
            | none => rw [hv] at hy; simp [Instr.sureAddr] at hy
            | some q => rw [hv] at hy; simpa [Instr.sureAddr, asAddr] using hy
          | _ => rw [hv] at hy; simp [Instr.sureAddr] at hy
      refine ⟨x :: vs, by simp [List.mapM_cons, hx, hv], by simp [hl], fun j y b hy hb => ?_⟩
      match j with
      | 0 => simp at hy hb; subst hy; subst hb; exact hxa
      | j + 1 => exact hr j y b (by simpa using hy) (by simpa using hb)
    · cases h

theorem answerA_sound {G : Gh} {w : World} {a : Act} {fn : Func} {av : AV} (hR : Rel N G w ρ σ a) (h : answerA P fn ρ σ = some av) : ∃ v, (results fn a.tmps).run P w = .ok v w ∧ AVR G w v av := by
  have e : results fn a.tmps = (do let vs ← fn.results.mapM (resRun a.tmps); pure (if h : vs.size = 1 then vs[0] else .tuple vs)) := by
    unfold results
    rfl
  rw [e]
  unfold answerA at h
  have hm : ∀ as9, resultsA P ρ σ fn.results.toList = some as9 → ∃ vs : List Value, (fn.results.mapM (resRun a.tmps)).run P w = .ok vs.toArray w ∧ vs.length = as9.length ∧ ∀ (j : Nat) x b, vs[j]? = some x → as9[j]? = some b → AVR G w x b := by
    intro as9 has
    obtain ⟨vs, h1, h2, h3⟩ := resultsA_sound hR _ _ has
    refine ⟨vs, ?_, h2, h3⟩
    rw [Array.mapM_eq_mapM_toList]
    simp [h1]
  split at h
  · rename_i b hb
    cases h
    obtain ⟨vs, h1, h2, h3⟩ := hm _ hb
    match vs, h2 with
    | [x], _ =>
      refine ⟨x, ?_, h3 0 x _ rfl rfl⟩; simp [h1]
  · rename_i as9 hne has
    cases h
    obtain ⟨vs, h1, h2, h3⟩ := hm _ has
    refine ⟨.tuple vs.toArray, ?_, .tup (by simpa using h2) (fun j x b hx hb => h3 j x b (by simpa using hx) hb)⟩
    have hlen : ¬ (vs.toArray.size = 1) := by
      intro h1
      have : as9.length = 1 := by simpa [h2] using h1
      match as9, this with
      | [b], _ => exact hne b rfl
    simp only [Sem.run_bind, h1, Result.andThen_ok, Sem.run_pure, dif_neg hlen]
  · cases h

def Still (w w' : World) : Prop := w.heap.size ≤ w'.heap.size ∧ ∀ (b : Nat) c e fr, w.heap[b]? = some (.cells c e fr) → w'.heap[b]? = some (.cells c e fr)

theorem Still.cell {w w' : World} (h : Still w w') {b o : Nat} {x : Value} (hc : w.cell? ⟨b, o, none⟩ = some x) : w'.cell? ⟨b, o, none⟩ = some x := by
  obtain ⟨c, e, fr, hb, hx⟩ := cell_heap hc
  rw [heap_cell (h.2 b c e fr hb), hx]

theorem AVR.still {G : Gh} {w w' : World} (hs : Still w w') {x : Value} {a : AV} (h : AVR G w x a) : AVR G w' x a := by
  induction h with
  | v h => exact .v h
  | agg hl _ ih => exact .agg hl ih
  | tup hl _ ih => exact .tup hl ih
  | sl0 ht => exact .sl0 ht
  | sl xs hl hn hc ht hx _ htl ih => exact .sl xs hl hn hc ht (fun j x hj => ⟨hs.cell (hx j x hj).1, (hx j x hj).2⟩) ih htl
  | ep xs hl ht hx _ ih => exact .ep xs hl ht (fun j x hj => ⟨hs.cell (hx j x hj).1, (hx j x hj).2⟩) ih
  | ptr h => exact .ptr h
  | bs h hc => exact .bs h hc
  | fn hl _ ih => exact .fn hl ih
  | row h hg hn ha hc => exact .row h hg hn ha hc
  | rp h hg hc => exact .rp h hg hc
  | any h => exact .any h

theorem RelS.still {G : Gh} {w w' : World} {σ : St} (h : RelS G w σ) (hs : Still w w') : RelS G w' σ := by
  refine ⟨fun id b hp => ?_, h.inj, fun k m b lo hi hk => ?_, fun b o hb => h.fresh b o (Nat.le_trans hs.1 hb), fun g cs hg => (h.gl g cs hg).still hs, h.tot, h.totk, fun k gc b o C hk => ?_, h.totr⟩
  · obtain ⟨c, e, cs, h1, h2, h3, h4, h5⟩ := h.obj id b hp
    exact ⟨c, e, cs, h1, hs.2 _ _ _ _ h2, h3, h4, fun j x a hx ha => (h5 j x a hx ha).still hs⟩
  · obtain ⟨t1, t2⟩ := h.tok k m b lo hi hk
    refine ⟨t1, fun hlt => ?_⟩
    obtain ⟨c, e, g1, g2, g3⟩ := t2 hlt
    exact ⟨c, e, hs.2 _ _ _ _ g1, g2, g3⟩
  · obtain ⟨r, h1, h2, h3, h4, h5⟩ := h.row k gc b o C hk
    refine ⟨r, h1, h2, h3, h4, fun hC => ?_⟩
    obtain ⟨c, e, g1, g2, g3, g4, g5⟩ := h5 hC
    exact ⟨c, e, hs.2 _ _ _ _ g1, g2, g3, g4, fun j x a hx ha => (g5 j x a hx ha).still hs⟩

theorem Ext.still {G0 G : Gh} {w0 w w' : World} (h : Ext G0 w0 G w) (hs : Still w w') (h1 : w'.os = w.os) (h2 : w'.tape = w.tape) (h3 : w'.output = w.output)
    (h4 : ∀ b, b < w0.heap.size → w'.heap[b]? = w.heap[b]?) : Ext G0 w0 G w' := by
  refine ⟨h.base, h1.trans h.os, h2.trans h.tape, h3.trans h.output, Nat.le_trans h.size hs.1, fun b c e fr hb => ?_, fun b ob hb hne => ?_, h.sealed, h.no, h.pl, h.tl, h.rw⟩
  · obtain ⟨c', g1, g2⟩ := h.blk b c e fr hb
    exact ⟨c', hs.2 _ _ _ _ g1, g2⟩
  · rw [h4 b (Array.getElem?_eq_some_iff.1 hb).1]
    exact h.oth b ob hb hne

theorem still_grown {w w' : World} {row : Option Nat} (h : w.grownBy w' row) (hr : ∀ r, row = some r → ∃ o : Obj, w.heap[r]? = some o ∧ o.isCells = false) : Still w w' := by
  refine ⟨h.size, fun b c e fr hb => ?_⟩
  rw [h.block b (Array.getElem?_eq_some_iff.1 hb).1 (fun e2 => ?_)]
  · exact hb
  · obtain ⟨o, h1, h2⟩ := hr b e2.symm
    rw [hb] at h1; cases h1; cases h2

theorem still_put {w : World} {D : Nat} {o o' : Obj} (h : w.heap[D]? = some o) (ho : o.isCells = false) : Still w (w.putObj D o') :=
  still_grown (grownBy_putObj' w D o') (fun r e => by cases e; exact ⟨o, h, ho⟩)

def Gh.rebase (G : Gh) (B : Nat) : Gh := { G with base := B }

theorem AVR.rebase {G : Gh} (B : Nat) {w : World} {x : Value} {a : AV} (h : AVR G w x a) : AVR (G.rebase B) w x a := by
  have tl : ∀ {t : Tail} {ad : Option Addr} {n c sz : Nat}, TailOk G t ad n c sz → TailOk (G.rebase B) t ad n c sz := by
    intro t ad n c sz ht
    cases t <;> exact ht
  induction h with
  | v h => exact .v h
  | agg hl _ ih => exact .agg hl ih
  | tup hl _ ih => exact .tup hl ih
  | sl0 ht => exact .sl0 (tl ht)
  | sl xs hl hn hc ht hx _ htl ih => exact .sl xs hl hn hc ht hx ih (tl htl)
  | ep xs hl ht hx _ ih => exact .ep xs hl ht hx ih
  | ptr h => exact .ptr h
  | bs h hc => exact .bs h hc
  | fn hl _ ih => exact .fn hl ih
  | row h hg hn ha hc => exact .row h hg hn ha hc
  | rp h hg hc => exact .rp h hg hc
  | any h => exact .any h

theorem RelS.rebase {G : Gh} (B : Nat) {w : World} {σ : St} (h : RelS G w σ) : RelS (G.rebase B) w σ := by
  refine ⟨fun id b hp => ?_, h.inj, h.tok, h.fresh, fun g cs hg => (h.gl g cs hg).rebase B, h.tot, h.totk, fun k gc b o C hk => ?_, h.totr⟩
  · obtain ⟨c, e, cs, h1, h2, h3, h4, h5⟩ := h.obj id b hp
    exact ⟨c, e, cs, h1, h2, h3, h4, fun j x a hx ha => (h5 j x a hx ha).rebase B⟩
  · obtain ⟨r, h1, h2, h3, h4, h5⟩ := h.row k gc b o C hk
    refine ⟨r, h1, h2, h3, h4, fun hC => ?_⟩
    obtain ⟨c, e, g1, g2, g3, g4, g5⟩ := h5 hC
    exact ⟨c, e, g1, g2, g3, g4, fun j x a hx ha => (g5 j x a hx ha).rebase B⟩

theorem Ext.rebase {G G' : Gh} {B : Nat} {w w' : World} (h : Ext (G.rebase B) w G' w') : Ext G w (G'.rebase G.base) w' :=
  ⟨rfl, h.os, h.tape, h.output, h.size, h.blk, h.oth, h.sealed, h.no, h.pl, h.tl, h.rw⟩

theorem leaves_marks {fn : Func} {tmps : Array Value} {R : Ending → World → Prop} {G G0 : Gh} {w0 : World} {av : AV} : ∀ (l : List Deferred) (w : World), Marks G.base w l → l.Nodup → Ext G0 w0 G w → G.base = w0.heap.size → RelS G w σ →
    (∀ w', Still w w' → Ext G0 w0 G w' → RelS G w' σ → ∃ v, (results fn tmps).run P w' = .ok v w' ∧ AVR G w' v av ∧ R (.returned v) w') → LeavesInM Fence.wide 3 P fn tmps R l .returning w
  | [], w, _, _, hE, _, hS, k => by
    obtain ⟨v, h1, h2, h3⟩ := k w ⟨Nat.le_refl _, fun _ _ _ _ h => h⟩ hE hS
    exact ⟨v, h1, h3⟩
  | d :: l, w, hm, hn, hE, hB, hS, k => by
    obtain ⟨D, rfl, hD, hk⟩ := hm d (by simp)
    have hst : Still w (w.putObj D (.deferred none)) := still_put hk rfl
    have hE' : Ext G0 w0 G (w.putObj D (.deferred none)) := hE.still hst rfl rfl rfl (fun b hb => World.putObj_heap_other (by omega))
    refine ⟨by simp, .inl ⟨D, _, rfl, run_takeDeferred hk, ?_⟩⟩
    refine leaves_marks (av := av) l _ (fun d hd => ?_) (List.nodup_cons.1 hn).2 hE' hB (hS.still hst) (fun w' h1 h2 h3 => ?_)
    · obtain ⟨D2, rfl, h1, h2⟩ := hm d (by simp [hd])
      refine ⟨D2, rfl, h1, ?_⟩
      rw [World.putObj_heap_other (fun e => ?_)]
      · exact h2
      · subst e; exact (List.nodup_cons.1 hn).1 hd
    · exact k w' ⟨Nat.le_trans hst.1 h1.1, fun b c e fr hb => h1.2 _ _ _ _ (hst.2 _ _ _ _ hb)⟩ h2 h3

theorem callsA_enter {f : FuncId} {fn : Func} {c : Code} {args : List AV} {Q : AV → St → Prop} (hf : P.funcs[f]? = some fn) (hb : fn.body = some c) (hn : args.length ≤ fn.ntmps)
    (h : Run ⟨none, 3⟩ P fn.ntmps c (fun i => args.getD i undefA) σ (fun e ρ' σ' => (e = .normal ∨ e = .ret) ∧ ∃ av, answerA P fn ρ' σ' = some av ∧ Q av σ')) : CallsA P f args σ Q := by
  intro G w vs R hS hl hr hK
  refine (callsIn_wide (n := 3)).1 (callsIn_of_wp_marks hf hb trivial ?_)
  refine h (G.rebase w.heap.size) w _ _ ⟨hS.rebase _, ⟨Marks.nil _ _, List.nodup_nil, Nat.le_refl _⟩, by simp; omega, fun i => AVR.rebase _ ?_⟩ (fun e ρ' σ' G' a' w' hq hE hR' => ?_)
  · show AVR G w ((vs ++ Array.replicate (fn.ntmps - vs.size) undef).getD i undef) (args.getD i undefA)
    by_cases hi : i < vs.size
    · have h1 : (vs ++ Array.replicate (fn.ntmps - vs.size) undef).getD i undef = vs[i] := by
        rw [Array.getD_eq_getD_getElem?, Array.getElem?_append_left hi]; simp [hi]
      rw [h1]
      have hi' : i < args.length := by omega
      refine hr i _ _ (Array.getElem?_eq_getElem hi) ?_; simp [List.getD, hi']
    · have h1 : (vs ++ Array.replicate (fn.ntmps - vs.size) undef).getD i undef = undef := by
        rw [Array.getD_eq_getD_getElem?, Array.getElem?_append_right (by omega)]
        by_cases h2 : i - vs.size < fn.ntmps - vs.size
        · simp [h2]
        · rw [Array.getElem?_eq_none (by simpa using h2)]; rfl
      have h2 : args.getD i undefA = undefA := by
        simp [List.getD, List.getElem?_eq_none (show args.length ≤ i by omega)]
      rw [h1, h2]
      exact .v rfl
  · obtain ⟨he, av, hav, hq⟩ := hq
    have key : LeavesInM Fence.wide 3 P fn a'.tmps R a'.defers .returning w' := by
      refine leaves_marks a'.defers w' hR'.defers.1 hR'.defers.2.1 hE hE.base hR'.s (av := av) (fun w'' h1 h2 h3 => ?_)
      obtain ⟨v, hv, hva⟩ := answerA_sound (P := P) (fn := fn) (a := { a' with defers := [] }) ⟨h3, ⟨Marks.nil _ _, List.nodup_nil, Nat.le_trans hR'.defers.2.2 h1.1⟩, hR'.size, fun i => (hR'.env i).still h1⟩ hav
      exact ⟨v, hv, hva, hK v av σ' _ w'' hq h2.rebase (h3.rebase _) (hva.rebase _)⟩
    rcases he with rfl | rfl
    · exact key
    · exact key

end
structure Bd where
  nb : Nat
  nt : Nat
  nr : Nat

def St.bd (σ : St) : Bd := ⟨σ.objs.length, σ.toks.length, σ.rows.length⟩
@[simp] theorem St.bd_nb (σ : St) : σ.bd.nb = σ.objs.length := rfl
@[simp] theorem St.bd_nt (σ : St) : σ.bd.nt = σ.toks.length := rfl
@[simp] theorem St.bd_nr (σ : St) : σ.bd.nr = σ.rows.length := rfl

mutual
def AV.under (B : Bd) : AV → Bool
  | .v _ => true
  | .agg cs => underL B cs
  | .tup vs => underL B vs
  | .sl _ cs _ t => underL B cs && (match t with | .own k => decide (k < B.nt) | _ => true)
  | .ep cs => underL B cs
  | .ptr id _ => decide (id < B.nb)
  | .bs id _ _ _ => decide (id < B.nb)
  | .fn _ cs => underL B cs
  | .row k _ _ _ _ => decide (k < B.nr)
  | .rp k _ _ => decide (k < B.nr)
  | .any => true
def underL (B : Bd) : List AV → Bool
  | [] => true
  | a :: l => a.under B && underL B l
end

theorem underL_get {B : Bd} : ∀ {l : List AV} {j : Nat} {a : AV}, underL B l = true → l[j]? = some a → a.under B = true
  | [], j, a, _, h => by simp at h
  | b :: l, 0, a, h, hj => by
    simp only [underL, Bool.and_eq_true] at h
    simp at hj; subst hj; exact h.1
  | b :: l, j + 1, a, h, hj => by
    simp only [underL, Bool.and_eq_true] at h
    exact underL_get h.2 (by simpa using hj)

theorem underL_append {B : Bd} : ∀ {l m : List AV}, underL B (l ++ m) = (underL B l && underL B m)
  | [], m => by simp [underL]
  | a :: l, m => by simp [underL, underL_append, Bool.and_assoc]

def Gh.forget (G0 G : Gh) : Gh := { tag := G.tag, pl := G0.pl, base := G.base, tl := fun k => match G0.tl k with | some _ => G.tl k | none => none, rw := fun k => match G0.rw k with | some _ => G.rw k | none => none }

theorem AVR.forget {G0 G : Gh} {w0 w : World} {B : Bd} (hE : Ext G0 w0 G w) (h1 : ∀ id, id < B.nb → ∃ b, G0.pl id = some b) (h2 : ∀ k, k < B.nt → ∃ p, G0.tl k = some p) (h3 : ∀ k, k < B.nr → ∃ p, G0.rw k = some p) {x : Value} {a : AV} (h : AVR G w x a) :
    a.under B = true → AVR (G0.forget G) w x a := by
  have tl : ∀ {t : Tail} {ad : Option Addr} {n c sz : Nat}, TailOk G t ad n c sz → (match t with | .own k => decide (k < B.nt) | _ => true) = true → TailOk (G0.forget G) t ad n c sz := by
    intro t ad n c sz ht hk
    cases t with
    | shut => trivial
    | full => exact ht
    | own k =>
      obtain ⟨m, r, hm, hn, hr⟩ := ht
      obtain ⟨p, hp⟩ := h2 k (by simpa using hk)
      exact ⟨m, r, by simp [Gh.forget, hp, hm], hn, hr⟩
  induction h with
  | v h => exact fun _ => .v h
  | agg hl _ ih => exact fun hb => .agg hl (fun j x a hx ha => ih j x a hx ha (underL_get hb ha))
  | tup hl _ ih => exact fun hb => .tup hl (fun j x a hx ha => ih j x a hx ha (underL_get hb ha))
  | sl0 ht =>
    intro hb
    simp only [AV.under, Bool.and_eq_true] at hb
    exact .sl0 (tl ht hb.2)
  | sl xs hl hn hc hs hx _ ht ih =>
    intro hb
    simp only [AV.under, Bool.and_eq_true] at hb
    exact .sl xs hl hn hc hs hx (fun j x a hx ha => ih j x a hx ha (underL_get hb.1 ha)) (tl ht hb.2)
  | ep xs hl hs hx _ ih => exact fun hb => .ep xs hl hs hx (fun j x a hx ha => ih j x a hx ha (underL_get hb ha))
  | ptr h =>
    rename_i id off b
    intro hb
    obtain ⟨b', hb'⟩ := h1 id (by simpa [AV.under] using hb)
    have := hE.pl _ _ hb'
    rw [this] at h; cases h
    exact .ptr hb'
  | bs h hc =>
    rename_i id off sz n b c
    intro hb
    obtain ⟨b', hb'⟩ := h1 id (by simpa [AV.under] using hb)
    have := hE.pl _ _ hb'
    rw [this] at h; cases h
    exact .bs hb' hc
  | fn hl _ ih => exact fun hb => .fn hl (fun j x a hx ha => ih j x a hx ha (underL_get hb ha))
  | row h hg hn ha hc =>
    intro hb
    obtain ⟨p, hp⟩ := h3 _ (by simpa [AV.under] using hb)
    exact .row (by simp [Gh.forget, hp, h]) hg hn ha hc
  | rp h hg hc =>
    intro hb
    obtain ⟨p, hp⟩ := h3 _ (by simpa [AV.under] using hb)
    rename_i k g off gc b o C b' o'
    have hf : (G0.forget G).rw k = some (gc, b, o, C) := by
      show (match G0.rw k with | some _ => G.rw k | none => none) = _
      rw [hp]; exact h
    exact .rp hf hg hc
  | any h => exact fun _ => .any h

def Wk (a b : AV) : Prop := ∀ G w x, AVR G w x a → AVR G w x b

theorem Wk.refl (a : AV) : Wk a a := fun _ _ _ h => h
theorem Wk.trans {a b c : AV} (h : Wk a b) (k : Wk b c) : Wk a c := fun G w x hx => k G w x (h G w x hx)

theorem Wk.shut (sz : Nat) (cs : List AV) (n : Nat) (t : Tail) : Wk (.sl sz cs n t) (.sl sz cs n .shut) := fun G w x h => by
  cases h with
  | sl0 _ => exact .sl0 trivial
  | sl xs hl hn hc hs hx h _ => exact .sl xs hl hn hc hs hx h trivial

theorem Wk.nil (sz sz' : Nat) (t : Tail) : Wk (.sl sz [] 0 t) (.sl sz' [] 0 .shut) := fun G w x h => by
  cases h with
  | sl0 _ => exact .sl0 trivial
  | sl xs hl hn hc hs hx h _ => exact .sl0 trivial

theorem Wk.agg {as9 bs : List AV} (hl : as9.length = bs.length) (h : ∀ (j : Nat) a b, as9[j]? = some a → bs[j]? = some b → Wk a b) : Wk (.agg as9) (.agg bs) := fun G w x hx => by
  cases hx with
  | agg hl' hr =>
    refine .agg (hl'.trans hl) (fun j y b hy hb => ?_)
    have hlt : j < as9.length := by rw [hl]; exact (List.getElem?_eq_some_iff.1 hb).1
    exact h j _ b (List.getElem?_eq_getElem hlt) hb G w y (hr j y _ hy (List.getElem?_eq_getElem hlt))

theorem Wk.tup {as9 bs : List AV} (hl : as9.length = bs.length) (h : ∀ (j : Nat) a b, as9[j]? = some a → bs[j]? = some b → Wk a b) : Wk (.tup as9) (.tup bs) := fun G w x hx => by
  cases hx with
  | tup hl' hr =>
    refine .tup (hl'.trans hl) (fun j y b hy hb => ?_)
    have hlt : j < as9.length := by rw [hl]; exact (List.getElem?_eq_some_iff.1 hb).1
    exact h j _ b (List.getElem?_eq_getElem hlt) hb G w y (hr j y _ hy (List.getElem?_eq_getElem hlt))

inductive WkL : List AV → List AV → Prop
  | nil : WkL [] []
  | cons {a b l m} (h : Wk a b) (t : WkL l m) : WkL (a :: l) (b :: m)

theorem WkL.get : ∀ {l m : List AV}, WkL l m → l.length = m.length ∧ ∀ (j : Nat) a b, l[j]? = some a → m[j]? = some b → Wk a b
  | _, _, .nil => by simp
  | _, _, .cons h t => by
    obtain ⟨h1, h2⟩ := WkL.get t
    refine ⟨by simp [h1], fun j a b ha hb => ?_⟩
    match j with
    | 0 => simp at ha hb; subst ha; subst hb; exact h
    | j + 1 => exact h2 j a b (by simpa using ha) (by simpa using hb)

theorem WkL.refl : ∀ (l : List AV), WkL l l
  | [] => .nil
  | a :: l => .cons (.refl a) (WkL.refl l)

theorem WkL.agg {l m : List AV} (h : WkL l m) : Wk (.agg l) (.agg m) := Wk.agg h.get.1 h.get.2
theorem WkL.tup {l m : List AV} (h : WkL l m) : Wk (.tup l) (.tup m) := Wk.tup h.get.1 h.get.2

theorem Wk.cells {sz n : Nat} {l m : List AV} {t : Tail} (h : WkL l m) : Wk (.sl sz l n t) (.sl sz m n t) := fun G w x hx => by
  obtain ⟨h1, h2⟩ := h.get
  cases hx with
  | sl0 ht => cases h with | nil => exact .sl0 ht
  | sl xs hl hn hc hs hx hr ht =>
    refine .sl xs (hl.trans h1) (h1 ▸ hn) hc (fun j hj => hs j (by omega)) hx (fun j x b hj hb => ?_) ht
    have hlt : j < l.length := by rw [h1]; exact (List.getElem?_eq_some_iff.1 hb).1
    exact h2 j _ b (List.getElem?_eq_getElem hlt) hb G _ x (hr j x _ hj (List.getElem?_eq_getElem hlt))

section
variable {z : Zone} {P : Program} {N : Nat} {ρ : Nat → AV} {σ : St}

theorem callsA_wk {f : FuncId} {as9 bs : List AV} {Q : AV → St → Prop} (h : WkL as9 bs) (k : CallsA P f bs σ Q) : CallsA P f as9 σ Q := fun G w vs R hS hl hr hK =>
  k G w vs R hS (hl.trans h.get.1) (fun j x b hx hb => by
    have hlt : j < as9.length := by rw [h.get.1]; exact (List.getElem?_eq_some_iff.1 hb).1
    exact h.get.2 j _ b (List.getElem?_eq_getElem hlt) hb G w x (hr j x _ hx (List.getElem?_eq_getElem hlt))) hK

theorem callsA_mono {f : FuncId} {as9 : List AV} {Q Q' : AV → St → Prop} (k : CallsA P f as9 σ Q) (h : ∀ a σ', Q a σ' → Q' a σ') : CallsA P f as9 σ Q' := fun G w vs R hS hl hr hK =>
  k G w vs R hS hl hr (fun v av σ' G' w' hq => hK v av σ' G' w' (h _ _ hq))

theorem run_wk {c : Code} {ρ' : Nat → AV} {Q : Exit → (Nat → AV) → St → Prop} (h : ∀ i, Wk (ρ i) (ρ' i)) (k : Run z P N c ρ' σ Q) : Run z P N c ρ σ Q := fun G w a R hR hK =>
  k G w a R ⟨hR.s, hR.defers, hR.size, fun i => h i G w _ (hR.env i)⟩ hK

theorem run_mono {c : Code} {Q Q' : Exit → (Nat → AV) → St → Prop} (k : Run z P N c ρ σ Q) (h : ∀ e ρ' σ', Q e ρ' σ' → Q' e ρ' σ') : Run z P N c ρ σ Q' := fun G w a R hR hK =>
  k G w a R hR (fun e ρ' σ' G' a' w' hq => hK e ρ' σ' G' a' w' (h _ _ _ hq))

def St.trim (σ0 : St) (B : Bd) : St := { σ0 with objs := σ0.objs.take B.nb, toks := σ0.toks.take B.nt, rows := σ0.rows.take B.nr }

structure WkR (r0 r1 : RowSt) : Prop where
  gen : r1.gen = r0.gen
  len : r1.cells.length ≤ r0.cells.length
  cells : WkL (r0.cells.take r1.cells.length) r1.cells
  spare : ∀ s, r1.spare = some s → ∃ s0, r0.spare = some s0 ∧ r0.cells.length + s0 = r1.cells.length + s

theorem WkR.refl (r : RowSt) : WkR r r := ⟨rfl, Nat.le_refl _, by rw [List.take_length]; exact WkL.refl _, fun s h => ⟨s, h, rfl⟩⟩

structure WkS (σ0 σ1 : St) : Prop where
  toks : σ1.toks = σ0.toks
  gl : σ1.gl = σ0.gl
  len : σ1.objs.length = σ0.objs.length
  objs : ∀ (id : Nat) cs ds, σ0.objs[id]? = some cs → σ1.objs[id]? = some ds → WkL cs ds
  rlen : σ1.rows.length = σ0.rows.length
  rows : ∀ (k : Nat) r0 r1, σ0.rows[k]? = some r0 → σ1.rows[k]? = some r1 → WkR r0 r1

theorem WkS.refl (σ : St) : WkS σ σ := ⟨rfl, rfl, rfl, fun id cs ds h1 h2 => by rw [h1] at h2; cases h2; exact WkL.refl _, rfl, fun k r0 r1 h1 h2 => by rw [h1] at h2; cases h2; exact WkR.refl _⟩

theorem WkS.set {σ : St} {l : List (List AV)} {id : Nat} {cs ds : List AV} (h : WkL cs ds) : WkS { σ with objs := l.set id cs } { σ with objs := l.set id ds } :=
  ⟨rfl, rfl, by simp, fun i a b h1 h2 => by
    simp only at h1 h2
    by_cases hi : id = i
    · subst hi
      have hlt : id < l.length := by have := (List.getElem?_eq_some_iff.1 h1).1; simpa using this
      rw [List.getElem?_set_self hlt] at h1 h2
      cases h1; cases h2; exact h
    · rw [List.getElem?_set_ne hi] at h1 h2
      rw [h1] at h2; cases h2; exact WkL.refl _, rfl, fun k r0 r1 h1 h2 => by rw [h1] at h2; cases h2; exact WkR.refl _⟩

theorem WkS.setRow {σ : St} {l : List RowSt} {k : Nat} {r0 r1 : RowSt} (h : WkR r0 r1) : WkS { σ with rows := l.set k r0 } { σ with rows := l.set k r1 } :=
  ⟨rfl, rfl, rfl, fun id cs ds h1 h2 => by rw [h1] at h2; cases h2; exact WkL.refl _, by simp, fun i a b h1 h2 => by
    simp only at h1 h2
    by_cases hi : k = i
    · subst hi
      have hlt : k < l.length := by have := (List.getElem?_eq_some_iff.1 h1).1; simpa using this
      rw [List.getElem?_set_self hlt] at h1 h2
      cases h1; cases h2; exact h
    · rw [List.getElem?_set_ne hi] at h1 h2
      rw [h1] at h2; cases h2; exact WkR.refl _⟩

theorem RelS.wk {G : Gh} {w : World} {σ0 σ1 : St} (h : RelS G w σ0) (k : WkS σ0 σ1) : RelS G w σ1 := by
  refine ⟨fun id b hp => ?_, h.inj, fun i m b lo hi hk => ?_, h.fresh, fun g cs hg => h.gl g cs (k.gl ▸ hg), fun id hid => h.tot id (k.len ▸ hid), fun i hi => h.totk i (by rw [← k.toks]; exact hi), fun i gc b o C hi => ?_, fun i hi => h.totr i (k.rlen ▸ hi)⟩
  · obtain ⟨c, e, cs, h1, h2, h3, h4, h5⟩ := h.obj id b hp
    have hlt : id < σ1.objs.length := by rw [k.len]; exact (List.getElem?_eq_some_iff.1 h1).1
    have hw := k.objs id cs _ h1 (List.getElem?_eq_getElem hlt)
    refine ⟨c, e, σ1.objs[id], List.getElem?_eq_getElem hlt, h2, h3.trans hw.get.1, h4, fun j x a hx ha => ?_⟩
    have hj : j < cs.length := by rw [hw.get.1]; exact (List.getElem?_eq_some_iff.1 ha).1
    exact hw.get.2 j _ a (List.getElem?_eq_getElem hj) ha G w x (h5 j x _ hx (List.getElem?_eq_getElem hj))
  · obtain ⟨t1, t2⟩ := h.tok i m b lo hi hk
    exact ⟨by rw [k.toks]; exact t1, t2⟩
  · obtain ⟨r, h1, h2, h3, h4, h5⟩ := h.row i gc b o C hi
    have hlt : i < σ1.rows.length := by rw [k.rlen]; exact (List.getElem?_eq_some_iff.1 h1).1
    have hw := k.rows i r _ h1 (List.getElem?_eq_getElem hlt)
    refine ⟨σ1.rows[i], List.getElem?_eq_getElem hlt, hw.gen.trans h2, Nat.le_trans hw.len h3, fun s hs => ?_, fun hC => ?_⟩
    · obtain ⟨s0, e1, e2⟩ := hw.spare s hs
      rw [← e2]; exact h4 s0 e1
    · obtain ⟨c, e, g1, g2, g3, g4, g5⟩ := h5 hC
      refine ⟨c, e, g1, g2, g3, g4, fun j x a hx ha => ?_⟩
      obtain ⟨w1, w2⟩ := hw.cells.get
      have hj : j < σ1.rows[i].cells.length := (List.getElem?_eq_some_iff.1 ha).1
      have hj2 : j < r.cells.length := Nat.lt_of_lt_of_le hj hw.len
      have hg : (r.cells.take σ1.rows[i].cells.length)[j]? = some r.cells[j] := by rw [List.getElem?_take, if_pos hj]; exact List.getElem?_eq_getElem hj2
      exact w2 j _ a hg ha G w x (g5 j x _ hx (List.getElem?_eq_getElem hj2))

theorem callsA_wkS {P : Program} {σ : St} {f : FuncId} {args : List AV} {Q Q' : AV → St → Prop} (k : CallsA P f args σ Q) (h : ∀ av σ0, Q av σ0 → ∃ av' σ1, Wk av av' ∧ WkS σ0 σ1 ∧ Q' av' σ1) : CallsA P f args σ Q' := by
  intro G w vs R hS hl hr hK
  refine k G w vs R hS hl hr (fun v av σ0 G' w' hq hE hS' hv => ?_)
  obtain ⟨av', σ1, h1, h2, h3⟩ := h av σ0 hq
  exact hK v av' σ1 G' w' h3 hE (hS'.wk h2) (h1 _ _ _ hv)

theorem under_all {G : Gh} {w : World} {σ : St} (hS : RelS G w σ) {x : Value} {a : AV} (hx : AVR G w x a) : a.under σ.bd = true := by
  have hlt : ∀ id b, G.pl id = some b → id < σ.objs.length := fun id b hp => by
    obtain ⟨_, _, _, h1, _⟩ := hS.obj id b hp
    exact (List.getElem?_eq_some_iff.1 h1).1
  have hltk : ∀ k p, G.tl k = some p → k < σ.toks.length := fun k p hp => by
    have := (hS.tok k p.1 p.2.1 p.2.2.1 p.2.2.2 hp).1
    exact (List.getElem?_eq_some_iff.1 this).1
  have tl : ∀ {t : Tail} {ad : Option Addr} {n c sz : Nat}, TailOk G t ad n c sz → (match t with | .own k => decide (k < σ.toks.length) | _ => true) = true := by
    intro t ad n c sz ht
    cases t with
    | own k => obtain ⟨m, r, hm, _⟩ := ht; simpa using hltk k _ hm
    | _ => rfl
  have hltr : ∀ k p, G.rw k = some p → k < σ.rows.length := fun k p hp => by
    obtain ⟨_, h1, _⟩ := hS.row k p.1 p.2.1 p.2.2.1 p.2.2.2 hp
    exact (List.getElem?_eq_some_iff.1 h1).1
  have list : ∀ {l : List AV} {p : Nat → Value → Prop}, (∀ (j : Nat), j < l.length → ∃ x, p j x) → (∀ (j : Nat) x a, p j x → l[j]? = some a → a.under σ.bd = true) → underL σ.bd l = true := by
    intro l
    induction l with
    | nil => intros; rfl
    | cons a l ih =>
      intro p h1 h2
      simp only [underL, Bool.and_eq_true]
      refine ⟨?_, ih (p := fun j x => p (j + 1) x) (fun j hj => h1 (j + 1) (by simpa using hj)) (fun j x b hx hb => h2 (j + 1) x b hx (by simpa using hb))⟩
      obtain ⟨x, hx⟩ := h1 0 (by simp)
      exact h2 0 x a hx rfl
  induction hx with
  | v _ => rfl
  | agg hl _ ih => exact list (p := fun j x => _) (fun j hj => ⟨_, Array.getElem?_eq_getElem (by omega)⟩) (fun j x a hx ha => ih j x a hx ha)
  | tup hl _ ih => exact list (p := fun j x => _) (fun j hj => ⟨_, Array.getElem?_eq_getElem (by omega)⟩) (fun j x a hx ha => ih j x a hx ha)
  | sl0 ht => simp only [AV.under, underL, Bool.true_and]; exact tl ht
  | sl xs hl hn hc hs hx _ ht ih =>
    simp only [AV.under, Bool.and_eq_true]
    exact ⟨list (p := fun j x => xs[j]? = some x) (fun j hj => ⟨_, List.getElem?_eq_getElem (by omega)⟩) (fun j x a hx ha => ih j x a hx ha), tl ht⟩
  | ep xs hl hs hx _ ih => exact list (p := fun j x => xs[j]? = some x) (fun j hj => ⟨_, List.getElem?_eq_getElem (by omega)⟩) (fun j x a hx ha => ih j x a hx ha)
  | ptr h => exact decide_eq_true (hlt _ _ h)
  | bs h hc => exact decide_eq_true (hlt _ _ h)
  | fn hl _ ih => exact list (p := fun j x => _) (fun j hj => ⟨_, Array.getElem?_eq_getElem (by omega)⟩) (fun j x a hx ha => ih j x a hx ha)
  | row h _ _ _ _ => exact decide_eq_true (hltr _ _ h)
  | rp h _ _ => exact decide_eq_true (hltr _ _ h)
  | any => rfl

theorem callsA_gc {f : FuncId} {args : List AV} {Q Q' : AV → St → Prop} (k : CallsA P f args σ Q)
    (h : ∀ av σ0, Q av σ0 → ∃ av', Wk av av' ∧ av'.under σ.bd = true ∧ σ.objs.length ≤ σ0.objs.length ∧ σ.toks.length ≤ σ0.toks.length ∧ σ.rows.length ≤ σ0.rows.length ∧ σ0.gl = σ.gl ∧
      (∀ id cs, id < σ.objs.length → σ0.objs[id]? = some cs → σ.objs[id]? = some cs ∨ underL σ.bd cs = true) ∧ (∀ i r, i < σ.rows.length → σ0.rows[i]? = some r → (∃ r0, σ.rows[i]? = some r0 ∧ r0.cells = r.cells) ∨ underL σ.bd r.cells = true) ∧ Q' av' (σ0.trim σ.bd)) : CallsA P f args σ Q' := by
  intro G w vs R hS hl hr hK
  refine k G w vs R hS hl hr (fun v av σ0 G' w' hq hE hS' hv => ?_)
  obtain ⟨av', hwk, hb, hob, htk, hrk, hgl, hkeep, hkeepr, hq'⟩ := h av σ0 hq
  let G2 := G.forget G'
  have hE2 : Ext G w G2 w' := by
    refine ⟨hE.base, hE.os, hE.tape, hE.output, hE.size, hE.blk, hE.oth, hE.sealed, hE.no, fun _ _ h => h, fun k m r hk => ?_, fun k m r hk => ?_⟩
    · obtain ⟨m', r', h1, h2, h3⟩ := hE.tl k m r hk
      exact ⟨m', r', by simp [G2, Gh.forget, hk, h1], h2, h3⟩
    · obtain ⟨m', r', h1, h2, h3⟩ := hE.rw k m r hk
      exact ⟨m', r', by simp [G2, Gh.forget, hk, h1], h2, h3⟩
  have hfor : ∀ {x : Value} {a : AV}, AVR G' w' x a → a.under σ.bd = true → AVR G2 w' x a := fun hx hb => hx.forget hE hS.tot hS.totk hS.totr hb
  have hlt : ∀ id b, G.pl id = some b → id < σ.objs.length := fun id b hp => by
    obtain ⟨_, _, _, h1, _⟩ := hS.obj id b hp
    exact (List.getElem?_eq_some_iff.1 h1).1
  have hltk : ∀ k p, G.tl k = some p → k < σ.toks.length := fun k p hp => by
    have := (hS.tok k p.1 p.2.1 p.2.2.1 p.2.2.2 hp).1
    exact (List.getElem?_eq_some_iff.1 this).1
  have hltr : ∀ k p, G.rw k = some p → k < σ.rows.length := fun k p hp => by
    obtain ⟨_, h1, _⟩ := hS.row k p.1 p.2.1 p.2.2.1 p.2.2.2 hp
    exact (List.getElem?_eq_some_iff.1 h1).1
  refine hK v av' _ G2 w' hq' hE2 ?_ (hfor (hwk _ _ _ hv) hb); refine ⟨?_, ?_, ?_, hS'.fresh, ?_, ?_, ?_, ?_, ?_⟩
  · intro id b hp
    obtain ⟨c, e, cs, h1, h2, h3, h4, h5⟩ := hS'.obj id b (hE.pl _ _ hp)
    have hid := hlt id b hp
    refine ⟨c, e, cs, ?_, h2, h3, h4, fun j x a hx ha => ?_⟩
    · show (σ0.objs.take _)[id]? = some cs
      rw [List.getElem?_take, St.bd_nb, if_pos hid]; exact h1
    · rcases hkeep id cs hid h1 with h6 | h6
      · exact hfor (h5 j x a hx ha) (by
          obtain ⟨c0, e0, cs0, g1, g2, g3, g4, g5⟩ := hS.obj id b hp
          rw [h6] at g1; cases g1
          have hj : j < c0.size := by rw [g3]; exact (List.getElem?_eq_some_iff.1 ha).1
          exact under_all hS (g5 j c0[j] a (Array.getElem?_eq_getElem hj) ha))
      · exact hfor (h5 j x a hx ha) (underL_get h6 ha)
  · exact hS.inj
  · intro k m b lo hi hk
    have hk' : (match G.tl k with | some _ => G'.tl k | none => none) = some (m, b, lo, hi) := hk
    cases h0 : G.tl k with
    | none => rw [h0] at hk'; cases hk'
    | some p =>
      rw [h0] at hk'
      obtain ⟨t1, t2⟩ := hS'.tok k m b lo hi hk'
      refine ⟨?_, t2⟩
      show (σ0.toks.take _)[k]? = some m
      rw [List.getElem?_take, St.bd_nt, if_pos (hltk k p h0)]; exact t1
  · intro g cs hg
    have h0 : σ0.gl g = some cs := hg
    rw [hgl] at h0
    exact (hS.gl g cs h0).mono hE2
  · intro id hid
    exact hS.tot id (by simp [St.trim] at hid; omega)
  · intro k hk
    obtain ⟨p, hp⟩ := hS.totk k (by simp [St.trim] at hk; omega)
    obtain ⟨m', r', h1, _⟩ := hE.tl k p.1 p.2 hp
    exact ⟨(m', r'), by simp [G2, Gh.forget, hp, h1]⟩
  · intro k gc b o C hk
    have hk' : (match G.rw k with | some _ => G'.rw k | none => none) = some (gc, b, o, C) := hk
    cases h0 : G.rw k with
    | none => rw [h0] at hk'; cases hk'
    | some p =>
      rw [h0] at hk'
      obtain ⟨r, t1, t2, t3, t4, t5⟩ := hS'.row k gc b o C hk'
      have hkl := hltr k p h0
      refine ⟨r, ?_, t2, t3, t4, fun hC => ?_⟩
      · show (σ0.rows.take _)[k]? = some r
        rw [List.getElem?_take, St.bd_nr, if_pos hkl]; exact t1
      · obtain ⟨c, e, g1, g2, g3, g4, g5⟩ := t5 hC
        refine ⟨c, e, g1, g2, g3, g4, fun j x a hx ha => hfor (g5 j x a hx ha) ?_⟩
        rcases hkeepr k r hkl t1 with ⟨r0, h6, h7⟩ | h6
        · obtain ⟨gc0, b0, o0, C0⟩ := p
          obtain ⟨r0', f1, f2, f3, f4, f5⟩ := hS.row k _ _ _ _ h0
          rw [h6] at f1; cases f1
          rw [← h7] at ha
          have hjl := (List.getElem?_eq_some_iff.1 ha).1
          obtain ⟨c0, e0, s1, s2, s3, s4, s5⟩ := f5 (by omega)
          have hlt0 : o0 + j < c0.size := by omega
          exact under_all hS (s5 j c0[o0 + j] a (Array.getElem?_eq_getElem hlt0) ha)
        · exact underL_get h6 ha
  · intro k hk
    obtain ⟨p, hp⟩ := hS.totr k (by simp [St.trim] at hk; omega)
    obtain ⟨m', r', h1, _⟩ := hE.rw k p.1 p.2 hp
    exact ⟨(m', r'), by simp [G2, Gh.forget, hp, h1]⟩

theorem callsA_gc_to {f : FuncId} {args : List AV} {A : AV} {τ : St} {Q : AV → St → Prop} (k : CallsA P f args σ Q) (h : ∀ av σ', Q av σ' → ∃ l m r, Wk av A ∧ σ' = { τ with objs := τ.objs ++ l, toks := τ.toks ++ m, rows := τ.rows ++ r })
    (hA : A.under σ.bd = true) (h1 : τ.objs.length = σ.objs.length) (h2 : τ.toks.length = σ.toks.length) (h3 : τ.rows.length = σ.rows.length) (h4 : τ.gl = σ.gl)
    (h5 : ∀ (id : Nat) cs, τ.objs[id]? = some cs → σ.objs[id]? = some cs ∨ underL σ.bd cs = true) (h6 : ∀ (i : Nat) r, τ.rows[i]? = some r → (∃ r0, σ.rows[i]? = some r0 ∧ r0.cells = r.cells) ∨ underL σ.bd r.cells = true) : CallsA P f args σ (fun av σ' => av = A ∧ σ' = τ) := by
  refine callsA_gc k (fun av σ0 hq => ?_)
  obtain ⟨l, m, r, hw, rfl⟩ := h av σ0 hq
  refine ⟨A, hw, hA, by simp; omega, by simp; omega, by simp; omega, h4, fun id cs hid hc => h5 id cs ?_, fun i r0 hi hr => h6 i r0 ?_, rfl, ?_⟩
  · rw [← hc]; exact (List.getElem?_append_left (by rw [h1]; exact hid)).symm
  · rw [← hr]; exact (List.getElem?_append_left (by rw [h3]; exact hi)).symm
  · simp [St.trim, ← h1, ← h2, ← h3]

theorem callsA_gc_same {f : FuncId} {args : List AV} {A : AV} {Q : AV → St → Prop} (k : CallsA P f args σ Q) (h : ∀ av σ', Q av σ' → Wk av A ∧ ∃ l m r, σ' = { σ with objs := σ.objs ++ l, toks := σ.toks ++ m, rows := σ.rows ++ r })
    (hA : A.under σ.bd = true) : CallsA P f args σ (fun av σ' => av = A ∧ σ = σ') :=
  callsA_mono (callsA_gc_to (τ := σ) k (fun av σ' hq => let ⟨h1, l, m, r, h2⟩ := h av σ' hq; ⟨l, m, r, h1, h2⟩) hA rfl rfl rfl rfl (fun _ _ h => .inl h) (fun _ r h => .inl ⟨r, h, rfl⟩)) (fun av σ' h => ⟨h.1, h.2.symm⟩)

theorem callsA_gc_new {f : FuncId} {args : List AV} {A : AV} {l : List (List AV)} (k : CallsA P f args σ (fun av σ' => av = A ∧ σ' = { σ with objs := σ.objs ++ l })) (hA : A.under σ.bd = true) :
    CallsA P f args σ (fun av σ' => av = A ∧ σ = σ') := by
  refine callsA_gc k (fun av σ0 ⟨h1, h2⟩ => ⟨A, h1 ▸ Wk.refl _, hA, ?_, ?_, ?_, ?_, ?_, ?_, rfl, ?_⟩)
  · rw [h2]; simp
  · rw [h2]; exact Nat.le_refl _
  · rw [h2]; exact Nat.le_refl _
  · rw [h2]
  · intro id cs hid hc
    rw [h2] at hc
    left
    rw [← hc]
    exact (List.getElem?_append_left hid).symm
  · intro i r _ hr
    rw [h2] at hr
    exact .inl ⟨r, hr, rfl⟩
  · rw [h2]; simp [St.trim]

theorem callsA_freeze {f gf : FuncId} {args : List AV} {x : AV} (k : CallsA P f args σ (fun av σ' => av = .fn gf [.ptr σ.objs.length 0] ∧ σ' = { σ with objs := σ.objs ++ [[x]] })) (hx : x ∈ args) (hc : x.isCell = true) :
    CallsA P f args σ (fun av σ' => av = .fn gf [.ep [x]] ∧ σ = σ') := by
  intro G w vs R hS hl hr hK
  obtain ⟨j0, hj0⟩ := List.mem_iff_getElem?.1 hx
  have hxu : x.under σ.bd = true := by
    have hlt : j0 < vs.size := by rw [hl]; exact (List.getElem?_eq_some_iff.1 hj0).1
    exact under_all hS (hr j0 _ x (Array.getElem?_eq_getElem hlt) hj0)
  refine k G w vs R hS hl hr (fun v av σ0 G' w' hq hE hS' hv => ?_)
  obtain ⟨rfl, rfl⟩ := hq
  obtain ⟨b, hb⟩ := hS'.tot σ.objs.length (by simp)
  obtain ⟨c, e, cs, g1, g2, g3, g4, g5⟩ := hS'.obj _ b hb
  have hcs : cs = [x] := by simpa using g1.symm
  subst hcs
  have hc1 : c.size = 1 := by simpa using g3
  have hc0 : c[0]? = some c[0] := Array.getElem?_eq_getElem (by omega)
  have hx0 : AVR G' w' c[0] x := g5 0 _ _ hc0 rfl
  have ht0 := g4 0 (by omega)
  let G1 : Gh := { G' with tag := fun B o => if B = b ∧ o = 0 then .fixd else G'.tag B o }
  have hE12 : Ext G' w' G1 w' := by
    refine ⟨rfl, rfl, rfl, rfl, Nat.le_refl _, fun _ c _ _ h => ⟨c, h, rfl, fun _ _ => rfl⟩, fun _ _ h _ => h, fun B o h => ?_, fun B o _ h => ?_, fun _ _ h => h, fun _ m r h => ⟨m, r, h, Nat.le_refl _, fun _ => rfl⟩, fun _ m r h => ⟨m, r, h, Nat.le_refl _, fun _ => rfl⟩⟩
    · show (if _ then _ else _) = _
      split
      · rfl
      · exact h
    · show (if _ then _ else _) = _
      split
      · rename_i hbo
        obtain ⟨rfl, rfl⟩ := hbo
        rw [ht0] at h; cases h
      · exact h
  have hE1 := hE.trans hE12
  let G2 := G.forget G1
  have hE2 : Ext G w G2 w' := by
    refine ⟨hE1.base, hE1.os, hE1.tape, hE1.output, hE1.size, hE1.blk, hE1.oth, hE1.sealed, hE1.no, fun _ _ h => h, fun k m r hk => ?_, fun k m r hk => ?_⟩
    · obtain ⟨m', r', h1, h2, h3⟩ := hE1.tl k m r hk
      exact ⟨m', r', by simp [G2, Gh.forget, hk, h1], h2, h3⟩
    · obtain ⟨m', r', h1, h2, h3⟩ := hE1.rw k m r hk
      exact ⟨m', r', by simp [G2, Gh.forget, hk, h1], h2, h3⟩
  have hfor : ∀ {x : Value} {a : AV}, AVR G' w' x a → a.under σ.bd = true → AVR G2 w' x a := fun hx hb => (hx.mono hE12).forget hE1 hS.tot hS.totk hS.totr hb
  have hlt : ∀ id b, G.pl id = some b → id < σ.objs.length := fun id b hp => by
    obtain ⟨_, _, _, h1, _⟩ := hS.obj id b hp
    exact (List.getElem?_eq_some_iff.1 h1).1
  have htag : ∀ B o, ¬ (B = b ∧ o = 0) → G1.tag B o = G'.tag B o := fun B o h => if_neg h
  have hv2 : AVR G2 w' v (.fn gf [.ep [x]]) := by
    cases hv with
    | fn hl h =>
      refine .fn (by simpa using hl) (fun j y a hy ha => ?_)
      match j with
      | 0 =>
        simp at ha; subst ha
        have h1 := h 0 y _ hy rfl
        cases h1 with
        | ptr h2 =>
          rw [hb] at h2; cases h2
          refine .ep [c[0]] rfl (fun j hj => ?_) (fun j y hy => ?_) (fun j y a hy ha => ?_)
          · have : j = 0 := by simp at hj; omega
            subst this
            show (if _ then _ else _) = _
            simp
          · match j with
            | 0 =>
              simp at hy; subst hy
              exact ⟨by rw [heap_cell g2]; simpa using hc0, hx0.oneCell hc⟩
            | j + 1 => simp at hy
          · match j with
            | 0 =>
              simp at hy ha; subst hy; subst ha
              exact hfor hx0 hxu
            | j + 1 => simp at hy
      | j + 1 => simp at ha
  refine hK v _ σ G2 w' ⟨rfl, rfl⟩ hE2 ?_ hv2; refine ⟨?_, hS.inj, ?_, fun B o hB => ?_, fun g cs hg => (hS.gl g cs hg).mono hE2, hS.tot, ?_, ?_, ?_⟩
  · intro id b' hp
    obtain ⟨c', e', cs', h1, h2, h3, h4, h5⟩ := hS'.obj id b' (hE.pl _ _ hp)
    have hid := hlt id b' hp
    have h1' : σ.objs[id]? = some cs' := by
      rw [← h1]
      exact (List.getElem?_append_left hid).symm
    refine ⟨c', e', cs', h1', h2, h3, fun j hj => ?_, fun j y a hy ha => ?_⟩
    · show G1.tag b' j = _
      rw [htag _ _ (fun hbj => ?_)]
      · exact h4 j hj
      · obtain ⟨rfl, rfl⟩ := hbj
        have := h4 0 hj
        rw [ht0] at this
        injection this with this
        omega
    · obtain ⟨c0, e0, cs0, f1, f2, f3, f4, f5⟩ := hS.obj id b' hp
      rw [h1'] at f1; cases f1
      have hj : j < c0.size := by rw [f3]; exact (List.getElem?_eq_some_iff.1 ha).1
      exact hfor (h5 j y a hy ha) (under_all hS (f5 j c0[j] a (Array.getElem?_eq_getElem hj) ha))
  · intro k m b' lo hi hk
    have hk' : (match G.tl k with | some _ => G'.tl k | none => none) = some (m, b', lo, hi) := hk
    cases h0 : G.tl k with
    | none => rw [h0] at hk'; cases hk'
    | some p =>
      rw [h0] at hk'
      obtain ⟨t1, t2⟩ := hS'.tok k m b' lo hi hk'
      refine ⟨t1, fun hlh => ?_⟩
      obtain ⟨c', e', s1, s2, s3⟩ := t2 hlh
      refine ⟨c', e', s1, s2, fun j hj hj2 => ?_⟩
      show G1.tag b' j = _
      rw [htag _ _ (fun hbj => ?_)]
      · exact s3 j hj hj2
      · obtain ⟨rfl, rfl⟩ := hbj
        have := s3 0 hj hj2
        rw [ht0] at this; cases this
  · show G1.tag B o = _
    rw [htag _ _ (fun hbj => ?_)]
    · exact hS'.fresh B o hB
    · obtain ⟨rfl, rfl⟩ := hbj
      have := (Array.getElem?_eq_some_iff.1 g2).1
      omega
  · intro k hk
    obtain ⟨p, hp⟩ := hS.totk k hk
    obtain ⟨m', r', h1, _⟩ := hE1.tl k p.1 p.2 hp
    exact ⟨(m', r'), by simp [G2, Gh.forget, hp, h1]⟩
  · intro q gc b' o C hq
    have hq' : (match G.rw q with | some _ => G'.rw q | none => none) = some (gc, b', o, C) := hq
    cases h0 : G.rw q with
    | none => rw [h0] at hq'; cases hq'
    | some p =>
      rw [h0] at hq'
      obtain ⟨r, t1, t2, t3, t4, t5⟩ := hS'.row q gc b' o C hq'
      refine ⟨r, t1, t2, t3, t4, fun hC => ?_⟩
      obtain ⟨c', e', s1, s2, s3, s4, s5⟩ := t5 hC
      refine ⟨c', e', s1, s2, fun j hj => ?_, s4, fun j y a hy ha => hfor (s5 j y a hy ha) ?_⟩
      · show G1.tag b' (o + j) = _
        rw [htag _ _ (fun hbj => ?_)]
        · exact s3 j hj
        · obtain ⟨rfl, h7⟩ := hbj
          have := s3 j hj
          rw [h7, ht0] at this; cases this
      · obtain ⟨gc0, b0, o0, C0⟩ := p
        obtain ⟨r0', f1, f2, f3, f4, f5⟩ := hS.row q _ _ _ _ h0
        rw [show σ.rows[q]? = some r from t1] at f1; cases f1
        have hjl := (List.getElem?_eq_some_iff.1 ha).1
        obtain ⟨c0, e0, u1, u2, u3, u4, u5⟩ := f5 (by omega)
        have hlt0 : o0 + j < c0.size := by omega
        exact under_all hS (u5 j c0[o0 + j] a (Array.getElem?_eq_getElem hlt0) ha)
  · intro q hq
    obtain ⟨p, hp⟩ := hS.totr q hq
    obtain ⟨m', r', h1, _⟩ := hE1.rw q p.1 p.2 hp
    exact ⟨(m', r'), by simp [G2, Gh.forget, hp, h1]⟩

theorem callsA_turn {f : FuncId} {args : List AV} {Q Q' : AV → St → Prop} (k : CallsA P f args σ Q)
    (h : ∀ G' w' v av σ0, Q av σ0 → RelS G' w' σ0 → AVR G' w' v av → ∃ G1 av' σ1, Ext G' w' G1 w' ∧ RelS G1 w' σ1 ∧ AVR G1 w' v av' ∧ Q' av' σ1) : CallsA P f args σ Q' := by
  intro G w vs R hS hl hr hK
  refine k G w vs R hS hl hr (fun v av σ0 G' w' hq hE hS' hv => ?_)
  obtain ⟨G1, av', σ1, h1, h2, h3, h4⟩ := h G' w' v av σ0 hq hS' hv
  exact hK v av' σ1 G1 w' h4 (hE.trans h1) h2 h3

mutual
inductive Fr (k g : Nat) (cells : List AV) : AV → AV → Prop
  | same (a : AV) : Fr k g cells a a
  | row {off sz n : Nat} (h : off + n * sz ≤ cells.length) : Fr k g cells (.row k g off sz n) (.sl sz ((cells.drop off).take (n * sz)) n .shut)
  | agg {as9 bs : List AV} (h : FrL k g cells as9 bs) : Fr k g cells (.agg as9) (.agg bs)
  | tup {as9 bs : List AV} (h : FrL k g cells as9 bs) : Fr k g cells (.tup as9) (.tup bs)
inductive FrL (k g : Nat) (cells : List AV) : List AV → List AV → Prop
  | nil : FrL k g cells [] []
  | cons {a b : AV} {l m : List AV} (h : Fr k g cells a b) (t : FrL k g cells l m) : FrL k g cells (a :: l) (b :: m)
end

theorem FrL.get {k g : Nat} {cells : List AV} : ∀ {l m : List AV}, FrL k g cells l m → l.length = m.length ∧ ∀ (j : Nat) a b, l[j]? = some a → m[j]? = some b → Fr k g cells a b
  | _, _, .nil => by simp
  | _, _, .cons h t => by
    obtain ⟨h1, h2⟩ := FrL.get t
    refine ⟨by simp [h1], fun j a b ha hb => ?_⟩
    match j with
    | 0 => simp at ha hb; subst ha; subst hb; exact h
    | j + 1 => exact h2 j a b (by simpa using ha) (by simpa using hb)

theorem FrL.refl {k g : Nat} {cells : List AV} : ∀ (l : List AV), FrL k g cells l l
  | [] => .nil
  | a :: l => .cons (.same a) (FrL.refl l)

def Gh.sealRow (G : Gh) (k g b o n : Nat) : Gh :=
  { G with
    tag := fun x q => if x = b ∧ o ≤ q ∧ q < o + n then .fixd else G.tag x q
    rw := fun i => if i = k then some (g + 1, 0, 0, 0) else G.rw i }

theorem fr_sound {G : Gh} {w : World} {σ : St} (hS : RelS G w σ) {k g : Nat} {cells : List AV} {sp : Option Nat} (hr : σ.rows[k]? = some ⟨g, cells, sp⟩) :
    ∃ G1, Ext G w G1 w ∧ (∀ x a a', AVR G w x a → Fr k g cells a a' → AVR G1 w x a') ∧
      ∀ objs', objs'.length = σ.objs.length → (∀ (id : Nat) cs ds, σ.objs[id]? = some cs → objs'[id]? = some ds → FrL k g cells cs ds) → RelS G1 w { σ with objs := objs', rows := σ.rows.set k ⟨g + 1, [], none⟩ } := by
  have hklt := (List.getElem?_eq_some_iff.1 hr).1
  obtain ⟨p, hp⟩ := hS.totr k hklt
  obtain ⟨gc, b, o, C⟩ := p
  obtain ⟨r, h1, h2, h3, h4, h5⟩ := hS.row k gc b o C hp
  rw [hr] at h1; cases h1
  simp only at h2 h3 h4 h5
  subst h2
  let G1 := G.sealRow k g b o cells.length
  have htag : ∀ j, j < cells.length → G.tag b (o + j) = .row k := fun j hj => by
    obtain ⟨c, e, _, _, g3, _⟩ := h5 (by omega)
    exact g3 j (by omega)
  have hE : Ext G w G1 w := by
    refine ⟨rfl, rfl, rfl, rfl, Nat.le_refl _, fun _ c _ _ h => ⟨c, h, rfl, fun _ _ => rfl⟩, fun _ _ h _ => h, fun B q h => ?_, fun B q _ h => ?_, fun _ _ h => h, fun _ m r h => ⟨m, r, h, Nat.le_refl _, fun _ => rfl⟩, fun i m r hi => ?_⟩
    · show (if _ then _ else _) = _
      split
      · rfl
      · exact h
    · show (if _ then _ else _) = _
      split
      · rename_i hc
        obtain ⟨rfl, h6, h7⟩ := hc
        have := htag (q - o) (by omega)
        rw [show o + (q - o) = q by omega, h] at this
        cases this
      · exact h
    · show ∃ m' r', (if i = k then some (g + 1, 0, 0, 0) else G.rw i) = some (m', r') ∧ _
      by_cases hik : i = k
      · subst hik
        rw [if_pos rfl]
        rw [hp] at hi; cases hi
        exact ⟨_, _, rfl, by omega, fun e => by omega⟩
      · rw [if_neg hik]
        exact ⟨m, r, hi, Nat.le_refl _, fun _ => rfl⟩
  have hkeep : ∀ B q, G.tag B q ≠ .row k → G1.tag B q = G.tag B q := fun B q h => by
    show (if _ then _ else _) = _
    rw [if_neg (fun hc => ?_)]
    obtain ⟨rfl, h6, h7⟩ := hc
    have := htag (q - o) (by omega)
    rw [show o + (q - o) = q by omega] at this
    exact h this
  have hfr : ∀ x a, AVR G w x a → ∀ a', Fr k g cells a a' → AVR G1 w x a' := by
    intro x a hx
    induction hx with
    | @row k' g' off sz n c gc' b' o' C' ad hk hg hn ha hc =>
      intro a' hf
      cases hf with
      | same => exact (AVR.row hk hg hn ha hc).mono hE
      | row hle =>
        rw [hp] at hk; cases hk
        obtain ⟨hc1, hc2⟩ := hc rfl
        by_cases h0 : n * sz = 0
        · have he : (cells.drop off).take (n * sz) = [] := by rw [h0]; simp
          rw [he]
          by_cases hn0 : n = 0
          · subst hn0; exact .sl0 trivial
          · have hsz0 : sz = 0 := by
              rcases Nat.mul_eq_zero.1 h0 with h | h
              · exact (hn0 h).elim
              · exact h
            subst hsz0
            have had := hc2 (by omega)
            subst had
            exact .sl [] rfl (by simp) hn (by simp) (by simp) (by simp) trivial
        · obtain ⟨cur, e, g1, g2, g3, g4, g5⟩ := h5 (by omega)
          have hn0 : n ≠ 0 := fun e => by subst e; simp at h0
          have had := hc2 (by omega)
          subst had
          have hl : ((cells.drop off).take (n * sz)).length = n * sz := by simp; omega
          refine .sl ((cur.toList.drop (o + off)).take (n * sz)) (by simp; omega) hl hn (fun j hj => ?_) (fun j x hj => ?_) (fun j x a hj ha => ?_) trivial
          · rw [hl] at hj
            show (if _ then _ else _) = _
            rw [if_pos ⟨rfl, by omega, by omega⟩]
          · rw [List.getElem?_take] at hj
            split at hj
            · rw [List.getElem?_drop] at hj
              refine ⟨by rw [heap_cell g1]; simpa using hj, g4 (off + j) x (by omega) (by rw [← Nat.add_assoc]; simpa using hj)⟩
            · cases hj
          · rw [List.getElem?_take] at hj ha
            split at hj
            · rename_i hjl
              rw [if_pos hjl, List.getElem?_drop] at ha
              rw [List.getElem?_drop] at hj
              exact (g5 (off + j) x a (by rw [← Nat.add_assoc]; simpa using hj) ha).mono hE
            · cases hj
    | agg hl hh ih =>
      intro a' hf
      cases hf with
      | same => exact (AVR.agg hl hh).mono hE
      | agg hL =>
        obtain ⟨e1, e2⟩ := hL.get
        refine .agg (hl.trans e1) (fun j y b hy hb => ?_)
        have hlt : j < _ := (Array.getElem?_eq_some_iff.1 hy).1
        rename_i cs as9 bs
        have hja : j < as9.length := by omega
        exact ih j y _ hy (List.getElem?_eq_getElem hja) b (e2 j _ b (List.getElem?_eq_getElem hja) hb)
    | tup hl hh ih =>
      intro a' hf
      cases hf with
      | same => exact (AVR.tup hl hh).mono hE
      | tup hL =>
        obtain ⟨e1, e2⟩ := hL.get
        refine .tup (hl.trans e1) (fun j y b hy hb => ?_)
        have hlt : j < _ := (Array.getElem?_eq_some_iff.1 hy).1
        rename_i cs as9 bs
        have hja : j < as9.length := by omega
        exact ih j y _ hy (List.getElem?_eq_getElem hja) b (e2 j _ b (List.getElem?_eq_getElem hja) hb)
    | v h => intro a' hf; cases hf; exact .v h
    | sl0 ht => intro a' hf; cases hf; exact (AVR.sl0 ht).mono hE
    | sl xs hl hn hc hs hx h ht => intro a' hf; cases hf; exact (AVR.sl xs hl hn hc hs hx h ht).mono hE
    | ep xs hl hs hx h => intro a' hf; cases hf; exact (AVR.ep xs hl hs hx h).mono hE
    | ptr h => intro a' hf; cases hf; exact (AVR.ptr h).mono hE
    | bs h hc => intro a' hf; cases hf; exact (AVR.bs h hc).mono hE
    | fn hl h => intro a' hf; cases hf; exact (AVR.fn hl h).mono hE
    | rp h hg hc => intro a' hf; cases hf; exact (AVR.rp h hg hc).mono hE
    | any h => intro a' hf; cases hf; exact .any h
  refine ⟨G1, hE, fun x a a' hx hf => hfr x a hx a' hf, fun objs' hlen hobj => ⟨?_, hS.inj, ?_, fun B q hB => ?_, fun gl cs hg => (hS.gl gl cs hg).mono hE, fun id hid => hS.tot id (by simp only at hid; omega), hS.totk, ?_, ?_⟩⟩
  · intro id b' hpl
    obtain ⟨c, e, cs, f1, f2, f3, f4, f5⟩ := hS.obj id b' hpl
    have hid : id < objs'.length := by rw [hlen]; exact (List.getElem?_eq_some_iff.1 f1).1
    obtain ⟨e1, e2⟩ := (hobj id cs _ f1 (List.getElem?_eq_getElem hid)).get
    refine ⟨c, e, objs'[id], List.getElem?_eq_getElem hid, f2, f3.trans e1, fun j hj => ?_, fun j x a hx ha => ?_⟩
    · rw [hkeep _ _ (by rw [f4 j hj]; simp)]; exact f4 j hj
    · have hj : j < cs.length := by rw [e1]; exact (List.getElem?_eq_some_iff.1 ha).1
      exact hfr x _ (f5 j x _ hx (List.getElem?_eq_getElem hj)) a (e2 j _ a (List.getElem?_eq_getElem hj) ha)
  · intro i m b' lo hi hi'
    obtain ⟨t1, t2⟩ := hS.tok i m b' lo hi hi'
    refine ⟨t1, fun hlt => ?_⟩
    obtain ⟨c, e, g1, g2, g3⟩ := t2 hlt
    exact ⟨c, e, g1, g2, fun j hj hj2 => by rw [hkeep _ _ (by rw [g3 j hj hj2]; simp)]; exact g3 j hj hj2⟩
  · rw [hkeep _ _ (by rw [hS.fresh B q hB]; simp)]; exact hS.fresh B q hB
  · intro i gi bi oi Ci hi
    have hi' : (if i = k then some (g + 1, 0, 0, 0) else G.rw i) = some (gi, bi, oi, Ci) := hi
    by_cases hik : i = k
    · subst hik
      rw [if_pos rfl] at hi'
      cases hi'
      exact ⟨⟨g + 1, [], none⟩, by simp [hklt], rfl, by simp, ⟨fun s e => (by cases e), fun h => (by omega)⟩⟩
    · rw [if_neg hik] at hi'
      obtain ⟨ri, f1, f2, f3, f4, f5⟩ := hS.row i gi bi oi Ci hi'
      refine ⟨ri, by show (σ.rows.set k _)[i]? = _; rw [List.getElem?_set_ne (Ne.symm hik)]; exact f1, f2, f3, f4, fun hCi => ?_⟩
      obtain ⟨c, e, g1, g2, g3, g4, g5⟩ := f5 hCi
      exact ⟨c, e, g1, g2, fun j hj => by rw [hkeep _ _ (by rw [g3 j hj]; simp; exact hik)]; exact g3 j hj, g4, fun j x a hx ha => (g5 j x a hx ha).mono hE⟩
  · intro i hi
    show ∃ p, (if i = k then some (g + 1, 0, 0, 0) else G.rw i) = some p
    by_cases h : i = k
    · rw [if_pos h]; exact ⟨_, rfl⟩
    · rw [if_neg h]; exact hS.totr i (by simpa using hi)

theorem callsA_freeze_row {f : FuncId} {args : List AV} {Q Q' : AV → St → Prop} (h0 : CallsA P f args σ Q)
    (h : ∀ av σ0, Q av σ0 → ∃ k g cells sp av' objs', σ0.rows[k]? = some ⟨g, cells, sp⟩ ∧ Fr k g cells av av' ∧ objs'.length = σ0.objs.length ∧ (∀ (id : Nat) cs ds, σ0.objs[id]? = some cs → objs'[id]? = some ds → FrL k g cells cs ds) ∧
      Q' av' { σ0 with objs := objs', rows := σ0.rows.set k ⟨g + 1, [], none⟩ }) : CallsA P f args σ Q' :=
  callsA_turn h0 (fun G' w' v av σ0 hq hS hv => by
    obtain ⟨k, g, cells, sp, av', objs', h1, h2, h3, h4, h5⟩ := h av σ0 hq
    obtain ⟨G1, e1, e2, e3⟩ := fr_sound hS h1
    exact ⟨G1, av', _, e1, e3 objs' h3 h4, e2 v av av' hv h2, h5⟩)

theorem callsA_freeze_ret {f : FuncId} {args : List AV} {cells : List AV} {sz n : Nat} (h0 : CallsA P f args σ (fun av σ' => ∃ g sp, av = .row σ.rows.length g 0 sz n ∧ σ' = { σ with rows := σ.rows ++ [⟨g, cells, sp⟩] }))
    (hl : cells.length = n * sz) (hu : underL σ.bd cells = true) : CallsA P f args σ (fun av σ' => av = .sl sz cells n .shut ∧ σ' = σ) := by
  have h1 : CallsA P f args σ (fun av σ' => av = .sl sz cells n .shut ∧ ∃ r, σ' = { σ with rows := σ.rows ++ [r] }) := by
    refine callsA_freeze_row h0 (fun av σ0 ⟨g, sp, e1, e2⟩ => ⟨σ.rows.length, g, cells, sp, .sl sz cells n .shut, σ.objs, ?_, ?_, ?_, ?_, rfl, ⟨g + 1, [], none⟩, ?_⟩)
    · rw [e2]; simp
    · rw [e1]
      have := Fr.row (k := σ.rows.length) (g := g) (cells := cells) (off := 0) (sz := sz) (n := n) (by omega)
      simpa [← hl] using this
    · rw [e2]
    · intro id cs ds h1 h2
      rw [e2] at h1
      simp only at h1
      rw [h1] at h2; cases h2
      exact FrL.refl _
    · rw [e2]; simp
  refine callsA_gc_to (τ := σ) h1 (fun av σ' ⟨e1, r, e2⟩ => ⟨[], [], [r], e1 ▸ Wk.refl _, by rw [e2]; simp⟩) (by simp [AV.under, hu]) rfl rfl rfl rfl (fun _ _ h => .inl h) (fun _ r h => .inl ⟨r, h, rfl⟩)

mutual
inductive Mv (k g k' g' : Nat) : AV → AV → Prop
  | same (a : AV) : Mv k g k' g' a a
  | row (off sz n : Nat) : Mv k g k' g' (.row k' g' off sz n) (.row k (g + 1) off sz n)
  | agg {as9 bs : List AV} (h : MvL k g k' g' as9 bs) : Mv k g k' g' (.agg as9) (.agg bs)
  | tup {as9 bs : List AV} (h : MvL k g k' g' as9 bs) : Mv k g k' g' (.tup as9) (.tup bs)
inductive MvL (k g k' g' : Nat) : List AV → List AV → Prop
  | nil : MvL k g k' g' [] []
  | cons {a b : AV} {l m : List AV} (h : Mv k g k' g' a b) (t : MvL k g k' g' l m) : MvL k g k' g' (a :: l) (b :: m)
end

theorem MvL.get {k g k' g' : Nat} : ∀ {l m : List AV}, MvL k g k' g' l m → l.length = m.length ∧ ∀ (j : Nat) a b, l[j]? = some a → m[j]? = some b → Mv k g k' g' a b
  | _, _, .nil => by simp
  | _, _, .cons h t => by
    obtain ⟨h1, h2⟩ := MvL.get t
    refine ⟨by simp [h1], fun j a b ha hb => ?_⟩
    match j with
    | 0 => simp at ha hb; subst ha; subst hb; exact h
    | j + 1 => exact h2 j a b (by simpa using ha) (by simpa using hb)

theorem MvL.refl {k g k' g' : Nat} : ∀ (l : List AV), MvL k g k' g' l l
  | [] => .nil
  | a :: l => .cons (.same a) (MvL.refl l)

theorem mv_sound {G : Gh} {w : World} {σ : St} (hS : RelS G w σ) {k k' : Nat} {r r' : RowSt} (hr : σ.rows[k]? = some r) (hr' : σ.rows[k']? = some r') (hne : k ≠ k') :
    ∃ G1, Ext G w G1 w ∧ (∀ x a a', AVR G w x a → Mv k r.gen k' r'.gen a a' → AVR G1 w x a') ∧
      ∀ objs', objs'.length = σ.objs.length → (∀ (id : Nat) cs ds, σ.objs[id]? = some cs → objs'[id]? = some ds → MvL k r.gen k' r'.gen cs ds) →
        RelS G1 w { σ with objs := objs', rows := (σ.rows.set k ⟨r.gen + 1, r'.cells, r'.spare⟩).set k' ⟨r'.gen + 1, [], none⟩ } := by
  have hklt := (List.getElem?_eq_some_iff.1 hr).1
  have hklt' := (List.getElem?_eq_some_iff.1 hr').1
  obtain ⟨p, hp⟩ := hS.totr k hklt
  obtain ⟨p', hp'⟩ := hS.totr k' hklt'
  obtain ⟨gc, b, o, C⟩ := p
  obtain ⟨gc', b', o', C'⟩ := p'
  obtain ⟨r0, h1, h2, _⟩ := hS.row k gc b o C hp
  rw [hr] at h1; cases h1
  subst h2
  obtain ⟨r1, h1, h2, h3, h4, h5⟩ := hS.row k' gc' b' o' C' hp'
  rw [hr'] at h1; cases h1
  subst h2
  let G1 : Gh := { G with
    tag := fun x q => if x = b' ∧ o' ≤ q ∧ q < o' + C' then .row k else G.tag x q
    rw := fun i => if i = k then some (r.gen + 1, b', o', C') else if i = k' then some (r'.gen + 1, 0, 0, 0) else G.rw i }
  have htag : ∀ j, j < C' → G.tag b' (o' + j) = .row k' := fun j hj => by
    obtain ⟨c, e, _, _, g3, _⟩ := h5 (by omega)
    exact g3 j (by omega)
  have hkeep : ∀ B q, G.tag B q ≠ .row k' → G1.tag B q = G.tag B q := fun B q h => by
    show (if _ then _ else _) = _
    rw [if_neg (fun hc => ?_)]
    obtain ⟨rfl, h6, h7⟩ := hc
    have := htag (q - o') (by omega)
    rw [show o' + (q - o') = q by omega] at this
    exact h this
  have hrwk : G1.rw k = some (r.gen + 1, b', o', C') := if_pos rfl
  have hE : Ext G w G1 w := by
    refine ⟨rfl, rfl, rfl, rfl, Nat.le_refl _, fun _ c _ _ h => ⟨c, h, rfl, fun _ _ => rfl⟩, fun _ _ h _ => h, fun B q h => ?_, fun B q _ h => ?_, fun _ _ h => h, fun _ m r h => ⟨m, r, h, Nat.le_refl _, fun _ => rfl⟩, fun i m q hi => ?_⟩
    · rw [hkeep B q (by rw [h]; simp)]; exact h
    · rw [hkeep B q (by rw [h]; simp)]; exact h
    · show ∃ m' r'', (if i = k then some (r.gen + 1, b', o', C') else if i = k' then some (r'.gen + 1, 0, 0, 0) else G.rw i) = some (m', r'') ∧ _
      by_cases hik : i = k
      · subst hik
        rw [if_pos rfl]
        rw [hp] at hi; cases hi
        exact ⟨_, _, rfl, by omega, fun e => by omega⟩
      · rw [if_neg hik]
        by_cases hik' : i = k'
        · subst hik'
          rw [if_pos rfl]
          rw [hp'] at hi; cases hi
          exact ⟨_, _, rfl, by omega, fun e => by omega⟩
        · rw [if_neg hik']
          exact ⟨m, q, hi, Nat.le_refl _, fun _ => rfl⟩
  have hmv : ∀ x a, AVR G w x a → ∀ a', Mv k r.gen k' r'.gen a a' → AVR G1 w x a' := by
    intro x a hx
    induction hx with
    | @row k2 g2 off sz n c gc2 b2 o2 C2 ad hk hg hn ha hc =>
      intro a' hf
      cases hf with
      | same => exact (AVR.row hk hg hn ha hc).mono hE
      | row =>
        rw [hp'] at hk; cases hk
        exact .row hrwk (Nat.le_refl _) hn ha (fun _ => hc rfl)
    | agg hl hh ih =>
      intro a' hf
      cases hf with
      | same => exact (AVR.agg hl hh).mono hE
      | agg hL =>
        obtain ⟨e1, e2⟩ := hL.get
        refine .agg (hl.trans e1) (fun j y b hy hb => ?_)
        have hlt : j < _ := (Array.getElem?_eq_some_iff.1 hy).1
        rename_i cs as9 bs
        have hja : j < as9.length := by omega
        exact ih j y _ hy (List.getElem?_eq_getElem hja) b (e2 j _ b (List.getElem?_eq_getElem hja) hb)
    | tup hl hh ih =>
      intro a' hf
      cases hf with
      | same => exact (AVR.tup hl hh).mono hE
      | tup hL =>
        obtain ⟨e1, e2⟩ := hL.get
        refine .tup (hl.trans e1) (fun j y b hy hb => ?_)
        have hlt : j < _ := (Array.getElem?_eq_some_iff.1 hy).1
        rename_i cs as9 bs
        have hja : j < as9.length := by omega
        exact ih j y _ hy (List.getElem?_eq_getElem hja) b (e2 j _ b (List.getElem?_eq_getElem hja) hb)
    | v h => intro a' hf; cases hf; exact .v h
    | sl0 ht => intro a' hf; cases hf; exact (AVR.sl0 ht).mono hE
    | sl xs hl hn hc hs hx h ht => intro a' hf; cases hf; exact (AVR.sl xs hl hn hc hs hx h ht).mono hE
    | ep xs hl hs hx h => intro a' hf; cases hf; exact (AVR.ep xs hl hs hx h).mono hE
    | ptr h => intro a' hf; cases hf; exact (AVR.ptr h).mono hE
    | bs h hc => intro a' hf; cases hf; exact (AVR.bs h hc).mono hE
    | fn hl h => intro a' hf; cases hf; exact (AVR.fn hl h).mono hE
    | rp h hg hc => intro a' hf; cases hf; exact (AVR.rp h hg hc).mono hE
    | any h => intro a' hf; cases hf; exact .any h
  refine ⟨G1, hE, fun x a a' hx hf => hmv x a hx a' hf, fun objs' hlen hobj => ⟨?_, hS.inj, ?_, fun B q hB => ?_, fun gl cs hg => (hS.gl gl cs hg).mono hE, fun id hid => hS.tot id (by simp only at hid; omega), hS.totk, ?_, ?_⟩⟩
  · intro id b2 hpl
    obtain ⟨c, e, cs, f1, f2, f3, f4, f5⟩ := hS.obj id b2 hpl
    have hid : id < objs'.length := by rw [hlen]; exact (List.getElem?_eq_some_iff.1 f1).1
    obtain ⟨e1, e2⟩ := (hobj id cs _ f1 (List.getElem?_eq_getElem hid)).get
    refine ⟨c, e, objs'[id], List.getElem?_eq_getElem hid, f2, f3.trans e1, fun j hj => ?_, fun j x a hx ha => ?_⟩
    · rw [hkeep _ _ (by rw [f4 j hj]; simp)]; exact f4 j hj
    · have hj : j < cs.length := by rw [e1]; exact (List.getElem?_eq_some_iff.1 ha).1
      exact hmv x _ (f5 j x _ hx (List.getElem?_eq_getElem hj)) a (e2 j _ a (List.getElem?_eq_getElem hj) ha)
  · intro i m b2 lo hi hi'
    obtain ⟨t1, t2⟩ := hS.tok i m b2 lo hi hi'
    refine ⟨t1, fun hlt => ?_⟩
    obtain ⟨c, e, g1, g2, g3⟩ := t2 hlt
    exact ⟨c, e, g1, g2, fun j hj hj2 => by rw [hkeep _ _ (by rw [g3 j hj hj2]; simp)]; exact g3 j hj hj2⟩
  · rw [hkeep _ _ (by rw [hS.fresh B q hB]; simp)]; exact hS.fresh B q hB
  · intro i gi bi oi Ci hi
    have hi' : (if i = k then some (r.gen + 1, b', o', C') else if i = k' then some (r'.gen + 1, 0, 0, 0) else G.rw i) = some (gi, bi, oi, Ci) := hi
    by_cases hik : i = k
    · subst hik
      rw [if_pos rfl] at hi'
      cases hi'
      refine ⟨⟨r.gen + 1, r'.cells, r'.spare⟩, (by show ((σ.rows.set _ _).set k' _)[_]? = _; rw [List.getElem?_set_ne (Ne.symm hne), List.getElem?_set_self hklt]), rfl, h3, h4, fun hC => ?_⟩
      obtain ⟨c, e, g1, g2, g3, g4, g5⟩ := h5 hC
      refine ⟨c, e, g1, g2, fun j hj => ?_, g4, fun j x a hx ha => (g5 j x a hx ha).mono hE⟩
      show (if _ then _ else _) = _
      rw [if_pos ⟨rfl, by omega, by omega⟩]
    · rw [if_neg hik] at hi'
      by_cases hik' : i = k'
      · subst hik'
        rw [if_pos rfl] at hi'
        cases hi'
        exact ⟨⟨r'.gen + 1, [], none⟩, by simp [hklt'], rfl, by simp, ⟨fun s e => (by cases e), fun h => (by omega)⟩⟩
      · rw [if_neg hik'] at hi'
        obtain ⟨ri, f1, f2, f3, f4, f5⟩ := hS.row i gi bi oi Ci hi'
        refine ⟨ri, by show ((σ.rows.set k _).set k' _)[i]? = _; rw [List.getElem?_set_ne (Ne.symm hik'), List.getElem?_set_ne (Ne.symm hik)]; exact f1, f2, f3, f4, fun hCi => ?_⟩
        obtain ⟨c, e, g1, g2, g3, g4, g5⟩ := f5 hCi
        exact ⟨c, e, g1, g2, fun j hj => by rw [hkeep _ _ (by rw [g3 j hj]; simp; exact hik')]; exact g3 j hj, g4, fun j x a hx ha => (g5 j x a hx ha).mono hE⟩
  · intro i hi
    show ∃ p, (if i = k then some (r.gen + 1, b', o', C') else if i = k' then some (r'.gen + 1, 0, 0, 0) else G.rw i) = some p
    by_cases h : i = k
    · rw [if_pos h]; exact ⟨_, rfl⟩
    · rw [if_neg h]
      by_cases h' : i = k'
      · rw [if_pos h']; exact ⟨_, rfl⟩
      · rw [if_neg h']; exact hS.totr i (by simpa using hi)

mutual
def AV.gcO (nb : Nat) : AV → AV
  | .v x => .v x
  | .agg cs => .agg (gcOL nb cs)
  | .tup vs => .tup (gcOL nb vs)
  | .sl sz cs n t => if noObjL nb cs then .sl sz cs n t else .any
  | .ep cs => if noObjL nb cs then .ep cs else .any
  | .ptr id off => if id < nb then .ptr id off else .any
  | .bs id off sz n => if id < nb then .bs id off sz n else .any
  | .fn f cs => if noObjL nb cs then .fn f cs else .any
  | .row k g off sz n => .row k g off sz n
  | .rp k g off => .rp k g off
  | .any => .any
def gcOL (nb : Nat) : List AV → List AV
  | [] => []
  | a :: l => a.gcO nb :: gcOL nb l
def AV.noObj (nb : Nat) : AV → Bool
  | .v _ => true
  | .agg cs => noObjL nb cs
  | .tup vs => noObjL nb vs
  | .sl _ cs _ _ => noObjL nb cs
  | .ep cs => noObjL nb cs
  | .ptr id _ => decide (id < nb)
  | .bs id _ _ _ => decide (id < nb)
  | .fn _ cs => noObjL nb cs
  | .row .. | .rp .. | .any => true
def noObjL (nb : Nat) : List AV → Bool
  | [] => true
  | a :: l => a.noObj nb && noObjL nb l
end

theorem noObjL_get {nb : Nat} : ∀ {l : List AV} {j : Nat} {a : AV}, noObjL nb l = true → l[j]? = some a → a.noObj nb = true
  | [], j, a, _, h => by simp at h
  | b :: l, 0, a, h, hj => by
    simp only [noObjL, Bool.and_eq_true] at h
    simp at hj; subst hj; exact h.1
  | b :: l, j + 1, a, h, hj => by
    simp only [noObjL, Bool.and_eq_true] at h
    exact noObjL_get h.2 (by simpa using hj)

theorem noObjL_append {nb : Nat} : ∀ {l m : List AV}, noObjL nb (l ++ m) = (noObjL nb l && noObjL nb m)
  | [], m => by simp [noObjL]
  | a :: l, m => by simp [noObjL, noObjL_append, Bool.and_assoc]

theorem gcOL_length {nb : Nat} : ∀ l : List AV, (gcOL nb l).length = l.length
  | [] => rfl
  | a :: l => by simp [gcOL, gcOL_length l]

theorem gcOL_get {nb : Nat} : ∀ {l : List AV} {j : Nat} {a : AV}, (gcOL nb l)[j]? = some a → ∃ b, l[j]? = some b ∧ a = b.gcO nb
  | [], j, a, h => by simp [gcOL] at h
  | b :: l, 0, a, h => by simp [gcOL] at h; exact ⟨b, rfl, h.symm⟩
  | b :: l, j + 1, a, h => by
    simp only [gcOL, List.getElem?_cons_succ] at h
    obtain ⟨c, h1, h2⟩ := gcOL_get h
    exact ⟨c, by simpa using h1, h2⟩

def Gh.forgetO (G0 G : Gh) : Gh := { G with pl := G0.pl }

theorem AVR.forgetO {G0 G : Gh} {w0 w : World} {nb : Nat} (hE : Ext G0 w0 G w) (h1 : ∀ id, id < nb → ∃ b, G0.pl id = some b) {x : Value} {a : AV} (h : AVR G w x a) : a.noObj nb = true → AVR (G0.forgetO G) w x a := by
  have tl : ∀ {t : Tail} {ad : Option Addr} {n c sz : Nat}, TailOk G t ad n c sz → TailOk (G0.forgetO G) t ad n c sz := by
    intro t ad n c sz ht
    cases t <;> exact ht
  induction h with
  | v h => exact fun _ => .v h
  | agg hl _ ih => exact fun hb => .agg hl (fun j x a hx ha => ih j x a hx ha (noObjL_get hb ha))
  | tup hl _ ih => exact fun hb => .tup hl (fun j x a hx ha => ih j x a hx ha (noObjL_get hb ha))
  | sl0 ht => exact fun _ => .sl0 (tl ht)
  | sl xs hl hn hc hs hx _ ht ih => exact fun hb => .sl xs hl hn hc hs hx (fun j x a hx ha => ih j x a hx ha (noObjL_get hb ha)) (tl ht)
  | ep xs hl hs hx _ ih => exact fun hb => .ep xs hl hs hx (fun j x a hx ha => ih j x a hx ha (noObjL_get hb ha))
  | ptr h =>
    intro hb
    obtain ⟨b', hb'⟩ := h1 _ (by simpa [AV.noObj] using hb)
    have := hE.pl _ _ hb'
    rw [this] at h; cases h
    exact .ptr hb'
  | bs h hc =>
    intro hb
    obtain ⟨b', hb'⟩ := h1 _ (by simpa [AV.noObj] using hb)
    have := hE.pl _ _ hb'
    rw [this] at h; cases h
    exact .bs hb' hc
  | fn hl _ ih => exact fun hb => .fn hl (fun j x a hx ha => ih j x a hx ha (noObjL_get hb ha))
  | row h hg hn ha hc => exact fun _ => .row h hg hn ha hc
  | rp h hg hc => exact fun _ => .rp h hg hc
  | any h => exact fun _ => .any h

theorem AVR.gcO {G0 G : Gh} {w0 w : World} {nb : Nat} (hE : Ext G0 w0 G w) (h1 : ∀ id, id < nb → ∃ b, G0.pl id = some b) {x : Value} {a : AV} (h : AVR G w x a) : AVR (G0.forgetO G) w x (a.gcO nb) := by
  have keep : ∀ {x : Value} {a : AV}, AVR G w x a → x.oneCell' = true → AVR (G0.forgetO G) w x (if a.noObj nb then a else .any) := by
    intro x a hx ho
    split
    · rename_i h; exact hx.forgetO hE h1 h
    · exact .any ho
  induction h with
  | v h => exact .v h
  | agg hl _ ih =>
    refine .agg (by rw [gcOL_length]; exact hl) (fun j x a hx ha => ?_)
    obtain ⟨b, h2, rfl⟩ := gcOL_get ha
    exact ih j x b hx h2
  | tup hl _ ih =>
    refine .tup (by rw [gcOL_length]; exact hl) (fun j x a hx ha => ?_)
    obtain ⟨b, h2, rfl⟩ := gcOL_get ha
    exact ih j x b hx h2
  | sl0 ht => exact keep (.sl0 ht) rfl
  | sl xs hl hn hc hs hx h ht _ => exact keep (.sl xs hl hn hc hs hx h ht) rfl
  | ep xs hl hs hx h _ => exact keep (.ep xs hl hs hx h) rfl
  | @ptr id off b h =>
    have := keep (AVR.ptr (w := w) (off := off) h) rfl
    simpa [AV.noObj, AV.gcO] using this
  | @bs id off sz n b c h hc =>
    have := keep (AVR.bs (w := w) (off := off) (sz := sz) h hc) rfl
    simpa [AV.noObj, AV.gcO] using this
  | fn hl h _ => exact keep (.fn hl h) rfl
  | row h hg hn ha hc => exact .row h hg hn ha hc
  | rp h hg hc => exact .rp h hg hc
  | any h => exact .any h

theorem noObj_all {G : Gh} {w : World} {σ : St} (hS : RelS G w σ) {x : Value} {a : AV} (hx : AVR G w x a) : a.noObj σ.objs.length = true := by
  have h := under_all hS hx
  have key : (∀ (a : AV) (B : Bd), a.under B = true → a.noObj B.nb = true) := by
    intro a
    refine AV.rec (motive_1 := fun a => ∀ B : Bd, a.under B = true → a.noObj B.nb = true) (motive_2 := fun l => ∀ B : Bd, underL B l = true → noObjL B.nb l = true) ?_ ?_ ?_ ?_ ?_ ?_ ?_ ?_ ?_ ?_ ?_ ?_ ?_ a
    · intro x B h; rfl
    · intro cs ih B h; exact ih B h
    · intro cs ih B h; exact ih B h
    · intro sz cs n t ih B h
      simp only [AV.under, Bool.and_eq_true] at h
      exact ih B h.1
    · intro cs ih B h; exact ih B h
    · intro id off B h; exact h
    · intro id off sz n B h; exact h
    · intro f cs ih B h; exact ih B h
    · intro k g off sz n B h; rfl
    · intro k g off B h; rfl
    · intro B h; rfl
    · intro B h; rfl
    · intro a l ih1 ih2 B h
      simp only [underL, Bool.and_eq_true] at h
      simp only [noObjL, Bool.and_eq_true]
      exact ⟨ih1 B h.1, ih2 B h.2⟩
  exact key a _ h

structure GoneO (σ0 σ1 : St) : Prop where
  len : σ0.objs.length ≤ σ1.objs.length
  gl : σ1.gl = σ0.gl
  objs : ∀ (id : Nat) cs, id < σ0.objs.length → σ1.objs[id]? = some cs → σ0.objs[id]? = some cs ∨ noObjL σ0.objs.length cs = true
  rows : ∀ (k : Nat) r, σ1.rows[k]? = some r → (∃ r0, σ0.rows[k]? = some r0 ∧ r0.cells = r.cells) ∨ noObjL σ0.objs.length r.cells = true

def St.trimO (σ0 σ1 : St) : St := { σ1 with objs := σ1.objs.take σ0.objs.length }

theorem RelS.trimO {G0 G : Gh} {w0 w : World} {σ0 σ1 : St} (hS0 : RelS G0 w0 σ0) (hS : RelS G w σ1) (hE : Ext G0 w0 G w) (hg : GoneO σ0 σ1) : Ext G0 w0 (G0.forgetO G) w ∧ RelS (G0.forgetO G) w (σ0.trimO σ1) := by
  have hE2 : Ext G0 w0 (G0.forgetO G) w := ⟨hE.base, hE.os, hE.tape, hE.output, hE.size, hE.blk, hE.oth, hE.sealed, hE.no, fun _ _ h => h, hE.tl, hE.rw⟩
  have hlt : ∀ id b, G0.pl id = some b → id < σ0.objs.length := fun id b hp => by
    obtain ⟨_, _, _, h1, _⟩ := hS0.obj id b hp
    exact (List.getElem?_eq_some_iff.1 h1).1
  have hfor : ∀ {x : Value} {a : AV}, AVR G w x a → a.noObj σ0.objs.length = true → AVR (G0.forgetO G) w x a := fun hx hb => hx.forgetO hE hS0.tot hb
  refine ⟨hE2, ⟨?_, hS0.inj, hS.tok, hS.fresh, fun g cs hgl => ?_, ?_, hS.totk, ?_, hS.totr⟩⟩
  · intro id b hp
    obtain ⟨c, e, cs, h1, h2, h3, h4, h5⟩ := hS.obj id b (hE.pl _ _ hp)
    have hid := hlt id b hp
    refine ⟨c, e, cs, ?_, h2, h3, h4, fun j x a hx ha => ?_⟩
    · show (σ1.objs.take _)[id]? = some cs
      rw [List.getElem?_take, if_pos hid]; exact h1
    · rcases hg.objs id cs hid h1 with h6 | h6
      · exact hfor (h5 j x a hx ha) (by
          obtain ⟨c0, e0, cs0, g1, g2, g3, g4, g5⟩ := hS0.obj id b hp
          rw [h6] at g1; cases g1
          have hj : j < c0.size := by rw [g3]; exact (List.getElem?_eq_some_iff.1 ha).1
          exact noObj_all hS0 (g5 j c0[j] a (Array.getElem?_eq_getElem hj) ha))
      · exact hfor (h5 j x a hx ha) (noObjL_get h6 ha)
  · have h0 : σ1.gl g = some cs := hgl
    rw [hg.gl] at h0
    exact (hS0.gl g cs h0).mono hE2
  · intro id hid
    refine hS0.tot id ?_; simp [St.trimO] at hid; omega
  · intro k gc b o C hk
    obtain ⟨r, h1, h2, h3, h4, h5⟩ := hS.row k gc b o C hk
    refine ⟨r, h1, h2, h3, h4, fun hC => ?_⟩
    obtain ⟨c, e, g1, g2, g3, g4, g5⟩ := h5 hC
    refine ⟨c, e, g1, g2, g3, g4, fun j x a hx ha => hfor (g5 j x a hx ha) ?_⟩
    rcases hg.rows k r h1 with ⟨r0, h6, h7⟩ | h6
    · rw [← h7] at ha
      have hkl := (List.getElem?_eq_some_iff.1 h6).1
      obtain ⟨p, hp⟩ := hS0.totr k hkl
      obtain ⟨gc0, b0, o0, C0⟩ := p
      obtain ⟨r0', f1, f2, f3, f4, f5⟩ := hS0.row k _ _ _ _ hp
      rw [h6] at f1; cases f1
      have hjl := (List.getElem?_eq_some_iff.1 ha).1
      obtain ⟨c0, e0, s1, s2, s3, s4, s5⟩ := f5 (by omega)
      have hlt0 : o0 + j < c0.size := by omega
      exact noObj_all hS0 (s5 j c0[o0 + j] a (Array.getElem?_eq_getElem hlt0) ha)
    · exact noObjL_get h6 ha

def DropsO (σ0 : St) (ρ : Nat → AV) (σ : St) (ρ2 : Nat → AV) (σ2 : St) : Prop := GoneO σ0 σ ∧ ρ2 = (fun r => (ρ r).gcO σ0.objs.length) ∧ σ2 = σ0.trimO σ

theorem turns_drop (N : Nat) (σ0 : St) : Turns N σ0 (DropsO σ0) := fun G0 w0 G w a ρ σ ρ2 σ2 hS0 hE hR h => by
  obtain ⟨hg, rfl, rfl⟩ := h
  obtain ⟨h1, h2⟩ := hS0.trimO hR.s hE hg
  exact ⟨_, h1, ⟨h2, ⟨fun d hd => (by obtain ⟨D, g1, g2, g3⟩ := hR.defers.1 d hd; exact ⟨D, g1, g2, g3⟩), hR.defers.2⟩, hR.size, fun i => (hR.env i).gcO hE hS0.tot⟩⟩

theorem run_loopG {c : Code} {X : Type} {Q : Exit → (Nat → AV) → St → Prop} (F : List Nat) (I : X → (Nat → AV) → St → Prop) (μ : X → Nat) (x0 : X) (h0 : I x0 ρ σ)
    (round : ∀ x ρ1 σ1, (∀ r, r ∈ F → ρ1 r = ρ r) → I x ρ1 σ1 → Run z P N c ρ1 σ1 (fun e ρ' σ' => match e with
      | .normal => GoneO σ σ' ∧ ∃ y, ((∀ r, r ∈ F → (ρ' r).gcO σ.objs.length = ρ r) ∧ I y (fun r => (ρ' r).gcO σ.objs.length) (σ.trimO σ')) ∧ μ y < μ x
      | e => Q e ρ' σ')) : Run z P N (.loop c) ρ σ Q :=
  run_loopT (turns_drop N σ) (fun x ρ' σ' => (∀ r, r ∈ F → ρ' r = ρ r) ∧ I x ρ' σ') μ x0 ⟨fun _ _ => rfl, h0⟩ (fun x ρ1 σ1 h => run_mono (round x ρ1 σ1 h.1 h.2) (fun e ρ' σ' hq => by
    cases e with
    | normal => exact let ⟨h1, y, h2, h3⟩ := hq; ⟨y, _, _, ⟨h1, rfl, rfl⟩, h2, h3⟩
    | _ => exact hq))

inductive Kp (n : Nat) : List (List AV) → List (List AV) → Prop
  | nil (l : List (List AV)) : Kp n [] l
  | cons {a b : List AV} {l m : List (List AV)} (h : a = b ∨ noObjL n b = true) (t : Kp n l m) : Kp n (a :: l) (b :: m)

theorem Kp.get {n : Nat} : ∀ {l m : List (List AV)}, Kp n l m → l.length ≤ m.length ∧ ∀ (id : Nat) a b, l[id]? = some a → m[id]? = some b → a = b ∨ noObjL n b = true
  | _, _, .nil _ => by simp
  | _, _, .cons h t => by
    obtain ⟨h1, h2⟩ := Kp.get t
    refine ⟨by simp; omega, fun id a b ha hb => ?_⟩
    match id with
    | 0 => simp at ha hb; subst ha; subst hb; exact h
    | id + 1 => exact h2 id a b (by simpa using ha) (by simpa using hb)

theorem Kp.of {n : Nat} : ∀ {l m : List (List AV)}, l.length ≤ m.length → (∀ (id : Nat) a b, l[id]? = some a → m[id]? = some b → a = b ∨ noObjL n b = true) → Kp n l m
  | [], m, _, _ => .nil m
  | a :: l, [], h, _ => by simp at h
  | a :: l, b :: m, h, k => .cons (k 0 a b rfl rfl) (Kp.of (by simpa using h) (fun id x y hx hy => k (id + 1) x y (by simpa using hx) (by simpa using hy)))

theorem kp_refl {n : Nat} (l : List (List AV)) : Kp n l l := Kp.of (Nat.le_refl _) (fun id a b h1 h2 => by rw [h1] at h2; cases h2; exact .inl rfl)
theorem kp_set {n : Nat} {l m : List (List AV)} {i : Nat} {x : List AV} (h : Kp n l m) (hx : noObjL n x = true) : Kp n l (m.set i x) := by
  obtain ⟨h1, h2⟩ := h.get
  refine Kp.of (by simpa using h1) (fun id a b ha hb => ?_)
  by_cases hi : i = id
  · subst hi
    have hlt : i < m.length := by have := (List.getElem?_eq_some_iff.1 hb).1; simpa using this
    rw [List.getElem?_set_self hlt] at hb
    cases hb; exact .inr hx
  · rw [List.getElem?_set_ne hi] at hb
    exact h2 id a b ha hb
theorem kp_setset {n : Nat} {l m : List (List AV)} {i : Nat} {x y : List AV} (h : Kp n l m) (hx : noObjL n x = true) : Kp n (l.set i y) (m.set i x) := by
  obtain ⟨h1, h2⟩ := h.get
  refine Kp.of (by simpa using h1) (fun id a b ha hb => ?_)
  by_cases hi : i = id
  · subst hi
    have hlt : i < m.length := by have := (List.getElem?_eq_some_iff.1 hb).1; simpa using this
    rw [List.getElem?_set_self hlt] at hb
    cases hb; exact .inr hx
  · rw [List.getElem?_set_ne hi] at ha hb
    exact h2 id a b ha hb
theorem kp_app {n : Nat} {l m r s : List (List AV)} (hl : l.length = m.length) (h : Kp n l m) (k : Kp n r s) : Kp n (l ++ r) (m ++ s) := by
  obtain ⟨h1, h2⟩ := h.get
  obtain ⟨k1, k2⟩ := k.get
  refine Kp.of (by simp; omega) (fun id a b ha hb => ?_)
  by_cases hi : id < l.length
  · rw [List.getElem?_append_left hi] at ha
    rw [List.getElem?_append_left (by omega)] at hb
    exact h2 id a b ha hb
  · rw [List.getElem?_append_right (by omega)] at ha hb
    rw [← hl] at hb
    exact k2 _ a b ha hb
theorem kp_more {n : Nat} {l m s : List (List AV)} (h : Kp n l m) : Kp n l (m ++ s) := by
  obtain ⟨h1, h2⟩ := h.get
  refine Kp.of (by simp; omega) (fun id a b ha hb => ?_)
  have hi := (List.getElem?_eq_some_iff.1 ha).1
  rw [List.getElem?_append_left (by omega)] at hb
  exact h2 id a b ha hb

def KpR (n : Nat) (l m : List RowSt) : Prop := ∀ (k : Nat) r, m[k]? = some r → (∃ r0, l[k]? = some r0 ∧ r0.cells = r.cells) ∨ noObjL n r.cells = true

theorem kpr_refl {n : Nat} (l : List RowSt) : KpR n l l := fun k r h => .inl ⟨r, h, rfl⟩
theorem kpr_set {n : Nat} {l m : List RowSt} {i : Nat} {x : RowSt} (h : KpR n l m) (hx : noObjL n x.cells = true) : KpR n l (m.set i x) := fun k r hr => by
  by_cases hi : i = k
  · subst hi
    have hlt : i < m.length := by have := (List.getElem?_eq_some_iff.1 hr).1; simpa using this
    rw [List.getElem?_set_self hlt] at hr
    cases hr; exact .inr hx
  · rw [List.getElem?_set_ne hi] at hr
    exact h k r hr
theorem kpr_app {n : Nat} {l m : List RowSt} {x : RowSt} (h : KpR n l m) (hx : noObjL n x.cells = true) : KpR n l (m ++ [x]) := fun k r hr => by
  by_cases hi : k < m.length
  · rw [List.getElem?_append_left hi] at hr
    exact h k r hr
  · rw [List.getElem?_append_right (by omega)] at hr
    have : r = x := by
      have := List.mem_of_getElem? hr
      simpa using this
    subst this; exact .inr hx

theorem gone_kp {σ0 σ1 : St} (h1 : σ1.gl = σ0.gl) (h2 : Kp σ0.objs.length σ0.objs σ1.objs) (h3 : KpR σ0.objs.length σ0.rows σ1.rows) : GoneO σ0 σ1 := by
  obtain ⟨g1, g2⟩ := h2.get
  refine ⟨g1, h1, fun id cs hid hc => ?_, h3⟩
  have h0 : σ0.objs[id]? = some σ0.objs[id] := List.getElem?_eq_getElem hid
  rcases g2 id _ cs h0 hc with h | h
  · left; rw [h0, h]
  · exact .inr h

theorem st_app {σ' τ : St} {l : List (List AV)} {m : List Nat} {r : List RowSt} (h1 : σ'.objs = τ.objs ++ l) (h2 : σ'.toks = τ.toks ++ m) (h3 : σ'.rows = τ.rows ++ r) (h4 : σ'.gl = τ.gl) : σ' = { τ with objs := τ.objs ++ l, toks := τ.toks ++ m, rows := τ.rows ++ r } := by
  cases σ'; cases τ
  simp only at h1 h2 h3 h4
  subst h1 h2 h3 h4
  rfl

theorem callsA_gcT {f : FuncId} {args : List AV} {A : AV} {τ : St} (k : CallsA P f args σ (fun av σ' => Wk av A ∧ ∃ l m r, σ' = { τ with objs := τ.objs ++ l, toks := τ.toks ++ m, rows := τ.rows ++ r }))
    (hA : A.under σ.bd = true) (h1 : τ.objs.length = σ.objs.length) (h2 : τ.toks.length = σ.toks.length) (h3 : τ.rows.length = σ.rows.length) (h4 : τ.gl = σ.gl)
    (h5 : ∀ (id : Nat) cs, τ.objs[id]? = some cs → σ.objs[id]? = some cs ∨ underL σ.bd cs = true) (h6 : ∀ (i : Nat) r, τ.rows[i]? = some r → (∃ r0, σ.rows[i]? = some r0 ∧ r0.cells = r.cells) ∨ underL σ.bd r.cells = true) : CallsA P f args σ (fun av σ' => av = A ∧ σ' = τ) :=
  callsA_gc_to (τ := τ) k (fun av σ' ⟨hw, l, m, r, h⟩ => ⟨l, m, r, hw, h⟩) hA h1 h2 h3 h4 h5 h6

theorem ku_refl {B : Bd} (l : List (List AV)) : ∀ (id : Nat) cs, l[id]? = some cs → l[id]? = some cs ∨ underL B cs = true := fun _ _ h => .inl h
theorem ku_set {B : Bd} {l m : List (List AV)} {i : Nat} {x : List AV} (h : ∀ (id : Nat) cs, m[id]? = some cs → l[id]? = some cs ∨ underL B cs = true) (hx : underL B x = true) : ∀ (id : Nat) cs, (m.set i x)[id]? = some cs → l[id]? = some cs ∨ underL B cs = true := fun id cs hc => by
  by_cases hi : i = id
  · subst hi
    have hlt : i < m.length := by have := (List.getElem?_eq_some_iff.1 hc).1; simpa using this
    rw [List.getElem?_set_self hlt] at hc
    cases hc; exact .inr hx
  · rw [List.getElem?_set_ne hi] at hc
    exact h id cs hc
theorem kur_refl {B : Bd} (l : List RowSt) : ∀ (i : Nat) r, l[i]? = some r → (∃ r0, l[i]? = some r0 ∧ r0.cells = r.cells) ∨ underL B r.cells = true := fun _ r h => .inl ⟨r, h, rfl⟩
theorem kur_set {B : Bd} {l m : List RowSt} {j : Nat} {x : RowSt} (h : ∀ (i : Nat) r, m[i]? = some r → (∃ r0, l[i]? = some r0 ∧ r0.cells = r.cells) ∨ underL B r.cells = true) (hx : underL B x.cells = true) : ∀ (i : Nat) r, (m.set j x)[i]? = some r → (∃ r0, l[i]? = some r0 ∧ r0.cells = r.cells) ∨ underL B r.cells = true := fun i r hc => by
  by_cases hi : j = i
  · subst hi
    have hlt : j < m.length := by have := (List.getElem?_eq_some_iff.1 hc).1; simpa using this
    rw [List.getElem?_set_self hlt] at hc
    cases hc; exact .inr hx
  · rw [List.getElem?_set_ne hi] at hc
    exact h i r hc

theorem callsA_gcS {f : FuncId} {args : List AV} {A : AV} (k : CallsA P f args σ (fun av σ' => Wk av A ∧ ∃ l m r, σ' = { σ with objs := σ.objs ++ l, toks := σ.toks ++ m, rows := σ.rows ++ r }))
    (hA : A.under σ.bd = true) : CallsA P f args σ (fun av σ' => av = A ∧ σ = σ') := callsA_gc_same k (fun av σ' h => h) hA

end
end Go.Vm
