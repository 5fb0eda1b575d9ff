import Derived.Test.YtdbaddholggkbaaVmG
import Derived.Tactics
import Derived.Scope
import Derived.ScopeJumps
import Derived.RangeFuncFrom
import Derived.TacticsIn
import Derived.RangeFuncLeaves
/-
  How code runs over plain lists: one rule for each form.
-/
namespace Go.Vm
set_option linter.unnecessarySimpa false
set_option linter.unusedSimpArgs false
set_option linter.unusedVariables false
open Go

def putA (ρ : Nat → AV) (d : Option Tmp) (x : AV) : Nat → AV :=
  match d with
  | some d => fun i => if i = d then x else ρ i
  | none => ρ

/-- Is a slot one of the frame's? -/
def inN (N : Nat) : Option Tmp → Bool
  | some d => decide (d < N)
  | none => true

/-- Is an operation to be done? -/
def wantedA (ops : Array Oper) (o : Oper) (ρ : Nat → AV) : Option Bool :=
  match o.guard with
  | none => some true
  | some (j, want) => match (ops[j]?).bind (·.dst) with
    | some d => match ρ d with
      | .v (.bool b) => some (b == want)
      | .v (.tuple _) => some false
      | _ => none
    | none => some false

/-- Where code runs: in a function's own frame, or in a round of a loop over a function. -/
structure Zone where
  ro : Option Nat
  n : Nat

def Zone.F (z : Zone) : Fence := { Fence.wide with round := z.ro }

theorem zone_call {z : Zone} {n : Nat} {P : Program} {f : FuncId} {args : Array Value} {w : World} {R : Ending → World → Prop} (h : Calls P f args w R) : CallsIn z.F n P f args w R :=
  show CallsIn Fence.wide n P f args w R from callsIn_wide.2 h

theorem zone_semAt {z : Zone} {P : Program} {ρ : Nat → AV} {σ : St} {g : Operand → Value} {o : Oper} {r : AV × St} (h : opA P ρ σ o.op = some r) : Oper.semAt z.F.round g o = execOp g o :=
  Oper.semAt_eq _ g o (fun c e => by rw [e] at h; simp [opA] at h)

/-- Code over plain lists: what it comes to meets Q. -/
def Run (z : Zone) (P : Program) (N : Nat) (c : Code) (ρ : Nat → AV) (σ : St) (Q : Exit → (Nat → AV) → St → Prop) : Prop :=
  ∀ G w a (R : Exit → Act → World → Prop), Rel N G w ρ σ a → (∀ e ρ' σ' G' a' w', Q e ρ' σ' → Ext G w G' w' → Rel N G' w' ρ' σ' a' → R e a' w') → c.wpIn z.F z.n P R a w

/-- Operations, one behind the other. -/
def RunL (z : Zone) (P : Program) (N : Nat) (ops : Array Oper) (l : List Oper) (ρ : Nat → AV) (σ : St) (Q : (Nat → AV) → St → Prop) : Prop :=
  ∀ G w a (R : Exit → Act → World → Prop), Rel N G w ρ σ a → (∀ ρ' σ' G' a' w', Q ρ' σ' → Ext G w G' w' → Rel N G' w' ρ' σ' a' → R .normal a' w') → wpListIn z.F z.n P ops R l a w

/-- A call over plain lists. -/
def CallsA (P : Program) (f : FuncId) (args : List AV) (σ : St) (Q : AV → St → Prop) : Prop :=
  ∀ G w (vs : Array Value) (R : Ending → World → Prop), RelS G w σ → vs.size = args.length → (∀ (j : Nat) x b, vs[j]? = some x → args[j]? = some b → AVR G w x b) →
    (∀ v av σ' G' w', Q av σ' → Ext G w G' w' → RelS G' w' σ' → AVR G' w' v av → R (.returned v) w') → Calls P f vs w R

section
variable {z : Zone} {P : Program} {N : Nat} {ρ : Nat → AV} {σ : St}

theorem Rel.put {G : Gh} {w : World} {a : Act} (h : Rel N G w ρ σ a) {G' : Gh} {w' : World} {σ' : St} (hE : Ext G w G' w') (hS : RelS G' w' σ') {d : Option Tmp} (hd : inN N d = true) {v : Value} {x : AV} (hv : AVR G' w' v x) : Rel N G' w' (putA ρ d x) σ' (a.put d v) := by
  cases d with
  | none => exact ⟨hS, ⟨h.defers.1.mono hE, by first | exact h.defers.2.1 | simpa [Act.put] using h.defers.2.1, by rw [hE.base]; exact Nat.le_trans h.defers.2.2 hE.size⟩, h.size, fun i => (h.env i).mono hE⟩
  | some d =>
    have hd' : d < N := by simpa [inN] using hd
    refine ⟨hS, ⟨h.defers.1.mono hE, by first | exact h.defers.2.1 | simpa [Act.put] using h.defers.2.1, by rw [hE.base]; exact Nat.le_trans h.defers.2.2 hE.size⟩, by simpa [Act.put] using h.size, fun i => ?_⟩
    show AVR G' w' ((a.tmps.setIfInBounds d v).getD i undef) (if i = d then x else ρ i)
    by_cases hi : i = d
    · subst hi
      rw [if_pos rfl]
      have : i < a.tmps.size := by rw [h.size]; exact hd'
      simpa [Array.getD, this] using hv
    · rw [if_neg hi]
      have e : (a.tmps.setIfInBounds d v).getD i undef = a.tmps.getD i undef := by
        simp only [Array.getD_eq_getD_getElem?, Array.getElem?_setIfInBounds]
        rw [if_neg (Ne.symm hi)]
      rw [e]; exact (h.env i).mono hE

theorem wantedA_sound {G : Gh} {w : World} {a : Act} (h : Rel N G w ρ σ a) {ops : Array Oper} {o : Oper} {b : Bool} (hw : wantedA ops o ρ = some b) : Region.wanted o (yielded ops a.tmps) = b := by
  unfold wantedA at hw
  unfold Region.wanted
  split at hw
  · rename_i hg; rw [hg]; simpa using hw
  · rename_i j want hg
    rw [hg]
    simp only
    unfold yielded
    split at hw
    · rename_i d hd
      rw [hd]
      simp only [Option.bind_some]
      have henv := h.env d
      split at hw
      · rename_i c hc
        cases hw
        rw [hc] at henv
        have hv := henv.v_eq
        have hlt : d < a.tmps.size := by
          apply Classical.byContradiction
          intro hn
          rw [Array.getD_eq_getD_getElem?, Array.getElem?_eq_none (Nat.not_lt.1 hn)] at hv
          cases hv
        rw [Array.getD_eq_getD_getElem?, Array.getElem?_eq_getElem hlt] at hv
        rw [Array.getElem?_eq_getElem hlt]
        simp only [Option.getD_some] at hv
        rw [hv]
        cases c <;> cases want <;> rfl
      · rename_i vs hc
        cases hw
        rw [hc] at henv
        have hv := henv.v_eq
        by_cases hlt : d < a.tmps.size
        · rw [Array.getD_eq_getD_getElem?, Array.getElem?_eq_getElem hlt] at hv
          rw [Array.getElem?_eq_getElem hlt]
          simp only [Option.getD_some] at hv
          rw [hv]; rfl
        · rw [Array.getElem?_eq_none (Nat.not_lt.1 hlt)]; rfl
      · cases hw
    · rename_i hd
      cases hw
      rw [hd]; rfl

section ops
variable {ops : Array Oper} {rest : List Oper} {o : Oper} {Q : (Nat → AV) → St → Prop}

theorem runL_nil (h : Q ρ σ) : RunL z P N ops [] ρ σ Q := fun G w _ _ hR hK => hK ρ σ G _ w h (.refl _ _) hR

theorem runL_op {av : AV} {σ' : St} (hw : wantedA ops o ρ = some true) (hd : inN N o.dst = true) (h : opA P ρ σ o.op = some (av, σ')) (k : RunL z P N ops rest (putA ρ o.dst av) σ' Q) : RunL z P N ops (o :: rest) ρ σ Q := by
  intro G w a R hR hK
  obtain ⟨nx, v, w', G', hr, hn, hE, hS, hv⟩ := op_sound (P := P) hR.s hR.env h
  unfold wpListIn
  rw [if_pos (wantedA_sound hR hw)]
  refine ⟨fun _ _ => trivial, ?_⟩
  rw [zone_semAt h, hr]
  have key := k G' w' (a.put o.dst v) R (hR.put hE hS hd hv) (fun ρ' σ' G2 a' w2 hq hE2 hR2 => hK ρ' σ' G2 a' w2 hq (hE.trans hE2) hR2)
  rcases hn with rfl | ⟨rfl, rfl⟩
  · exact key
  · exact key

theorem runL_skip (hw : wantedA ops o ρ = some false) (hd : inN N o.dst = true) (k : RunL z P N ops rest (putA ρ o.dst undefA) σ Q) : RunL z P N ops (o :: rest) ρ σ Q := by
  intro G w a R hR hK
  unfold wpListIn
  rw [if_neg (by rw [wantedA_sound hR hw]; simp)]
  exact ⟨fun _ _ => trivial, k G w (a.put o.dst undef) R (hR.put (.refl _ _) hR.s hd (.v rfl)) hK⟩

/-- May a function be called by its number? -/
def callable (P : Program) (f : FuncId) : Bool :=
  match P.funcs[f]? with
  | some fn => fn.name != "runtime.NumGoroutine" && fn.body.isSome
  | none => false

theorem run_callFunc {f : FuncId} {args : Array Value} {w : World} (h : callable P f = true) : (callFunc f args).run P w = .ok (.enter f args) w := by
  unfold callable at h
  split at h
  · rename_i fn hf
    simp only [Bool.and_eq_true, bne_iff_ne, ne_eq] at h
    obtain ⟨h1, h2⟩ := h
    unfold callFunc
    simp only [Sem.run_bind, run_program, Result.andThen_ok, hf]
    rw [if_neg (by simpa using h1), if_neg (by simpa [Option.isNone_iff_eq_none, Option.isSome_iff_ne_none] using h2)]
    rfl
  · cases h

theorem runL_call {c : Call} {x : Operand} {f : FuncId} {caps args : List AV} {Qc : AV → St → Prop} (hw : wantedA ops o ρ = some true) (hd : inN N o.dst = true) (ho : o.op = .call c) (hc : c.callee = .value x)
    (hf : evalA ρ σ x = some (.fn f caps)) (ha : evalAll ρ σ c.args.toList = some args) (hcb : callable P f = true) (hcall : CallsA P f (args ++ caps) σ Qc)
    (k : ∀ av σ', Qc av σ' → RunL z P N ops rest (putA ρ o.dst av) σ' Q) : RunL z P N ops (o :: rest) ρ σ Q := by
  intro G w a R hR hK
  have hfv := evalA_sound hR.s hR.env hf
  obtain ⟨hl, hr⟩ := forall2_get (evalAll_sound hR.s hR.env ha)
  unfold wpListIn
  rw [if_pos (wantedA_sound hR hw)]
  refine ⟨fun _ _ => trivial, ?_⟩
  rw [show Oper.semAt z.F.round a.eval o = execOp a.eval o from Oper.semAt_eq _ _ _ (fun c e => by rw [ho] at e; cases e)]
  cases hev : a.eval x with
  | func fn first caps' =>
    rw [hev] at hfv
    cases hfv with
    | fn hcl hcr =>
    have hrun : (execOp a.eval o).run P w = .ok (.enter f (c.args.map a.eval ++ caps')) w := by
      unfold execOp
      rw [ho]
      simp only [resolve, hc, hev, Deferred.ofValue, Sem.run_bind, Sem.run_pure, Result.andThen_ok, invoke]
      rw [run_callFunc hcb]
      simp
    rw [hrun]
    refine ⟨fun h => (by cases h), zone_call (hcall G w _ _ hR.s (by simpa [hcl] using hl) (fun j y b hj hb => ?_) (fun v av σ' G' w' hq hE hS hv => ?_))⟩
    · by_cases h1 : j < c.args.size
      · rw [Array.getElem?_append_left (by simpa using h1)] at hj
        rw [List.getElem?_append_left (by simp at hl; omega)] at hb
        refine hr j y b ?_ hb
        have : (c.args.map a.eval).toList[j]? = some y := by simpa using hj
        simpa using this
      · rw [Array.getElem?_append_right (by simpa using h1)] at hj
        rw [List.getElem?_append_right (by simp at hl; omega)] at hb
        simp only [Array.size_map] at hj
        have e : c.args.size = args.length := by simpa using hl
        rw [e] at hj
        exact hcr _ y b hj hb
    · exact k av σ' hq G' w' (a.put o.dst v) R (hR.put hE hS hd hv) (fun ρ' σ2 G2 a' w2 hq2 hE2 hR2 => hK ρ' σ2 G2 a' w2 hq2 (hE.trans hE2) hR2)
  | _ => rw [hev] at hfv; cases hfv

end ops

section codes

theorem stepR_scope {b : Frame} {a : Act} {k : List Item} {cs : List Frame} {w : World} {c : Code} : step P (lone (b.atR a (.code (.scope c) :: k)) cs w) = .next (lone (b.atR a (.code c :: .inScope c :: k)) cs w) :=
  step_lone_go (by simp [stepG, stepG.exec, Frame.atR])
theorem stepR_inScope {b : Frame} {a : Act} {k : List Item} {cs : List Frame} {w : World} {c : Code} : step P (lone (b.atR a (.inScope c :: k)) cs w) = .next (lone (b.atR a k) cs w) :=
  step_lone_go (by simp [stepG, stepG.exec, Frame.atR])

theorem wpIn_scope_straight {F : Fence} {n : Nat} {c : Code} {Q : Exit → Act → World → Prop} {a : Act} {w : World} (h : c.wpIn F n P (Exit.noGoto Q) a w) : (Code.scope c).wpIn F n P Q a w := by
  intro b k cs hro hb hr
  have h0 : (lone (b.atR a (.code (.scope c) :: k)) cs w).fenced P F := fenced_calm hb hr rfl
  have hx : ∀ id, exitTo id (.inScope c :: k) = exitTo id k := fun id => by simp [exitTo]
  obtain ⟨e, a₁, w₁, hq, harr⟩ := h b (.inScope c :: k) cs hro hb hr
  cases e with
  | normal => exact ⟨.normal, a₁, w₁, hq, .head h0 stepR_scope (StepsIn.trans harr (.one (fenced_calm hb hr rfl) stepR_inScope))⟩
  | exit id => exact ⟨.exit id, a₁, w₁, hq, fun k' hk => .head h0 stepR_scope (harr.1 k' (by rw [hx]; exact hk)), fun hr' hk => let ⟨k₁, g1, g2⟩ := harr.2 hr' (by rw [hx]; exact hk); ⟨k₁, g1, .head h0 stepR_scope g2⟩⟩
  | goto l => exact hq.elim
  | ret => exact ⟨_, a₁, w₁, hq, .of_steps (.one h0 stepR_scope) harr⟩
  | panic ch => exact ⟨_, a₁, w₁, hq, .of_steps (.one h0 stepR_scope) harr⟩
  | outgrown => exact ⟨_, a₁, w₁, hq, .of_steps (.one h0 stepR_scope) harr⟩

variable {Q : Exit → (Nat → AV) → St → Prop}

theorem run_region {id : Nat} {l : List Oper} (h : RunL z P N l.toArray l ρ σ (Q .normal)) : Run z P N (.region id l.toArray false) ρ σ Q := by
  intro G w a R hR hK
  exact wpIn_region_lit (h G w a R hR (fun ρ' σ' G' a' w' hq => hK .normal ρ' σ' G' a' w' hq))

theorem run_seq {x y : Code} (h : Run z P N x ρ σ (fun e ρ' σ' => match e with | .normal => Run z P N y ρ' σ' Q | e => Q e ρ' σ')) : Run z P N (.seq x y) ρ σ Q := by
  intro G w a R hR hK
  apply wpIn_seq
  refine h G w a _ hR (fun e ρ' σ' G' a' w' hq hE hR' => ?_)
  cases e with
  | normal => exact hq G' w' a' R hR' (fun e2 ρ2 σ2 G2 a2 w2 hq2 hE2 hR2 => hK e2 ρ2 σ2 G2 a2 w2 hq2 (hE.trans hE2) hR2)
  | _ => exact hK _ ρ' σ' G' a' w' hq hE hR'

theorem run_cond {c : Operand} {x y : Code} {t : Bool} (hc : evalA ρ σ c = some (.v (.bool t))) (h : Run z P N (if t then x else y) ρ σ Q) : Run z P N (.cond c x y) ρ σ Q := by
  intro G w a R hR hK
  exact wpIn_cond (evalA_sound hR.s hR.env hc).v_eq (h G w a R hR hK)

theorem run_cond_true {c : Operand} {x y : Code} (hc : evalA ρ σ c = some (.v (.bool true))) (h : Run z P N x ρ σ Q) : Run z P N (.cond c x y) ρ σ Q := run_cond hc h
theorem run_cond_false {c : Operand} {x y : Code} (hc : evalA ρ σ c = some (.v (.bool false))) (h : Run z P N y ρ σ Q) : Run z P N (.cond c x y) ρ σ Q := run_cond hc h
theorem run_cond_split {c : Operand} {x y : Code} {t : Bool} (hc : evalA ρ σ c = some (.v (.bool t))) (h1 : t = true → Run z P N x ρ σ Q) (h2 : t = false → Run z P N y ρ σ Q) : Run z P N (.cond c x y) ρ σ Q := by
  cases t
  · exact run_cond hc (h2 rfl)
  · exact run_cond hc (h1 rfl)

theorem run_skip (h : Q .normal ρ σ) : Run z P N .skip ρ σ Q := fun G w a _ hR hK => wpIn_skip (hK .normal ρ σ G a w h (.refl _ _) hR)
theorem run_label {l : Nat} (h : Q .normal ρ σ) : Run z P N (.label l) ρ σ Q := fun G w a _ hR hK => wpIn_label (hK .normal ρ σ G a w h (.refl _ _) hR)
theorem run_exit {id : Nat} (h : Q (.exit id) ρ σ) : Run z P N (.exit id) ρ σ Q := fun G w a _ hR hK => wpIn_exit (hK (.exit id) ρ σ G a w h (.refl _ _) hR)
theorem run_goto {l : Nat} (h : Q (.goto l) ρ σ) : Run z P N (.goto l) ρ σ Q := fun G w a _ hR hK => wpIn_goto (hK (.goto l) ρ σ G a w h (.refl _ _) hR)
theorem run_ret (h : Q .ret ρ σ) : Run z P N .ret ρ σ Q := fun G w a _ hR hK => wpIn_ret (hK .ret ρ σ G a w h (.refl _ _) hR)

theorem run_block {id : Nat} {c : Code} (h : Run z P N c ρ σ (fun e ρ' σ' => match e with | .exit i => if i = id then Q .normal ρ' σ' else Q (.exit i) ρ' σ' | e => Q e ρ' σ')) : Run z P N (.block id c) ρ σ Q := by
  intro G w a R hR hK
  apply wpIn_block
  refine h G w a _ hR (fun e ρ' σ' G' a' w' hq hE hR' => ?_)
  cases e with
  | exit i =>
    show if i = id then R .normal a' w' else R (.exit i) a' w'
    by_cases hi : i = id
    · rw [if_pos hi]
      simp only [hi, if_true] at hq
      exact hK _ ρ' σ' G' a' w' hq hE hR'
    · rw [if_neg hi]
      simp only [hi, if_false] at hq
      exact hK _ ρ' σ' G' a' w' hq hE hR'
  | _ => exact hK _ ρ' σ' G' a' w' hq hE hR'

/-- How a state may be told anew between two rounds. -/
def Turns (N : Nat) (σ0 : St) (T : (Nat → AV) → St → (Nat → AV) → St → Prop) : Prop :=
  ∀ G0 w0 G w (a : Act) ρ σ ρ2 σ2, RelS G0 w0 σ0 → Ext G0 w0 G w → Rel N G w ρ σ a → T ρ σ ρ2 σ2 → ∃ G2, Ext G0 w0 G2 w ∧ Rel N G2 w ρ2 σ2 a

theorem turns_id (N : Nat) (σ0 : St) : Turns N σ0 (fun ρ σ ρ2 σ2 => ρ2 = ρ ∧ σ2 = σ) := fun G0 w0 G w a ρ σ ρ2 σ2 _ hE hR h => by
  obtain ⟨rfl, rfl⟩ := h
  exact ⟨G, hE, hR⟩

/-- A loop: what holds at each round's head, and what each round lowers. -/
theorem run_loopT {c : Code} {X : Type} {T : (Nat → AV) → St → (Nat → AV) → St → Prop} (hT : Turns N σ T) (I : X → (Nat → AV) → St → Prop) (μ : X → Nat) (x0 : X) (h0 : I x0 ρ σ)
    (round : ∀ x ρ σ, I x ρ σ → Run z P N c ρ σ (fun e ρ' σ' => match e with | .normal => ∃ y ρ2 σ2, T ρ' σ' ρ2 σ2 ∧ I y ρ2 σ2 ∧ μ y < μ x | e => Q e ρ' σ')) : Run z P N (.loop c) ρ σ Q := by
  intro G0 w0 a0 R hR0 hK
  have key : ∀ n, ∀ a w, (∃ x ρ σ G, I x ρ σ ∧ Ext G0 w0 G w ∧ Rel N G w ρ σ a ∧ μ x = n) → ∀ (b : Frame) (k : List Item) (cs : List Frame), b.roundOf = z.F.round → z.F.fn b.fn → z.F.room (cs.length + 1 + z.n) → ∃ e a' w', R e a' w' ∧ ArrivesIn (Machine.fenced P z.F) P (lone (b.atR a (.code c :: .inLoop c :: k)) cs w) b k cs e a' w' := by
    intro n
    induction n using Nat.strongRecOn with
    | _ n ih =>
      rintro a w ⟨x, ρ, σ, G, hI, hE, hR, hn⟩ b k cs hro hb hr
      obtain ⟨e, a', w', hq, harr⟩ := round x ρ σ hI G w a (fun e a' w' => match e with | .normal => (∀ (b : Frame) (k : List Item) (cs : List Frame), b.roundOf = z.F.round → z.F.fn b.fn → z.F.room (cs.length + 1 + z.n) → ∃ e2 a2 w2, R e2 a2 w2 ∧ ArrivesIn (Machine.fenced P z.F) P (lone (b.atR a' (.code c :: .inLoop c :: k)) cs w') b k cs e2 a2 w2) | e => R e a' w') hR (fun e ρ' σ' G' a' w' hq hE' hR' => by
        cases e with
        | normal =>
          obtain ⟨y, ρ2, σ2, ht, hy, hlt⟩ := hq
          obtain ⟨G2, hE2, hR2⟩ := hT G0 w0 G' w' a' ρ' σ' ρ2 σ2 hR0.s (hE.trans hE') hR' ht
          exact ih (μ y) (by omega) a' w' ⟨y, ρ2, σ2, G2, hy, hE2, hR2, rfl⟩
        | _ => exact hK _ ρ' σ' G' a' w' hq (hE.trans hE') hR') b (.inLoop c :: k) cs hro hb hr
      cases e with
      | normal =>
        obtain ⟨e2, a2, w2, hq2, harr2⟩ := hq b k cs hro hb hr
        exact ⟨e2, a2, w2, hq2, .of_steps (StepsIn.trans harr (.one (fenced_calm hb hr rfl) stepR_inLoop)) harr2⟩
      | exit i => exact ⟨_, a', w', hq, .pass (x := .inLoop c) rfl (fun _ _ => .inl (by simp)) harr⟩
      | goto l => exact ⟨_, a', w', hq, .pass (x := .inLoop c) rfl (fun _ _ => .inl (by simp)) harr⟩
      | ret => exact ⟨_, a', w', hq, .pass (x := .inLoop c) rfl (fun _ _ => .inl (by simp)) harr⟩
      | panic ch => exact ⟨_, a', w', hq, .pass (x := .inLoop c) rfl (fun _ _ => .inl (by simp)) harr⟩
      | outgrown => exact ⟨_, a', w', hq, .pass (x := .inLoop c) rfl (fun _ _ => .inl (by simp)) harr⟩
  intro b k cs hro hb hr
  obtain ⟨e, a', w', hq, harr⟩ := key _ a0 w0 ⟨x0, ρ, σ, G0, h0, .refl _ _, hR0, rfl⟩ b k cs hro hb hr
  exact ⟨e, a', w', hq, .of_steps (.one (fenced_calm hb hr rfl) stepR_loop) harr⟩

theorem run_loop {c : Code} {X : Type} (I : X → (Nat → AV) → St → Prop) (μ : X → Nat) (x0 : X) (h0 : I x0 ρ σ)
    (round : ∀ x ρ σ, I x ρ σ → Run z P N c ρ σ (fun e ρ' σ' => match e with | .normal => ∃ y, I y ρ' σ' ∧ μ y < μ x | e => Q e ρ' σ')) : Run z P N (.loop c) ρ σ Q :=
  run_loopT (turns_id N σ) I μ x0 h0 (fun x ρ1 σ1 hI G w a R hR hK => round x ρ1 σ1 hI G w a R hR (fun e ρ' σ' G' a' w' hq => hK e ρ' σ' G' a' w' (by
    cases e with
    | normal => exact let ⟨y, h1, h2⟩ := hq; ⟨y, ρ', σ', ⟨rfl, rfl⟩, h1, h2⟩
    | _ => exact hq)))

/-- A scope in which the run jumps back to one label. -/
theorem run_scope_straight {c : Code} (h : Run z P N c ρ σ (fun e ρ' σ' => match e with | .goto _ => False | e => Q e ρ' σ')) : Run z P N (.scope c) ρ σ Q := by
  intro G w a R hR hK
  apply wpIn_scope_straight
  refine h G w a _ hR (fun e ρ' σ' G' a' w' hq hE hR' => ?_)
  cases e with
  | goto l => exact hq.elim
  | _ => exact hK _ ρ' σ' G' a' w' hq hE hR'

theorem run_scope_jumpsT {c rest : Code} {T : (Nat → AV) → St → (Nat → AV) → St → Prop} (hT : Turns N σ T) (l : Nat) {X : Type} (I : X → (Nat → AV) → St → Prop) (μ : X → Nat) (hf : findLabel c l = some rest)
    (first : Run z P N c ρ σ (fun e ρ' σ' => match e with | .goto l' => l' = l ∧ ∃ y ρ2 σ2, T ρ' σ' ρ2 σ2 ∧ I y ρ2 σ2 | e => Q e ρ' σ'))
    (pass : ∀ x ρ σ, I x ρ σ → Run z P N rest ρ σ (fun e ρ' σ' => match e with | .goto l' => l' = l ∧ ∃ y ρ2 σ2, T ρ' σ' ρ2 σ2 ∧ I y ρ2 σ2 ∧ μ y < μ x | e => Q e ρ' σ')) : Run z P N (.scope c) ρ σ Q := by
  intro G0 w0 a0 R hR0 hK
  intro b k cs hro hb hr
  have hx : ∀ id, exitTo id (.inScope c :: k) = exitTo id k := fun id => by simp [exitTo]
  have hg : gotoIn l (.inScope c :: k) = some (.code rest :: .inScope c :: k) := by simp [gotoIn, hf]
  have key : ∀ n a w, (∃ x ρ σ G, I x ρ σ ∧ Ext G0 w0 G w ∧ Rel N G w ρ σ a ∧ μ x = n) → ∃ e a' w', R e a' w' ∧ ArrivesIn (Machine.fenced P z.F) P (lone (b.atR a (.code rest :: .inScope c :: k)) cs w) b k cs e a' w' := by
    intro n
    induction n using Nat.strongRecOn with
    | _ n ih =>
      rintro a w ⟨x, ρ, σ, G, hI, hE, hR, hn⟩
      obtain ⟨e, a', w', hq, harr⟩ := pass x ρ σ hI G w a (fun e a' w' => match e with | .goto l' => l' = l ∧ (∃ e2 a2 w2, R e2 a2 w2 ∧ ArrivesIn (Machine.fenced P z.F) P (lone (b.atR a' (.code rest :: .inScope c :: k)) cs w') b k cs e2 a2 w2) | e => R e a' w') hR (fun e ρ' σ' G' a' w' hq hE' hR' => by
        cases e with
        | goto l' =>
          obtain ⟨rfl, y, ρ2, σ2, ht, hy, hlt⟩ := hq
          obtain ⟨G2, hE2, hR2⟩ := hT G0 w0 G' w' a' ρ' σ' ρ2 σ2 hR0.s (hE.trans hE') hR' ht
          exact ⟨rfl, ih (μ y) (by omega) a' w' ⟨y, ρ2, σ2, G2, hy, hE2, hR2, rfl⟩⟩
        | _ => exact hK _ ρ' σ' G' a' w' hq (hE.trans hE') hR') b (.inScope c :: k) cs hro hb hr
      cases e with
      | normal => exact ⟨.normal, a', w', hq, StepsIn.trans harr (.one (fenced_calm hb hr rfl) stepR_inScope)⟩
      | exit id => exact ⟨.exit id, a', w', hq, fun k' hk => harr.1 k' (by rw [hx]; exact hk), fun hr' hk => harr.2 hr' (by rw [hx]; exact hk)⟩
      | goto l' =>
        obtain ⟨rfl, e2, a2, w2, hq2, harr2⟩ := hq
        exact ⟨e2, a2, w2, hq2, .of_steps (harr.1 _ hg) harr2⟩
      | ret => exact ⟨_, a', w', hq, harr⟩
      | panic ch => exact ⟨_, a', w', hq, harr⟩
      | outgrown => exact ⟨_, a', w', hq, harr⟩
  obtain ⟨e, a', w', hq, harr⟩ := first G0 w0 a0 (fun e a' w' => match e with | .goto l' => l' = l ∧ (∃ e2 a2 w2, R e2 a2 w2 ∧ ArrivesIn (Machine.fenced P z.F) P (lone (b.atR a' (.code rest :: .inScope c :: k)) cs w') b k cs e2 a2 w2) | e => R e a' w') hR0 (fun e ρ' σ' G' a' w' hq hE' hR' => by
    cases e with
    | goto l' =>
      obtain ⟨rfl, y, ρ2, σ2, ht, hy⟩ := hq
      obtain ⟨G2, hE2, hR2⟩ := hT G0 w0 G' w' a' ρ' σ' ρ2 σ2 hR0.s hE' hR' ht
      exact ⟨rfl, key _ a' w' ⟨y, ρ2, σ2, G2, hy, hE2, hR2, rfl⟩⟩
    | _ => exact hK _ ρ' σ' G' a' w' hq hE' hR') b (.inScope c :: k) cs hro hb hr
  have h0 : (lone (b.atR a0 (.code (.scope c) :: k)) cs w0).fenced P z.F := fenced_calm hb hr rfl
  cases e with
  | normal => exact ⟨.normal, a', w', hq, .head h0 stepR_scope (StepsIn.trans harr (.one (fenced_calm hb hr rfl) stepR_inScope))⟩
  | exit id => exact ⟨.exit id, a', w', hq, fun k' hk => .head h0 stepR_scope (harr.1 k' (by rw [hx]; exact hk)), fun hr' hk => let ⟨k₁, g1, g2⟩ := harr.2 hr' (by rw [hx]; exact hk); ⟨k₁, g1, .head h0 stepR_scope g2⟩⟩
  | goto l' =>
    obtain ⟨rfl, e2, a2, w2, hq2, harr2⟩ := hq
    exact ⟨e2, a2, w2, hq2, .of_steps (.head h0 stepR_scope (harr.1 _ hg)) harr2⟩
  | ret => exact ⟨_, a', w', hq, .of_steps (.one h0 stepR_scope) harr⟩
  | panic ch => exact ⟨_, a', w', hq, .of_steps (.one h0 stepR_scope) harr⟩
  | outgrown => exact ⟨_, a', w', hq, .of_steps (.one h0 stepR_scope) harr⟩

theorem run_scope_jumps {c rest : Code} (l : Nat) {X : Type} (I : X → (Nat → AV) → St → Prop) (μ : X → Nat) (hf : findLabel c l = some rest)
    (first : Run z P N c ρ σ (fun e ρ' σ' => match e with | .goto l' => l' = l ∧ ∃ y, I y ρ' σ' | e => Q e ρ' σ'))
    (pass : ∀ x ρ σ, I x ρ σ → Run z P N rest ρ σ (fun e ρ' σ' => match e with | .goto l' => l' = l ∧ ∃ y, I y ρ' σ' ∧ μ y < μ x | e => Q e ρ' σ')) : Run z P N (.scope c) ρ σ Q :=
  run_scope_jumpsT (turns_id N σ) l I μ hf
    (fun G w a R hR hK => first G w a R hR (fun e ρ' σ' G' a' w' hq => hK e ρ' σ' G' a' w' (by
      cases e with
      | goto l' => exact let ⟨h0, y, h1⟩ := hq; ⟨h0, y, ρ', σ', ⟨rfl, rfl⟩, h1⟩
      | _ => exact hq)))
    (fun x ρ1 σ1 hI G w a R hR hK => pass x ρ1 σ1 hI G w a R hR (fun e ρ' σ' G' a' w' hq => hK e ρ' σ' G' a' w' (by
      cases e with
      | goto l' => exact let ⟨h0, y, h1, h2⟩ := hq; ⟨h0, y, ρ', σ', ⟨rfl, rfl⟩, h1, h2⟩
      | _ => exact hq)))

end codes

/-- What a function answers. -/
def resultA (P : Program) (ρ : Nat → AV) (σ : St) : ResultVar → Option AV
  | .tmp t => some (ρ t)
  | .cell t ty => loadA P ty (ρ t) σ

def resultsA (P : Program) (ρ : Nat → AV) (σ : St) : List ResultVar → Option (List AV)
  | [] => some []
  | r :: l => match resultA P ρ σ r, resultsA P ρ σ l with
    | some a, some as => some (a :: as)
    | _, _ => none

def answerA (P : Program) (fn : Func) (ρ : Nat → AV) (σ : St) : Option AV :=
  match resultsA P ρ σ fn.results.toList with
  | some [a] => some a
  | some as => some (.tup as)
  | none => none

def resRun (tmps : Array Value) : ResultVar → Sem Value
  | .tmp t => pure (tmps.getD t undef)
  | .cell a t => do loadVar t (← asAddr (tmps.getD a undef))

theorem resultsA_sound {G : Gh} {w : World} {a : Act} (hR : Rel N G w ρ σ a) : ∀ (l : List ResultVar) (as : List AV), resultsA P ρ σ l = some as →
    ∃ vs : List Value, (l.mapM (resRun a.tmps)).run P w = .ok vs w ∧ vs.length = as.length ∧ ∀ (j : Nat) x b, vs[j]? = some x → as[j]? = some b → AVR G w x b
  | [], as, h => by simp [resultsA] at h; subst h; exact ⟨[], by simp, rfl, by simp⟩
  | r :: l, as, h => by
    unfold resultsA at h
    split at h
    · rename_i av as' h1 h2
      cases h
      obtain ⟨vs, hv, hl, hr⟩ := resultsA_sound hR l as' h2
      obtain ⟨x, hx, hxa⟩ : ∃ x, (resRun a.tmps r).run P w = .ok x w ∧ AVR G w x av := by
        cases r with
        | tmp t => simp [resultA] at h1; subst h1; exact ⟨_, rfl, hR.env t⟩
        | cell t ty =>
          simp only [resultA] at h1
          obtain ⟨y, hy, hya⟩ := loadA_sound (P := P) hR.s (hR.env t) h1
          refine ⟨y, ?_, hya⟩
          simp only [Instr.loadAt, Sem.run_bind] at hy
          simp only [resRun, Sem.run_bind]
          cases hv : a.tmps.getD t undef with
          | pointer q =>
            cases q with
            | none => rw [hv] at hy; simp [Instr.sureAddr] at hy
            | some q => rw [hv] at hy; simpa [Instr.sureAddr, asAddr] using hy
          | _ => rw [hv] at hy; simp [Instr.sureAddr] at hy
      refine ⟨x :: vs, by simp [List.mapM_cons, hx, hv], by simp [hl], fun j y b hy hb => ?_⟩
      match j with
      | 0 => simp at hy hb; subst hy; subst hb; exact hxa
      | j + 1 => exact hr j y b (by simpa using hy) (by simpa using hb)
    · cases h

theorem answerA_sound {G : Gh} {w : World} {a : Act} {fn : Func} {av : AV} (hR : Rel N G w ρ σ a) (h : answerA P fn ρ σ = some av) : ∃ v, (results fn a.tmps).run P w = .ok v w ∧ AVR G w v av := by
  have e : results fn a.tmps = (do let vs ← fn.results.mapM (resRun a.tmps); pure (if h : vs.size = 1 then vs[0] else .tuple vs)) := by
    unfold results
    rfl
  rw [e]
  unfold answerA at h
  have hm : ∀ as, resultsA P ρ σ fn.results.toList = some as → ∃ vs : List Value, (fn.results.mapM (resRun a.tmps)).run P w = .ok vs.toArray w ∧ vs.length = as.length ∧ ∀ (j : Nat) x b, vs[j]? = some x → as[j]? = some b → AVR G w x b := by
    intro as has
    obtain ⟨vs, h1, h2, h3⟩ := resultsA_sound hR _ _ has
    refine ⟨vs, ?_, h2, h3⟩
    rw [Array.mapM_eq_mapM_toList]
    simp [h1]
  split at h
  · rename_i b hb
    cases h
    obtain ⟨vs, h1, h2, h3⟩ := hm _ hb
    match vs, h2 with
    | [x], _ =>
      refine ⟨x, ?_, h3 0 x _ rfl rfl⟩
      simp [h1]
  · rename_i as hne has
    cases h
    obtain ⟨vs, h1, h2, h3⟩ := hm _ has
    refine ⟨.tuple vs.toArray, ?_, .tup (by simpa using h2) (fun j x b hx hb => h3 j x b (by simpa using hx) hb)⟩
    have hlen : ¬ (vs.toArray.size = 1) := by
      intro h1
      have : as.length = 1 := by simpa [h2] using h1
      match as, this with
      | [b], _ => exact hne b rfl
    simp only [Sem.run_bind, h1, Result.andThen_ok, Sem.run_pure, dif_neg hlen]
  · cases h

/-- Nothing is told of a block that is no cells: it may turn. -/
def Still (w w' : World) : Prop := w.heap.size ≤ w'.heap.size ∧ ∀ (b : Nat) c e fr, w.heap[b]? = some (.cells c e fr) → w'.heap[b]? = some (.cells c e fr)

theorem Still.cell {w w' : World} (h : Still w w') {b o : Nat} {x : Value} (hc : w.cell? ⟨b, o, none⟩ = some x) : w'.cell? ⟨b, o, none⟩ = some x := by
  obtain ⟨c, e, fr, hb, hx⟩ := cell_heap hc
  rw [heap_cell (h.2 b c e fr hb), hx]

theorem AVR.still {G : Gh} {w w' : World} (hs : Still w w') {x : Value} {a : AV} (h : AVR G w x a) : AVR G w' x a := by
  induction h with
  | v h => exact .v h
  | agg hl _ ih => exact .agg hl ih
  | tup hl _ ih => exact .tup hl ih
  | sl0 ht => exact .sl0 ht
  | sl xs hl hn hc ht hx _ htl ih => exact .sl xs hl hn hc ht (fun j x hj => ⟨hs.cell (hx j x hj).1, (hx j x hj).2⟩) ih htl
  | ep xs hl ht hx _ ih => exact .ep xs hl ht (fun j x hj => ⟨hs.cell (hx j x hj).1, (hx j x hj).2⟩) ih
  | ptr h => exact .ptr h
  | bs h hc => exact .bs h hc
  | fn hl _ ih => exact .fn hl ih
  | row h hg hn ha hc => exact .row h hg hn ha hc
  | rp h hg hc => exact .rp h hg hc
  | any h => exact .any h

theorem RelS.still {G : Gh} {w w' : World} {σ : St} (h : RelS G w σ) (hs : Still w w') : RelS G w' σ := by
  refine ⟨fun id b hp => ?_, h.inj, fun k m b lo hi hk => ?_, fun b o hb => h.fresh b o (Nat.le_trans hs.1 hb), fun g cs hg => (h.gl g cs hg).still hs, h.tot, h.totk, fun k gc b o C hk => ?_, h.totr⟩
  · obtain ⟨c, e, cs, h1, h2, h3, h4, h5⟩ := h.obj id b hp
    exact ⟨c, e, cs, h1, hs.2 _ _ _ _ h2, h3, h4, fun j x a hx ha => (h5 j x a hx ha).still hs⟩
  · obtain ⟨t1, t2⟩ := h.tok k m b lo hi hk
    refine ⟨t1, fun hlt => ?_⟩
    obtain ⟨c, e, g1, g2, g3⟩ := t2 hlt
    exact ⟨c, e, hs.2 _ _ _ _ g1, g2, g3⟩
  · obtain ⟨r, h1, h2, h3, h4, h5⟩ := h.row k gc b o C hk
    refine ⟨r, h1, h2, h3, h4, fun hC => ?_⟩
    obtain ⟨c, e, g1, g2, g3, g4, g5⟩ := h5 hC
    exact ⟨c, e, hs.2 _ _ _ _ g1, g2, g3, g4, fun j x a hx ha => (g5 j x a hx ha).still hs⟩

theorem Ext.still {G0 G : Gh} {w0 w w' : World} (h : Ext G0 w0 G w) (hs : Still w w') (h1 : w'.os = w.os) (h2 : w'.tape = w.tape) (h3 : w'.output = w.output)
    (h4 : ∀ b, b < w0.heap.size → w'.heap[b]? = w.heap[b]?) : Ext G0 w0 G w' := by
  refine ⟨h.base, h1.trans h.os, h2.trans h.tape, h3.trans h.output, Nat.le_trans h.size hs.1, fun b c e fr hb => ?_, fun b ob hb hne => ?_, h.sealed, h.no, h.pl, h.tl, h.rw⟩
  · obtain ⟨c', g1, g2⟩ := h.blk b c e fr hb
    exact ⟨c', hs.2 _ _ _ _ g1, g2⟩
  · rw [h4 b (Array.getElem?_eq_some_iff.1 hb).1]
    exact h.oth b ob hb hne

theorem still_grown {w w' : World} {row : Option Nat} (h : w.grownBy w' row) (hr : ∀ r, row = some r → ∃ o : Obj, w.heap[r]? = some o ∧ o.isCells = false) : Still w w' := by
  refine ⟨h.size, fun b c e fr hb => ?_⟩
  rw [h.block b (Array.getElem?_eq_some_iff.1 hb).1 (fun e2 => ?_)]
  · exact hb
  · obtain ⟨o, h1, h2⟩ := hr b e2.symm
    rw [hb] at h1; cases h1; cases h2

theorem still_put {w : World} {D : Nat} {o o' : Obj} (h : w.heap[D]? = some o) (ho : o.isCells = false) : Still w (w.putObj D o') :=
  still_grown (grownBy_putObj' w D o') (fun r e => by cases e; exact ⟨o, h, ho⟩)

/-- The marks' bound is a frame's own. -/
def Gh.rebase (G : Gh) (B : Nat) : Gh := { G with base := B }

theorem AVR.rebase {G : Gh} (B : Nat) {w : World} {x : Value} {a : AV} (h : AVR G w x a) : AVR (G.rebase B) w x a := by
  have tl : ∀ {t : Tail} {ad : Option Addr} {n c sz : Nat}, TailOk G t ad n c sz → TailOk (G.rebase B) t ad n c sz := by
    intro t ad n c sz ht
    cases t <;> exact ht
  induction h with
  | v h => exact .v h
  | agg hl _ ih => exact .agg hl ih
  | tup hl _ ih => exact .tup hl ih
  | sl0 ht => exact .sl0 (tl ht)
  | sl xs hl hn hc ht hx _ htl ih => exact .sl xs hl hn hc ht hx ih (tl htl)
  | ep xs hl ht hx _ ih => exact .ep xs hl ht hx ih
  | ptr h => exact .ptr h
  | bs h hc => exact .bs h hc
  | fn hl _ ih => exact .fn hl ih
  | row h hg hn ha hc => exact .row h hg hn ha hc
  | rp h hg hc => exact .rp h hg hc
  | any h => exact .any h

theorem RelS.rebase {G : Gh} (B : Nat) {w : World} {σ : St} (h : RelS G w σ) : RelS (G.rebase B) w σ := by
  refine ⟨fun id b hp => ?_, h.inj, h.tok, h.fresh, fun g cs hg => (h.gl g cs hg).rebase B, h.tot, h.totk, fun k gc b o C hk => ?_, h.totr⟩
  · obtain ⟨c, e, cs, h1, h2, h3, h4, h5⟩ := h.obj id b hp
    exact ⟨c, e, cs, h1, h2, h3, h4, fun j x a hx ha => (h5 j x a hx ha).rebase B⟩
  · obtain ⟨r, h1, h2, h3, h4, h5⟩ := h.row k gc b o C hk
    refine ⟨r, h1, h2, h3, h4, fun hC => ?_⟩
    obtain ⟨c, e, g1, g2, g3, g4, g5⟩ := h5 hC
    exact ⟨c, e, g1, g2, g3, g4, fun j x a hx ha => (g5 j x a hx ha).rebase B⟩

theorem Ext.rebase {G G' : Gh} {B : Nat} {w w' : World} (h : Ext (G.rebase B) w G' w') : Ext G w (G'.rebase G.base) w' :=
  ⟨rfl, h.os, h.tape, h.output, h.size, h.blk, h.oth, h.sealed, h.no, h.pl, h.tl, h.rw⟩

/-- A frame's marks are taken away, one by one; then it hands back what it hands back. -/
theorem leaves_marks {fn : Func} {tmps : Array Value} {R : Ending → World → Prop} {G G0 : Gh} {w0 : World} {av : AV} : ∀ (l : List Deferred) (w : World), Marks G.base w l → l.Nodup → Ext G0 w0 G w → G.base = w0.heap.size → RelS G w σ →
    (∀ w', Still w w' → Ext G0 w0 G w' → RelS G w' σ → ∃ v, (results fn tmps).run P w' = .ok v w' ∧ AVR G w' v av ∧ R (.returned v) w') → LeavesInM Fence.wide 3 P fn tmps R l .returning w
  | [], w, _, _, hE, _, hS, k => by
    obtain ⟨v, h1, h2, h3⟩ := k w ⟨Nat.le_refl _, fun _ _ _ _ h => h⟩ hE hS
    exact ⟨v, h1, h3⟩
  | d :: l, w, hm, hn, hE, hB, hS, k => by
    obtain ⟨D, rfl, hD, hk⟩ := hm d (by simp)
    have hst : Still w (w.putObj D (.deferred none)) := still_put hk rfl
    have hE' : Ext G0 w0 G (w.putObj D (.deferred none)) := hE.still hst rfl rfl rfl (fun b hb => World.putObj_heap_other (by omega))
    refine ⟨by simp, .inl ⟨D, _, rfl, run_takeDeferred hk, ?_⟩⟩
    refine leaves_marks (av := av) l _ (fun d hd => ?_) (List.nodup_cons.1 hn).2 hE' hB (hS.still hst) (fun w' h1 h2 h3 => ?_)
    · obtain ⟨D2, rfl, h1, h2⟩ := hm d (by simp [hd])
      refine ⟨D2, rfl, h1, ?_⟩
      rw [World.putObj_heap_other (fun e => ?_)]
      · exact h2
      · subst e; exact (List.nodup_cons.1 hn).1 hd
    · exact k w' ⟨Nat.le_trans hst.1 h1.1, fun b c e fr hb => h1.2 _ _ _ _ (hst.2 _ _ _ _ hb)⟩ h2 h3

/-- A call is its function's body. -/
theorem callsA_enter {f : FuncId} {fn : Func} {c : Code} {args : List AV} {Q : AV → St → Prop} (hf : P.funcs[f]? = some fn) (hb : fn.body = some c) (hn : args.length ≤ fn.ntmps)
    (h : Run ⟨none, 3⟩ P fn.ntmps c (fun i => args.getD i undefA) σ (fun e ρ' σ' => (e = .normal ∨ e = .ret) ∧ ∃ av, answerA P fn ρ' σ' = some av ∧ Q av σ')) : CallsA P f args σ Q := by
  intro G w vs R hS hl hr hK
  refine (callsIn_wide (n := 3)).1 (callsIn_of_wp_marks hf hb trivial ?_)
  refine h (G.rebase w.heap.size) w _ _ ⟨hS.rebase _, ⟨Marks.nil _ _, List.nodup_nil, Nat.le_refl _⟩, by simp; omega, fun i => AVR.rebase _ ?_⟩ (fun e ρ' σ' G' a' w' hq hE hR' => ?_)
  · show AVR G w ((vs ++ Array.replicate (fn.ntmps - vs.size) undef).getD i undef) (args.getD i undefA)
    by_cases hi : i < vs.size
    · have h1 : (vs ++ Array.replicate (fn.ntmps - vs.size) undef).getD i undef = vs[i] := by
        rw [Array.getD_eq_getD_getElem?, Array.getElem?_append_left hi]; simp [hi]
      rw [h1]
      have hi' : i < args.length := by omega
      refine hr i _ _ (Array.getElem?_eq_getElem hi) ?_
      simp [List.getD, hi']
    · have h1 : (vs ++ Array.replicate (fn.ntmps - vs.size) undef).getD i undef = undef := by
        rw [Array.getD_eq_getD_getElem?, Array.getElem?_append_right (by omega)]
        by_cases h2 : i - vs.size < fn.ntmps - vs.size
        · simp [h2]
        · rw [Array.getElem?_eq_none (by simpa using h2)]; rfl
      have h2 : args.getD i undefA = undefA := by
        simp [List.getD, List.getElem?_eq_none (show args.length ≤ i by omega)]
      rw [h1, h2]
      exact .v rfl
  · obtain ⟨he, av, hav, hq⟩ := hq
    have key : LeavesInM Fence.wide 3 P fn a'.tmps R a'.defers .returning w' := by
      refine leaves_marks a'.defers w' hR'.defers.1 hR'.defers.2.1 hE hE.base hR'.s (av := av) (fun w'' h1 h2 h3 => ?_)
      obtain ⟨v, hv, hva⟩ := answerA_sound (P := P) (fn := fn) (a := { a' with defers := [] }) ⟨h3, ⟨Marks.nil _ _, List.nodup_nil, Nat.le_trans hR'.defers.2.2 h1.1⟩, hR'.size, fun i => (hR'.env i).still h1⟩ hav
      exact ⟨v, hv, hva, hK v av σ' _ w'' hq h2.rebase (h3.rebase _) (hva.rebase _)⟩
    rcases he with rfl | rfl
    · exact key
    · exact key

end
end Go.Vm
