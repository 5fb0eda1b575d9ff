import Derived.Test.YtmponlabfccjaaaZ4
import Derived.IntWalk
/-
  What the operations come to, laid as9 rules for simp.
-/
namespace Go.Vm
set_option linter.unnecessarySimpa false
set_option linter.unusedSimpArgs false
set_option linter.unusedVariables false
open Go
section
variable {P : Program} (t : TypeId) (xo yo : Operand)

theorem binA_add (k : IntKind) (a b : Int) : binA P .add t xo yo (.v (.int k a)) (.v (.int k b)) = some (.v (.int k (k.wrap (a + b)))) := by cases k <;> rfl
theorem binA_sub (k : IntKind) (a b : Int) : binA P .sub t xo yo (.v (.int k a)) (.v (.int k b)) = some (.v (.int k (k.wrap (a - b)))) := by cases k <;> rfl
theorem binA_mul (k : IntKind) (a b : Int) : binA P .mul t xo yo (.v (.int k a)) (.v (.int k b)) = some (.v (.int k (k.wrap (a * b)))) := by cases k <;> rfl
theorem binA_lss (k : IntKind) (a b : Int) : binA P .lss t xo yo (.v (.int k a)) (.v (.int k b)) = some (.v (.bool (decide (a < b)))) := by cases k <;> rfl
theorem binA_leq (k : IntKind) (a b : Int) : binA P .leq t xo yo (.v (.int k a)) (.v (.int k b)) = some (.v (.bool (decide (a ≤ b)))) := by cases k <;> rfl
theorem binA_gtr (k : IntKind) (a b : Int) : binA P .gtr t xo yo (.v (.int k a)) (.v (.int k b)) = some (.v (.bool (decide (b < a)))) := by cases k <;> rfl
theorem binA_geq (k : IntKind) (a b : Int) : binA P .geq t xo yo (.v (.int k a)) (.v (.int k b)) = some (.v (.bool (decide (b ≤ a)))) := by cases k <;> rfl
theorem binA_eql (k : IntKind) (a b : Int) : binA P .eql t xo yo (.v (.int k a)) (.v (.int k b)) = some (.v (.bool (a == b))) := by cases k <;> rfl
theorem binA_neq (k : IntKind) (a b : Int) : binA P .neq t xo yo (.v (.int k a)) (.v (.int k b)) = some (.v (.bool (a != b))) := by cases k <;> rfl
theorem binA_and (k : IntKind) (a b : Int) : binA P .and t xo yo (.v (.int k a)) (.v (.int k b)) = some (.v (.int k (k.wrap (BitVec.ofInt k.bits a &&& BitVec.ofInt k.bits b).toNat))) := by cases k <;> rfl
theorem binA_or (k : IntKind) (a b : Int) : binA P .or t xo yo (.v (.int k a)) (.v (.int k b)) = some (.v (.int k (k.wrap (BitVec.ofInt k.bits a ||| BitVec.ofInt k.bits b).toNat))) := by cases k <;> rfl
theorem binA_quo (k : IntKind) (a b : Int) (h : b ≠ 0) : binA P .quo t xo yo (.v (.int k a)) (.v (.int k b)) = some (.v (.int k (k.wrap (a.tdiv b)))) := by
  have : Op.intDiv .quo k a b = pure (.int k (k.wrap (a.tdiv b))) := by simp [Op.intDiv, h]
  have e : binOp .quo t (.int k a) (.int k b) = pure (.int k (k.wrap (a.tdiv b))) := by cases k <;> exact this
  have g : eqGuard .quo t xo yo (.int k a) (.int k b) = pure () := rfl
  simp only [binA, binOldA, plainOf, g, e]
  rfl
theorem binA_rem (k : IntKind) (a b : Int) (h : b ≠ 0) : binA P .rem t xo yo (.v (.int k a)) (.v (.int k b)) = some (.v (.int k (a.tmod b))) := by
  have : Op.intDiv .rem k a b = pure (.int k (a.tmod b)) := by simp [Op.intDiv, h]
  have e : binOp .rem t (.int k a) (.int k b) = pure (.int k (a.tmod b)) := by cases k <;> exact this
  have g : eqGuard .rem t xo yo (.int k a) (.int k b) = pure () := rfl
  simp only [binA, binOldA, plainOf, g, e]
  rfl
theorem binA_shl (k k' : IntKind) (a b : Int) (h : ¬ b < 0) : binA P .shl t xo yo (.v (.int k a)) (.v (.int k' b)) = some (.v (.int k (k.wrap (a * 2 ^ (min b.toNat k.bits))))) := by
  have : Op.shift .shl k a k' b = pure (.int k (k.wrap (a * 2 ^ (min b.toNat k.bits)))) := by simp [Op.shift, h]
  have e : binOp .shl t (.int k a) (.int k' b) = pure (.int k (k.wrap (a * 2 ^ (min b.toNat k.bits)))) := this
  have g : eqGuard .shl t xo yo (.int k a) (.int k' b) = pure () := rfl
  simp only [binA, binOldA, plainOf, g, e]
  rfl
theorem binA_shr (k k' : IntKind) (a b : Int) (h : ¬ b < 0) : binA P .shr t xo yo (.v (.int k a)) (.v (.int k' b)) = some (.v (.int k (a.fdiv (2 ^ (min b.toNat k.bits))))) := by
  have : Op.shift .shr k a k' b = pure (.int k (a.fdiv (2 ^ (min b.toNat k.bits)))) := by simp [Op.shift, h]
  have e : binOp .shr t (.int k a) (.int k' b) = pure (.int k (a.fdiv (2 ^ (min b.toNat k.bits)))) := this
  have g : eqGuard .shr t xo yo (.int k a) (.int k' b) = pure () := rfl
  simp only [binA, binOldA, plainOf, g, e]
  rfl

theorem binA_eql_pn (h : isPtrT P t = true) (id off : Nat) : binA P .eql t xo yo (.ptr id off) (.v (.pointer none)) = some (.v (.bool false)) := by
  simp [binA, binOldA, plainOf, isEq, nilPtr, h]
theorem binA_neq_pn (h : isPtrT P t = true) (id off : Nat) : binA P .neq t xo yo (.ptr id off) (.v (.pointer none)) = some (.v (.bool true)) := by
  simp [binA, binOldA, plainOf, isEq, nilPtr, h]
theorem binA_agg_eql {t : TypeId} (xo yo : Operand) {cs ds : List AV} : binA P .eql t xo yo (.agg cs) (.agg ds) = (match flatT P t with
    | some ks => if fitsK ks cs && fitsK ks ds then some (.v (.bool (cellsEqA cs ds))) else none
    | none => none) := by
  cases h : flatT P t <;> simp [binA, isEq, h]
theorem binA_agg_neq {t : TypeId} (xo yo : Operand) {cs ds : List AV} : binA P .neq t xo yo (.agg cs) (.agg ds) = (match flatT P t with
    | some ks => if fitsK ks cs && fitsK ks ds then some (.v (.bool (!cellsEqA cs ds))) else none
    | none => none) := by
  cases h : flatT P t <;> simp [binA, isEq, h]
theorem binA_eql_bb (h : (P.underlying t) = some .bool) (a b : Bool) (hb : pureRun P (binOp .eql t (.bool a) (.bool b)) = some (.bool (a == b))) : binA P .eql t xo yo (.v (.bool a)) (.v (.bool b)) = some (.v (.bool (a == b))) := by
  have g : eqGuard .eql t xo yo (.bool a) (.bool b) = pure () := rfl
  simp only [binA, binOldA, plainOf, g]
  show (match pureRun P (binOp .eql t (.bool a) (.bool b)) with | some r => if plain r = true then some (AV.v r) else none | none => none) = _
  rw [hb]; rfl
theorem unA_not (b : Bool) : unA .not (.v (.bool b)) P = some (.v (.bool !b)) := rfl
end

theorem convA_int {P : Program} (s d : TypeId) (k : IntKind) (n : Int) : convA P s d (.v (.int k n)) = (match intT P s, intT P d with
    | some _, some k2 => some (.v (.int k2 (k2.wrap n)))
    | _, _ => match pureRun P (convert s d (.int k n)) with
      | some r => if plain r then some (.v r) else none
      | none => none) := by
  simp only [convA, intA]
  cases intT P s <;> cases intT P d <;> rfl

def bytesA (p : List UInt8) : List AV := p.map fun b => .v (.int .u8 b.toNat)

@[simp] theorem bytesA_length (p : List UInt8) : (bytesA p).length = p.length := by simp [bytesA]

end Go.Vm

/-
  The rules, in the form in which a walk uses them.
-/
namespace Go.Vm
set_option linter.unnecessarySimpa false
set_option linter.unusedSimpArgs false
set_option linter.unusedVariables false
open Go

@[simp] theorem putA_get (ρ : Nat → AV) (d i : Nat) (x : AV) : putA ρ (some d) x i = if i = d then x else ρ i := rfl
@[simp] theorem putA_none (ρ : Nat → AV) (x : AV) : putA ρ none x = ρ := rfl

theorem lt_of_get {α : Type} {l : List α} {i : Nat} {x : α} (h : l[i]? = some x) : i < l.length := (List.getElem?_eq_some_iff.1 h).1

theorem set_self_of {α : Type} {l : List α} {i : Nat} {y : α} (h : l[i]? = some y) (x : α) : (l.set i x)[i]? = some x := by
  simp [lt_of_get h]

def callOf (ρ : Nat → AV) (σ : St) : Op → Option (FuncId × List AV)
  | .call c => match c.callee with
    | .value x => match evalA ρ σ x, evalAll ρ σ c.args.toList with
      | some (.fn f caps), some args => some (f, args ++ caps)
      | _, _ => none
    | _ => none
  | _ => none

def isCall : Op → Bool
  | .call c => match c.callee with
    | .value _ => true
    | _ => false
  | .binOp .eql _ _ (.const (.slice none 0 0)) _ => true
  | .convert _ _ (.const (.string _)) => true
  | _ => false

def evalL (z : Zone) (P : Program) (N : Nat) (ops : Array Oper) : List Oper → (Nat → AV) → St → ((Nat → AV) → St → Prop) → Prop
  | [], ρ, σ, K => K ρ σ
  | o :: rest, ρ, σ, K => match o.guard with
    | some _ => RunL z P N ops (o :: rest) ρ σ K
    | none => if isCall o.op then RunL z P N ops (o :: rest) ρ σ K else
      match opA P ρ σ o.op with
      | some (av, σ') => evalL z P N ops rest (putA ρ o.dst av) σ' K
      | none => False

section
variable {z : Zone} {P : Program} {N : Nat} {ρ : Nat → AV} {σ : St}

theorem runL_eval {ops : Array Oper} {K : (Nat → AV) → St → Prop} : ∀ {l : List Oper} {ρ : Nat → AV} {σ : St}, (l.all fun o => inN N o.dst) = true → evalL z P N ops l ρ σ K → RunL z P N ops l ρ σ K
  | [], ρ, σ, _, h => runL_nil h
  | o :: rest, ρ, σ, hN, h => by
    simp only [List.all_cons, Bool.and_eq_true] at hN
    unfold evalL at h
    split at h
    · exact h
    · rename_i hg
      split at h
      · exact h
      · split at h
        · rename_i av σ' ho
          exact runL_op (by simp [wantedA, hg]) hN.1 ho (runL_eval hN.2 h)
        · exact h.elim

theorem runL_go {ops : Array Oper} {rest : List Oper} {o : Oper} {Q : (Nat → AV) → St → Prop} (hw : wantedA ops o ρ = some true) (hN : ((o :: rest).all fun o => inN N o.dst) = true)
    (k : match opA P ρ σ o.op with
      | some (av, σ') => evalL z P N ops rest (putA ρ o.dst av) σ' Q
      | none => False) : RunL z P N ops (o :: rest) ρ σ Q := by
  simp only [List.all_cons, Bool.and_eq_true] at hN
  split at k
  · rename_i av σ' ho
    exact runL_op hw hN.1 ho (runL_eval hN.2 k)
  · exact k.elim

theorem runL_no {ops : Array Oper} {rest : List Oper} {o : Oper} {Q : (Nat → AV) → St → Prop} (hw : wantedA ops o ρ = some false) (hN : ((o :: rest).all fun o => inN N o.dst) = true)
    (k : evalL z P N ops rest (putA ρ o.dst undefA) σ Q) : RunL z P N ops (o :: rest) ρ σ Q := by
  simp only [List.all_cons, Bool.and_eq_true] at hN
  exact runL_skip hw hN.1 (runL_eval hN.2 k)

theorem guard_split {b : Bool} {X : Prop} (h1 : b = true → X) (h2 : b = false → X) : X := by
  cases b
  · exact h2 rfl
  · exact h1 rfl

theorem runL_split {ops : Array Oper} {rest : List Oper} {o : Oper} {Q : (Nat → AV) → St → Prop} {b : Bool} (_hw : wantedA ops o ρ = some b) (h1 : b = true → RunL z P N ops (o :: rest) ρ σ Q) (h2 : b = false → RunL z P N ops (o :: rest) ρ σ Q) : RunL z P N ops (o :: rest) ρ σ Q :=
  guard_split h1 h2

theorem runL_call' {ops : Array Oper} {rest : List Oper} {o : Oper} {Q : (Nat → AV) → St → Prop} {f : FuncId} {args : List AV} {Qc : AV → St → Prop} {b : Bool} (hw : wantedA ops o ρ = some b) (hb : b = true) (hN : ((o :: rest).all fun o => inN N o.dst) = true)
    (ho : callOf ρ σ o.op = some (f, args)) (hcb : callable P f = true) (hcall : CallsA P f args σ Qc) (k : ∀ av σ', Qc av σ' → evalL z P N ops rest (putA ρ o.dst av) σ' Q) : RunL z P N ops (o :: rest) ρ σ Q := by
  subst hb
  unfold callOf at ho
  split at ho
  · rename_i c hop
    split at ho
    · rename_i x hx
      split at ho
      · rename_i f' caps args' hf ha
        cases ho
        simp only [List.all_cons, Bool.and_eq_true] at hN
        exact runL_call hw hN.1 hop hx hf ha hcb hcall (fun av σ' hq => runL_eval hN.2 (k av σ' hq))
      · cases ho
    · cases ho
  · cases ho

theorem run_slnil {t e : TypeId} (ht : P.underlying t = some (.slice e)) (a : Option Addr) (n c : Nat) (w : World) : (binOp .eql t (.slice a n c) (.slice none 0 0)).run P w = .ok (.bool a.isNone) w := by
  have h : (Op.equal t (.slice a n c) (.slice none 0 0)).run P w = .ok a.isNone w := by
    unfold Op.equal Op.maxDepth
    unfold Op.equalIn
    rw [Sem.run_bind, run_underlying ht]
    cases a <;> rfl
  unfold binOp
  simp only [Sem.run_bind, h, Result.andThen_ok, Sem.run_pure]

theorem runL_slnil {ops : Array Oper} {rest : List Oper} {o : Oper} {Q : (Nat → AV) → St → Prop} {t u e : TypeId} {x : Operand} {sz n : Nat} {cs : List AV} {tl : Tail} (hw : wantedA ops o ρ = some true) (hN : ((o :: rest).all fun o => inN N o.dst) = true)
    (ho : o.op = .binOp .eql t x (.const (.slice none 0 0)) u) (ht : P.underlying t = some (.slice e)) (hx : evalA ρ σ x = some (.sl sz cs n tl))
    (k : ∀ b : Bool, (0 < cs.length → b = false) → evalL z P N ops rest (putA ρ o.dst (.v (.bool b))) σ Q) : RunL z P N ops (o :: rest) ρ σ Q := by
  intro G w a R hR hK
  simp only [List.all_cons, Bool.and_eq_true] at hN
  have hv := evalA_sound hR.s hR.env hx
  obtain ⟨ad, m, c, hav, hb⟩ : ∃ ad m c, a.eval x = .slice ad m c ∧ (0 < cs.length → ad.isNone = false) := by
    generalize a.eval x = v at hv
    cases hv with
    | sl0 _ => exact ⟨_, _, _, rfl, fun h => by simp at h⟩
    | sl xs _ _ _ _ _ _ _ => exact ⟨_, _, _, rfl, fun _ => rfl⟩
  unfold wpListIn
  rw [if_pos (wantedA_sound hR hw)]
  refine ⟨fun _ _ => trivial, ?_⟩
  rw [Oper.semAt_eq _ _ _ (fun c e => by rw [ho] at e; cases e)]
  have hrun : (execOp a.eval o).run P w = .ok (.value (.bool ad.isNone)) w := by
    unfold execOp
    rw [ho]
    have hc : a.eval (.const (.slice none 0 0)) = .slice none 0 0 := rfl
    have hg : eqGuard .eql t x (.const (.slice none 0 0)) (.slice ad m c) (.slice none 0 0) = pure () := by cases ad <;> rfl
    simp only [hav, hc, hg, Sem.run_bind, Sem.run_pure, Result.andThen_ok, run_slnil ht]
  rw [hrun]
  exact runL_eval hN.2 (k _ hb) G w _ R (hR.put (.refl _ _) hR.s hN.1 (.v rfl)) hK

section
variable {Q : Exit → (Nat → AV) → St → Prop}

def Then (K : (Nat → AV) → St → Prop) (Q : Exit → (Nat → AV) → St → Prop) : Exit → (Nat → AV) → St → Prop
  | .normal, ρ, σ => K ρ σ
  | e, ρ, σ => Q e ρ σ

def InBlock (id : Nat) (Q : Exit → (Nat → AV) → St → Prop) : Exit → (Nat → AV) → St → Prop
  | .exit i, ρ, σ => if i = id then Q .normal ρ σ else Q (.exit i) ρ σ
  | e, ρ, σ => Q e ρ σ

def NoGoto (Q : Exit → (Nat → AV) → St → Prop) : Exit → (Nat → AV) → St → Prop
  | .goto _, _, _ => False
  | e, ρ, σ => Q e ρ σ

theorem run_seq_k {x y : Code} (h : ∀ K : (Nat → AV) → St → Prop, (∀ ρ σ, Run z P N y ρ σ Q → K ρ σ) → Run z P N x ρ σ (Then K Q)) : Run z P N (.seq x y) ρ σ Q :=
  run_seq (run_mono (h (fun ρ σ => Run z P N y ρ σ Q) (fun _ _ h => h)) (fun e ρ' σ' hq => by cases e <;> exact hq))

theorem run_region_k {id : Nat} {l : List Oper} (hN : (l.all fun o => inN N o.dst) = true) (h : ∀ K : (Nat → AV) → St → Prop, (∀ ρ σ, Q .normal ρ σ → K ρ σ) → evalL z P N l.toArray l ρ σ K) : Run z P N (.region id l.toArray false) ρ σ Q :=
  run_region (runL_eval hN (h _ (fun _ _ h => h)))

theorem run_loopF {c : Code} {X : Type} (F : List Nat) (I : X → (Nat → AV) → St → Prop) (μ : X → Nat) (x0 : X) (h0 : I x0 ρ σ)
    (round : ∀ x ρ1 σ1, (∀ r, r ∈ F → ρ1 r = ρ r) → I x ρ1 σ1 → Run z P N c ρ1 σ1 (fun e ρ' σ' => match e with | .normal => ∃ y, ((∀ r, r ∈ F → ρ' r = ρ r) ∧ I y ρ' σ') ∧ μ y < μ x | e => Q e ρ' σ')) : Run z P N (.loop c) ρ σ Q :=
  run_loop (fun x ρ' σ' => (∀ r, r ∈ F → ρ' r = ρ r) ∧ I x ρ' σ') μ x0 ⟨fun _ _ => rfl, h0⟩ (fun x ρ1 σ1 h => round x ρ1 σ1 h.1 h.2)

theorem run_block_k {id : Nat} {c : Code} (h : Run z P N c ρ σ (InBlock id Q)) : Run z P N (.block id c) ρ σ Q :=
  run_block (run_mono h (fun e ρ' σ' hq => by cases e <;> exact hq))

end

def Answer (P : Program) (fn : Func) (Q : AV → St → Prop) : Exit → (Nat → AV) → St → Prop := fun e ρ σ => (e = .normal ∨ e = .ret) ∧ ∃ av, answerA P fn ρ σ = some av ∧ Q av σ

theorem callsA_body {f : FuncId} {fn : Func} {c : Code} {args : List AV} {Q : AV → St → Prop} {nt : Nat} (hf : P.funcs[f]? = some fn) (hb : fn.body = some c) (hnt : fn.ntmps = nt) (hn : decide (args.length ≤ nt) = true)
    (h : Run ⟨none, 3⟩ P nt c (fun i => args.getD i undefA) σ (Answer P fn Q)) : CallsA P f args σ Q := by
  subst hnt
  exact callsA_enter hf hb (by simpa using hn) h

theorem answer_tmp {fn : Func} {t : Nat} {Q : AV → St → Prop} {e : Exit} (hr : fn.results = #[.tmp t]) (he : e = .normal ∨ e = .ret) (h : Q (ρ t) σ) : Answer P fn Q e ρ σ :=
  ⟨he, ρ t, by simp [answerA, hr, resultsA, resultA], h⟩
theorem answer_none {fn : Func} {Q : AV → St → Prop} {e : Exit} (hr : fn.results = #[]) (he : e = .normal ∨ e = .ret) (h : Q (.tup []) σ) : Answer P fn Q e ρ σ :=
  ⟨he, .tup [], by simp [answerA, hr, resultsA], h⟩
theorem answer_tmp2 {fn : Func} {t u : Nat} {Q : AV → St → Prop} {e : Exit} (hr : fn.results = #[.tmp t, .tmp u]) (he : e = .normal ∨ e = .ret) (h : Q (.tup [ρ t, ρ u]) σ) : Answer P fn Q e ρ σ :=
  ⟨he, _, by simp [answerA, hr, resultsA, resultA], h⟩

theorem answer_cell {fn : Func} {t : Tmp} {ty : TypeId} {Q : AV → St → Prop} {e : Exit} (hr : fn.results = #[.cell t ty]) (he : e = .normal ∨ e = .ret) (h : match loadA P ty (ρ t) σ with | some av => Q av σ | none => False) : Answer P fn Q e ρ σ := by
  split at h
  · rename_i av ha
    exact ⟨he, av, by simp [answerA, hr, resultsA, resultA, ha], h⟩
  · exact h.elim
theorem answer_cell_tmp {fn : Func} {t u : Tmp} {ty : TypeId} {Q : AV → St → Prop} {e : Exit} (hr : fn.results = #[.cell t ty, .tmp u]) (he : e = .normal ∨ e = .ret) (h : match loadA P ty (ρ t) σ with | some av => Q (.tup [av, ρ u]) σ | none => False) : Answer P fn Q e ρ σ := by
  split at h
  · rename_i av ha
    exact ⟨he, _, by simp [answerA, hr, resultsA, resultA, ha], h⟩
  · exact h.elim

end
end Go.Vm
