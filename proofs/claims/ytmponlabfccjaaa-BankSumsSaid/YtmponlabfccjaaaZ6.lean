import Derived.Test.YtmponlabfccjaaaZ5
import Derived.Orders
import Derived.OrdersIn
/-
  A statement whose order Go leaves open: it is walked once; what may come later is kept in mind.
-/
namespace Go.Vm
set_option linter.unnecessarySimpa false
set_option linter.unusedSimpArgs false
set_option linter.unusedVariables false
open Go

def isE : Op → Bool
  | .store .. | .alloc _ | .box .. => true
  | .call c => match c.callee with
    | .builtin .len => false
    | _ => true
  | .move _ | .assign _ | .pick .. | .build .. | .buildSlice .. | .load .. | .nilCheck _ | .binOp .. | .unOp .. | .convert .. | .slice .. | .fieldAddr .. | .field .. | .indexAddr .. | .index .. | .extract .. | .makeFunc .. => false
  | _ => true

section
variable {z : Zone} {P : Program} {N : Nat} {σ : St}

theorem evalA_congr {ρ ρ' : Nat → AV} {x : Operand} (h : ∀ t, x = .tmp t → ρ t = ρ' t) : evalA ρ σ x = evalA ρ' σ x := by
  cases x with
  | tmp t => simp [evalA, h t rfl]
  | _ => rfl

theorem evalAll_congr {ρ ρ' : Nat → AV} : ∀ {l : List Operand}, (∀ t, Operand.tmp t ∈ l → ρ t = ρ' t) → evalAll ρ σ l = evalAll ρ' σ l
  | [], _ => rfl
  | x :: l, h => by
    have h1 : evalA ρ σ x = evalA ρ' σ x := evalA_congr (fun t e => h t (by simp [e]))
    have h2 : evalAll ρ σ l = evalAll ρ' σ l := evalAll_congr (fun t e => h t (by simp [e]))
    simp only [evalAll, h1, h2]

theorem evalsA_congr {ρ ρ' : Nat → AV} : ∀ {l : List (Nat × Operand)}, (∀ t, Operand.tmp t ∈ l.map (·.2) → ρ t = ρ' t) → evalsA ρ σ l = evalsA ρ' σ l
  | [], _ => rfl
  | (i, x) :: l, h => by
    have h1 : evalA ρ σ x = evalA ρ' σ x := evalA_congr (fun t e => h t (by simp [e]))
    have h2 : evalsA ρ σ l = evalsA ρ' σ l := evalsA_congr (fun t e => h t (by simp [e]))
    simp only [evalsA, h1, h2]

theorem evalOpt_congr {ρ ρ' : Nat → AV} {x : Option Operand} (h : ∀ t, x = some (.tmp t) → ρ t = ρ' t) : evalOpt ρ σ x = evalOpt ρ' σ x := by
  cases x with
  | none => rfl
  | some o => simp only [evalOpt]; rw [evalA_congr (fun t e => h t (by rw [e]))]

theorem opA_congr {ρ ρ' : Nat → AV} {op : Op} (h : ∀ t, Operand.tmp t ∈ op.operands → ρ t = ρ' t) : opA P ρ σ op = opA P ρ' σ op := by
  have E : ∀ x, x ∈ op.operands → evalA ρ σ x = evalA ρ' σ x := fun x hx => evalA_congr (fun t e => h t (e ▸ hx))
  cases op with
  | build t ps =>
    have : evalsA ρ σ ps.toList = evalsA ρ' σ ps.toList := evalsA_congr (fun t ht => h t (by simpa [Op.operands] using ht))
    simp only [opA, this]
  | buildSlice t n ps =>
    have : evalsA ρ σ ps.toList = evalsA ρ' σ ps.toList := evalsA_congr (fun t ht => h t (by simpa [Op.operands] using ht))
    simp only [opA, this]
  | slice t x lo hi mx =>
    have h1 := E x (by simp [Op.operands])
    have h2 : evalOpt ρ σ lo = evalOpt ρ' σ lo := evalOpt_congr (fun t e => h t (by simp [Op.operands, e]))
    have h3 : evalOpt ρ σ hi = evalOpt ρ' σ hi := evalOpt_congr (fun t e => h t (by simp [Op.operands, e]))
    have h4 : evalOpt ρ σ mx = evalOpt ρ' σ mx := evalOpt_congr (fun t e => h t (by simp [Op.operands, e]))
    simp only [opA, h1, h2, h3, h4]
  | makeFunc fn first caps =>
    have : evalAll ρ σ caps.toList = evalAll ρ' σ caps.toList := evalAll_congr (fun t ht => h t (by simp [Op.operands]; right; simpa using ht))
    cases fn <;> simp only [opA, this]
  | call c =>
    have : evalAll ρ σ c.args.toList = evalAll ρ' σ c.args.toList := evalAll_congr (fun t ht => h t (by simp [Op.operands, Call.operands]; right; simpa using ht))
    simp only [opA, this]
  | move x => simp only [opA, E x (by simp [Op.operands])]
  | assign x => simp only [opA, E x (by simp [Op.operands])]
  | pick a b c => simp only [opA, E a (by simp [Op.operands]), E b (by simp [Op.operands]), E c (by simp [Op.operands])]
  | box t x => simp only [opA, E x (by simp [Op.operands])]
  | load t x => simp only [opA, E x (by simp [Op.operands])]
  | store t x y => simp only [opA, E x (by simp [Op.operands]), E y (by simp [Op.operands])]
  | nilCheck x => simp only [opA, E x (by simp [Op.operands])]
  | binOp o t x y u => simp only [opA, E x (by simp [Op.operands]), E y (by simp [Op.operands])]
  | unOp o t x => simp only [opA, E x (by simp [Op.operands])]
  | convert s d x => simp only [opA, E x (by simp [Op.operands])]
  | sliceToArrayPointer t x => simp only [opA, E x (by simp [Op.operands])]
  | fieldAddr t x f => simp only [opA, E x (by simp [Op.operands])]
  | field t x f => simp only [opA, E x (by simp [Op.operands])]
  | indexAddr t x y => simp only [opA, E x (by simp [Op.operands]), E y (by simp [Op.operands])]
  | index t x y => simp only [opA, E x (by simp [Op.operands]), E y (by simp [Op.operands])]
  | extract x i => simp only [opA, E x (by simp [Op.operands])]
  | makeSlice t x y => simp only [opA, E x (by simp [Op.operands]), E y (by simp [Op.operands])]
  | _ => rfl

theorem callOf_congr {ρ ρ' : Nat → AV} {op : Op} (h : ∀ t, Operand.tmp t ∈ op.operands → ρ t = ρ' t) : callOf ρ σ op = callOf ρ' σ op := by
  cases op with
  | call c =>
    have h1 : evalAll ρ σ c.args.toList = evalAll ρ' σ c.args.toList := evalAll_congr (fun t ht => h t (by simp [Op.operands, Call.operands]; right; simpa using ht))
    cases hc : c.callee with
    | value x =>
      have h2 : evalA ρ σ x = evalA ρ' σ x := evalA_congr (fun t e => h t (by simp [Op.operands, Call.operands, hc, e]))
      simp only [callOf, hc, h1, h2]
    | _ => simp only [callOf, hc]
  | _ => rfl

theorem looksAt_op {ops : Array Oper} {o : Oper} {t : Tmp} (h : Operand.tmp t ∈ o.op.operands) : t ∈ o.looksAt ops :=
  List.mem_append_left _ (List.mem_filterMap.2 ⟨.tmp t, by simpa using h, rfl⟩)

theorem wantedA_congr {ops : Array Oper} {o : Oper} {ρ ρ' : Nat → AV} (h : ∀ t, t ∈ o.looksAt ops → ρ t = ρ' t) : wantedA ops o ρ = wantedA ops o ρ' := by
  unfold wantedA
  cases hg : o.guard with
  | none => rfl
  | some gw =>
    obtain ⟨g, want⟩ := gw
    simp only
    cases ht : (ops[g]?).bind (·.dst) with
    | none => rfl
    | some d => simp only; rw [h d (by simp [Oper.looksAt, hg, ht])]

/-! ### What may come later -/

def ready (ops : Array Oper) (S : List Nat) (i : Nat) : Bool :=
  !S.contains i && match ops[i]? with
    | some o => o.after.all fun e => !Region.binds .any e || S.contains e.on
    | none => false

def Fact (P : Program) (ops : Array Oper) (ρ : Nat → AV) (σ : St) (i : Nat) : Prop :=
  ∃ o x, ops[i]? = some o ∧ o.dst = some x ∧ ((wantedA ops o ρ = some true ∧ opA P ρ σ o.op = some (ρ x, σ)) ∨ (wantedA ops o ρ = some false ∧ ρ x = undefA))

def dstOf (ops : Array Oper) (i : Nat) : Option Tmp := (ops[i]?).bind (·.dst)

def Waits (ops : Array Oper) (D : List Nat) (listed : Array Bool) (x : Nat) : Prop := ∃ i ∈ D, listed.getD i true = false ∧ dstOf ops i = some x

open Classical in
noncomputable def seen (ops : Array Oper) (D : List Nat) (listed : Array Bool) (ρ0 ρ : Nat → AV) : Nat → AV := fun x => if Waits ops D listed x then ρ0 x else ρ x

def unlisted (n : Nat) (listed : Array Bool) : Nat := (List.range n).countP fun i => listed.getD i true == false

structure DS (ops : Array Oper) (S D : List Nat) (ρ0 ρ : Nat → AV) (σ : St) (P : Program) : Prop where
  sub : ∀ i ∈ D, i ∈ S
  fact : ∀ i ∈ D, Fact P ops ρ σ i
  old : ∀ x, (∀ i ∈ S, dstOf ops i ≠ some x) → ρ x = ρ0 x
  cover : ∀ i ∈ D, ∀ o, ops[i]? = some o → ∀ j ∈ D, ∀ x, dstOf ops j = some x → x ∈ o.looksAt ops → ∃ e ∈ o.after, Region.binds .any e = true ∧ e.on = j
  uniq : ∀ i ∈ D, ∀ j ∈ D, ∀ x, dstOf ops i = some x → dstOf ops j = some x → i = j

structure At (ops : Array Oper) (S D : List Nat) (ρ0 ρ : Nat → AV) (σ : St) (N : Nat) (fuel : Nat) (listed : Array Bool) (G : Gh) (w : World) (a : Act) : Prop where
  size : listed.size = ops.size
  listedS : ∀ i, listed.getD i false = true → i ∈ S
  keep : ∀ i ∈ S, i ∉ D → listed.getD i false = true
  fuel : unlisted ops.size listed ≤ fuel
  rel : Rel N G w (seen ops D listed ρ0 ρ) σ a

def RunD (z : Zone) (P : Program) (N : Nat) (ops : Array Oper) (S D : List Nat) (ρ0 ρ : Nat → AV) (σ : St) (Q : (Nat → AV) → St → Prop) : Prop :=
  DS ops S D ρ0 ρ σ P → ∀ fuel listed G w a (R : Exit → Act → World → Prop), At ops S D ρ0 ρ σ N fuel listed G w a →
    (∀ ρ' σ' G' a' w', Q ρ' σ' → Ext G w G' w' → Rel N G' w' ρ' σ' a' → R .normal a' w') → wpAnyIn z.F z.n P .any ops R fuel listed a w

theorem count_set (p q : Nat → Bool) (i : Nat) (hp : p i = true) (hqi : q i = false) (hq : ∀ j, j ≠ i → q j = p j) : ∀ m, (List.range m).countP q + (if i < m then 1 else 0) = (List.range m).countP p
  | 0 => by simp
  | m + 1 => by
    have ih := count_set p q i hp hqi hq m
    rw [List.range_succ, List.countP_append, List.countP_append]
    by_cases hi : m = i
    · subst hi
      rw [if_neg (by omega)] at ih
      rw [if_pos (by omega)]
      simp only [List.countP_cons, List.countP_nil, hp, hqi, if_true, Bool.false_eq_true, if_false]
      omega
    · have e := hq m hi
      simp only [List.countP_cons, List.countP_nil, e]
      by_cases h1 : i < m
      · have h2 : i < m + 1 := by omega
        simp only [h1, h2, if_true] at ih ⊢
        omega
      · have h2 : ¬ i < m + 1 := by omega
        simp only [h1, h2, if_false] at ih ⊢
        omega

theorem unlisted_set {n i : Nat} {listed : Array Bool} (hn : i < n) (hs : listed.size = n) (h : listed.getD i true = false) : unlisted n (listed.setIfInBounds i true) + 1 = unlisted n listed := by
  unfold unlisted
  have := count_set (fun j => listed.getD j true == false) (fun j => (listed.setIfInBounds i true).getD j true == false) i (by simp only [h]; rfl)
    (by
      have e1 : (listed.setIfInBounds i true).getD i true = true := by simp [Array.getD_eq_getD_getElem?, hs, hn]
      simp only [e1]; rfl)
    (fun j hj => by
      have e1 : (listed.setIfInBounds i true).getD j true = listed.getD j true := getD_set_ne true (Ne.symm hj)
      simp only [e1]) n
  rw [if_pos hn] at this
  exact this

theorem ready_lt {md : Region.Mode} {ops : Array Oper} {listed : Array Bool} {j : Nat} (h : j ∈ Region.ready md ops listed) : j < ops.size := by
  obtain ⟨_, o, ho, _⟩ := mem_ready.1 h
  exact (Array.getElem?_eq_some_iff.1 ho).1

theorem fuel_pos {ops : Array Oper} {listed : Array Bool} {j fuel : Nat} (h : j ∈ Region.ready .any ops listed) (hf : unlisted ops.size listed ≤ fuel) : ∃ f, fuel = f + 1 := by
  have hlt := ready_lt h
  have hl := (mem_ready.1 h).1
  have : 0 < unlisted ops.size listed := by
    unfold unlisted
    rw [List.countP_pos_iff]
    exact ⟨j, by simpa using hlt, by simp only [hl]; rfl⟩
  exact ⟨fuel - 1, by omega⟩

theorem getD_tf {listed : Array Bool} {i : Nat} (h : i < listed.size) : listed.getD i true = listed.getD i false := by
  simp [Array.getD_eq_getD_getElem?, h]

theorem step_waiting {ops : Array Oper} {S D : List Nat} {ρ0 ρ : Nat → AV} {fuel : Nat} {listed : Array Bool} {G : Gh} {w : World} {a : Act} {R : Exit → Act → World → Prop} {j : Nat}
    (hD : DS ops S D ρ0 ρ σ P) (hA : At ops S D ρ0 ρ σ N (fuel + 1) listed G w a) (hj : j ∈ Region.ready .any ops listed) (hjS : j ∈ S) (hNo : ∀ o ∈ ops.toList, inN N o.dst = true)
    (k : ∀ G' a' w', Ext G w G' w' → At ops S D ρ0 ρ σ N fuel (listed.setIfInBounds j true) G' w' a' → wpAnyIn z.F z.n P .any ops R fuel (listed.setIfInBounds j true) a' w') :
    wpOpIn z.F z.n P ops R j (wpAnyIn z.F z.n P .any ops R fuel (listed.setIfInBounds j true)) a w := by
  have hlt := ready_lt hj
  obtain ⟨hjl, o, ho, hdeps⟩ := mem_ready.1 hj
  have hjD : j ∈ D := by
    apply Classical.byContradiction
    intro hn
    have := hA.keep j hjS hn
    rw [← getD_tf (by rw [hA.size]; exact hlt), hjl] at this
    cases this
  obtain ⟨o1, x, ho1, hx, hf⟩ := hD.fact j hjD
  have e1 : o1 = o := by rw [ho] at ho1; exact (Option.some.inj ho1).symm
  rw [e1] at hx hf
  clear ho1 e1 o1
  have hdj : dstOf ops j = some x := by simp [dstOf, ho, hx]
  -- what it looks at is there
  have hsee : ∀ t, t ∈ o.looksAt ops → seen ops D listed ρ0 ρ t = ρ t := by
    intro t ht
    unfold seen
    rw [if_neg]
    rintro ⟨i, hiD, hil, hid⟩
    obtain ⟨e, he, hb, hon⟩ := hD.cover j hjD o ho i hiD t hid ht
    have h1 := hdeps e he hb
    rw [hon] at h1
    have hi : i < listed.size := by
      apply Classical.byContradiction
      intro hn
      rw [Array.getD_eq_getD_getElem?, Array.getElem?_eq_none (Nat.not_lt.1 hn)] at h1
      cases h1
    rw [← getD_tf hi, hil] at h1
    cases h1
  have hset : ∀ i, i ≠ j → (listed.setIfInBounds j true).getD i true = listed.getD i true := fun i hi => getD_set_ne true (Ne.symm hi)
  have hsetF : ∀ i, i ≠ j → (listed.setIfInBounds j true).getD i false = listed.getD i false := fun i hi => getD_set_ne false (Ne.symm hi)
  have hsetj : (listed.setIfInBounds j true).getD j false = true := by simp [Array.getD_eq_getD_getElem?, Array.getElem?_setIfInBounds, hA.size, hlt]
  have hsetjT : (listed.setIfInBounds j true).getD j true = true := by simp [Array.getD_eq_getD_getElem?, Array.getElem?_setIfInBounds, hA.size, hlt]
  have hseen' : seen ops D (listed.setIfInBounds j true) ρ0 ρ = putA (seen ops D listed ρ0 ρ) (some x) (ρ x) := by
    funext t
    show _ = if t = x then ρ x else seen ops D listed ρ0 ρ t
    by_cases ht : t = x
    · subst ht
      rw [if_pos rfl]
      unfold seen
      rw [if_neg]
      rintro ⟨i, hiD, hil, hid⟩
      have := hD.uniq i hiD j hjD t hid hdj
      subst this
      rw [hsetjT] at hil; cases hil
    · rw [if_neg ht]
      unfold seen
      have : Waits ops D (listed.setIfInBounds j true) t ↔ Waits ops D listed t := by
        constructor
        · rintro ⟨i, hiD, hil, hid⟩
          have hij : i ≠ j := by
            intro e; subst e
            rw [hdj] at hid; cases hid; exact ht rfl
          exact ⟨i, hiD, by rw [← hset i hij]; exact hil, hid⟩
        · rintro ⟨i, hiD, hil, hid⟩
          have hij : i ≠ j := by
            intro e; subst e
            rw [hdj] at hid; cases hid; exact ht rfl
          exact ⟨i, hiD, by rw [hset i hij]; exact hil, hid⟩
      by_cases hw : Waits ops D listed t
      · rw [if_pos hw, if_pos (this.2 hw)]
      · rw [if_neg hw, if_neg (fun h => hw (this.1 h))]
  have hat : ∀ G' w' v, Ext G w G' w' → RelS G' w' σ → AVR G' w' v (ρ x) → At ops S D ρ0 ρ σ N fuel (listed.setIfInBounds j true) G' w' (a.put o.dst v) := by
    intro G' w' v hE hS hv
    refine ⟨by simpa using hA.size, fun i hi => ?_, fun i hi hn => ?_, ?_, ?_⟩
    · by_cases hij : i = j
      · subst hij; exact hjS
      · rw [hsetF i hij] at hi; exact hA.listedS i hi
    · by_cases hij : i = j
      · subst hij; exact hsetj
      · rw [hsetF i hij]; exact hA.keep i hi hn
    · have := unlisted_set hlt hA.size hjl
      have := hA.fuel
      omega
    · rw [hseen', hx]
      exact hA.rel.put hE hS (by
        have := hNo o (by simpa using Array.mem_of_getElem? ho)
        rwa [hx] at this) hv
  unfold wpOpIn
  simp only [ho]
  have hwant : wantedA ops o (seen ops D listed ρ0 ρ) = wantedA ops o ρ := wantedA_congr hsee
  rcases hf with ⟨hw, hop⟩ | ⟨hw, hun⟩
  · rw [if_pos (wantedA_sound hA.rel (hwant.trans hw))]
    refine ⟨fun _ _ => trivial, ?_⟩
    have hop' : opA P (seen ops D listed ρ0 ρ) σ o.op = some (ρ x, σ) := by
      rw [opA_congr (fun t ht => hsee t (looksAt_op ht))]; exact hop
    obtain ⟨nx, v, w', G', hr, hn, hE, hS, hv⟩ := op_sound (P := P) hA.rel.s hA.rel.env hop'
    rw [zone_semAt hop', hr]
    rcases hn with rfl | ⟨rfl, rfl⟩
    · exact k G' _ w' hE (hat G' w' v hE hS hv)
    · exact k G' _ w' hE (hat G' w' undef hE hS hv)
  · rw [if_neg (by rw [wantedA_sound hA.rel (hwant.trans hw)]; simp)]
    exact ⟨fun _ _ => trivial, k G _ w (.refl _ _) (hat G w undef (.refl _ _) hA.rel.s (by rw [hun]; exact .v rfl))⟩

theorem flush {ops : Array Oper} {S D : List Nat} {ρ0 ρ : Nat → AV} {R : Exit → Act → World → Prop} (hD : DS ops S D ρ0 ρ σ P) (hNo : ∀ o ∈ ops.toList, inN N o.dst = true) :
    ∀ (fuel : Nat) (listed : Array Bool) (G : Gh) (w : World) (a : Act), At ops S D ρ0 ρ σ N fuel listed G w a →
      (∀ G' a' w' listed' fuel', Ext G w G' w' → At ops S D ρ0 ρ σ N fuel' listed' G' w' a' → Region.ready .any ops listed' = [] → R .normal a' w') →
      (∀ G' a' w' listed' fuel' j, Ext G w G' w' → At ops S D ρ0 ρ σ N (fuel' + 1) listed' G' w' a' → j ∈ Region.ready .any ops listed' → j ∉ S → wpOpIn z.F z.n P ops R j (wpAnyIn z.F z.n P .any ops R fuel' (listed'.setIfInBounds j true)) a' w') →
      wpAnyIn z.F z.n P .any ops R fuel listed a w := by
  intro fuel
  induction fuel with
  | zero =>
    intro listed G w a hA h0 _
    have hnil : Region.ready .any ops listed = [] := by
      cases hr : Region.ready .any ops listed with
      | nil => rfl
      | cons j rest =>
        obtain ⟨f, hf⟩ := fuel_pos (j := j) (by rw [hr]; simp) hA.fuel
        omega
    exact ⟨hnil, h0 G a w listed 0 (.refl _ _) hA hnil⟩
  | succ fuel ih =>
    intro listed G w a hA h0 h1
    refine ⟨fun hnil => h0 G a w listed (fuel + 1) (.refl _ _) hA hnil, fun j hj => ?_⟩
    by_cases hjS : j ∈ S
    · exact step_waiting hD hA hj hjS hNo (fun G' a' w' hE hA' => ih _ G' w' a' hA' (fun G2 a2 w2 l2 f2 hE2 => h0 G2 a2 w2 l2 f2 (hE.trans hE2)) (fun G2 a2 w2 l2 f2 j2 hE2 => h1 G2 a2 w2 l2 f2 j2 (hE.trans hE2)))
    · exact h1 G a w listed fuel j (.refl _ _) hA hj hjS

def covers (ops : Array Oper) (D : List Nat) (o : Oper) : Bool :=
  D.all fun j => match dstOf ops j with
    | some y => !(o.looksAt ops).contains y || o.after.any fun e => Region.binds .any e && e.on == j
    | none => true

theorem covers_spec {ops : Array Oper} {D : List Nat} {o : Oper} (h : covers ops D o = true) : ∀ j ∈ D, ∀ x, dstOf ops j = some x → x ∈ o.looksAt ops → ∃ e ∈ o.after, Region.binds .any e = true ∧ e.on = j := by
  intro j hj x hx hl
  have := List.all_eq_true.1 h j hj
  rw [hx] at this
  simp only [Bool.or_eq_true, Bool.not_eq_true'] at this
  rcases this with this | this
  · rw [List.contains_eq_mem] at this; simp [hl] at this
  · obtain ⟨e, he, hb⟩ := Array.any_eq_true'.1 this
    simp only [Bool.and_eq_true, beq_iff_eq] at hb
    exact ⟨e, he, hb.1, hb.2⟩

def fresh (ops : Array Oper) (D : List Nat) (x : Tmp) : Bool :=
  D.all fun j => dstOf ops j != some x && match ops[j]? with
    | some o => !(o.looksAt ops).contains x
    | none => true

theorem fresh_spec {ops : Array Oper} {D : List Nat} {x : Tmp} (h : fresh ops D x = true) : ∀ j ∈ D, dstOf ops j ≠ some x ∧ ∀ o, ops[j]? = some o → x ∉ o.looksAt ops := by
  intro j hj
  have := List.all_eq_true.1 h j hj
  simp only [Bool.and_eq_true, bne_iff_ne, ne_eq] at this
  refine ⟨this.1, fun o ho => ?_⟩
  have h2 := this.2
  rw [ho] at h2
  simpa using h2

theorem ready_spec {ops : Array Oper} {S : List Nat} {i : Nat} (h : ready ops S i = true) : i ∉ S ∧ ∃ o, ops[i]? = some o ∧ ∀ e ∈ o.after, Region.binds .any e = true → e.on ∈ S := by
  unfold ready at h
  simp only [Bool.and_eq_true, Bool.not_eq_true'] at h
  obtain ⟨h1, h2⟩ := h
  refine ⟨by simpa using h1, ?_⟩
  split at h2
  · rename_i o ho
    refine ⟨o, ho, fun e he hb => ?_⟩
    have := Array.all_eq_true_iff_forall_mem.1 h2 e he
    simpa [hb] using this
  · cases h2

theorem Fact.put {ops : Array Oper} {ρ : Nat → AV} {j : Nat} {x : Tmp} {v : AV} (h : Fact P ops ρ σ j) (hd : dstOf ops j ≠ some x) (hl : ∀ o, ops[j]? = some o → x ∉ o.looksAt ops) : Fact P ops (putA ρ (some x) v) σ j := by
  obtain ⟨o, y, ho, hy, hf⟩ := h
  have hne : y ≠ x := by
    intro e; subst e
    exact hd (by simp [dstOf, ho, hy])
  have hag : ∀ t, t ∈ o.looksAt ops → putA ρ (some x) v t = ρ t := by
    intro t ht
    have : t ≠ x := fun e => by subst e; exact hl o ho ht
    simp [this]
  refine ⟨o, y, ho, hy, ?_⟩
  have e1 : putA ρ (some x) v y = ρ y := by simp [hne]
  rw [e1, wantedA_congr hag, opA_congr (ρ' := ρ) (fun t ht => hag t (looksAt_op ht))]
  exact hf

theorem runD_pure {ops : Array Oper} {S D : List Nat} {ρ0 ρ : Nat → AV} {Q : (Nat → AV) → St → Prop} (i : Nat) {o : Oper} {x : Tmp} {v : AV} (hr : ready ops S i = true) (ho : ops[i]? = some o) (hx : o.dst = some x)
    (hS : (S.all fun j => dstOf ops j != some x) = true) (hf : fresh ops D x = true) (hself : (o.looksAt ops).contains x = false) (hc : covers ops D o = true)
    (hv : (wantedA ops o ρ = some true ∧ opA P ρ σ o.op = some (v, σ)) ∨ (wantedA ops o ρ = some false ∧ v = undefA))
    (k : RunD z P N ops (i :: S) (i :: D) ρ0 (putA ρ (some x) v) σ Q) : RunD z P N ops S D ρ0 ρ σ Q := by
  intro hD fuel listed G w a R hA hK
  obtain ⟨hiS, o', ho', hdeps⟩ := ready_spec hr
  rw [ho] at ho'; cases ho'
  have hlt : i < ops.size := (Array.getElem?_eq_some_iff.1 ho).1
  have hS' : ∀ j ∈ S, dstOf ops j ≠ some x := fun j hj => by
    have := List.all_eq_true.1 hS j hj
    simpa using this
  have hf' := fresh_spec hf
  have hself' : x ∉ o.looksAt ops := by simpa using hself
  have hdi : dstOf ops i = some x := by simp [dstOf, ho, hx]
  have hil : listed.getD i true = false := by
    rw [getD_tf (by rw [hA.size]; exact hlt)]
    cases h : listed.getD i false with
    | false => rfl
    | true => exact (hiS (hA.listedS i h)).elim
  have hag : ∀ t, t ∈ o.looksAt ops → putA ρ (some x) v t = ρ t := by
    intro t ht
    have : t ≠ x := fun e => by subst e; exact hself' ht
    simp [this]
  refine k ⟨?_, ?_, ?_, ?_, ?_⟩ fuel listed G w a R ⟨hA.size, fun j hj => List.mem_cons_of_mem _ (hA.listedS j hj), fun j hj hn => ?_, hA.fuel, ?_⟩ hK
  · intro j hj
    rcases List.mem_cons.1 hj with rfl | hj
    · simp
    · exact List.mem_cons_of_mem _ (hD.sub j hj)
  · intro j hj
    rcases List.mem_cons.1 hj with rfl | hj
    · refine ⟨o, x, ho, hx, ?_⟩
      rw [wantedA_congr hag, opA_congr (ρ' := ρ) (fun t ht => hag t (looksAt_op ht))]
      have : putA ρ (some x) v x = v := by simp
      rw [this]; exact hv
    · exact (hD.fact j hj).put (hf' j hj).1 (hf' j hj).2
  · intro t ht
    have hne : t ≠ x := by
      intro e; subst e
      exact ht i (by simp) hdi
    have : putA ρ (some x) v t = ρ t := by simp [hne]
    rw [this]
    exact hD.old t (fun j hj => ht j (by simp [hj]))
  · intro j hj oj hoj m hm y hy hl
    rcases List.mem_cons.1 hj with hj' | hj' <;> rcases List.mem_cons.1 hm with hm' | hm'
    · subst hj'; subst hm'
      rw [ho] at hoj; cases hoj
      rw [hdi] at hy; cases hy
      exact (hself' hl).elim
    · subst hj'
      rw [ho] at hoj; cases hoj
      exact covers_spec hc m hm' y hy hl
    · subst hm'
      rw [hdi] at hy; cases hy
      exact ((hf' j hj').2 oj hoj hl).elim
    · exact hD.cover j hj' oj hoj m hm' y hy hl
  · intro j hj m hm y hy1 hy2
    rcases List.mem_cons.1 hj with hj' | hj' <;> rcases List.mem_cons.1 hm with hm' | hm'
    · rw [hj', hm']
    · subst hj'
      rw [hdi] at hy1; cases hy1
      exact ((hf' m hm').1 hy2).elim
    · subst hm'
      rw [hdi] at hy2; cases hy2
      exact ((hf' j hj').1 hy1).elim
    · exact hD.uniq j hj' m hm' y hy1 hy2
  · rcases List.mem_cons.1 hj with rfl | hj
    · exact (hn (by simp)).elim
    · exact hA.keep j hj (fun h => hn (by simp [h]))
  · have : seen ops (i :: D) listed ρ0 (putA ρ (some x) v) = seen ops D listed ρ0 ρ := by
      funext t
      unfold seen
      by_cases ht : t = x
      · subst ht
        have h1 : Waits ops (i :: D) listed t := ⟨i, by simp, hil, hdi⟩
        have h2 : ¬ Waits ops D listed t := by
          rintro ⟨j, hj, _, hd⟩; exact hS' j (hD.sub j hj) hd
        rw [if_pos h1, if_neg h2, hD.old t hS']
      · have h1 : Waits ops (i :: D) listed t ↔ Waits ops D listed t := by
          constructor
          · rintro ⟨j, hj, hl, hd⟩
            rcases List.mem_cons.1 hj with rfl | hj
            · rw [hdi] at hd; cases hd; exact (ht rfl).elim
            · exact ⟨j, hj, hl, hd⟩
          · rintro ⟨j, hj, hl, hd⟩; exact ⟨j, by simp [hj], hl, hd⟩
        have h3 : putA ρ (some x) v t = ρ t := by simp [ht]
        by_cases hw : Waits ops D listed t
        · rw [if_pos hw, if_pos (h1.2 hw)]
        · rw [if_neg hw, if_neg (fun h => hw (h1.1 h)), h3]
    rw [this]; exact hA.rel

def acyclic (ops : Array Oper) : Bool := (List.range ops.size).all fun i => match ops[i]? with
  | some o => o.after.all fun e => !Region.binds .any e || decide (e.on < i)
  | none => true

theorem all_listed {ops : Array Oper} {listed : Array Bool} (hac : acyclic ops = true) (hs : listed.size = ops.size) (hnil : Region.ready .any ops listed = []) : ∀ i, i < ops.size → listed.getD i false = true := by
  intro i
  induction i using Nat.strongRecOn with
  | _ i ih =>
    intro hi
    cases h : listed.getD i false with
    | true => rfl
    | false =>
      exfalso
      have hmem : i ∈ Region.ready .any ops listed := by
        rw [mem_ready]
        refine ⟨by rw [getD_tf (by omega)]; exact h, ops[i], Array.getElem?_eq_getElem hi, fun e he hb => ?_⟩
        have h1 := List.all_eq_true.1 hac i (by simpa using hi)
        rw [Array.getElem?_eq_getElem hi] at h1
        have h2 := Array.all_eq_true_iff_forall_mem.1 h1 e he
        rw [hb] at h2
        have h3 : e.on < i := by simpa using h2
        exact ih e.on h3 (by omega)
      rw [hnil] at hmem; cases hmem

def later (D : List Nat) (o : Oper) : List Nat := D.filter fun j => !(o.after.any fun e => Region.binds .any e && e.on == j)

def Alt (z : Zone) (P : Program) (N : Nat) (ops : Array Oper) (S D : List Nat) (ρ0 ρ : Nat → AV) (σ : St) (Q : (Nat → AV) → St → Prop) (i : Nat) : Prop :=
  ∃ (o : Oper) (K : AV → St → Prop), ready ops S i = true ∧ ops[i]? = some o ∧ (match o.dst with | some x => fresh ops (later D o) x | none => true) = true ∧ covers ops D o = true ∧
    (∀ (ρr : Nat → AV), (∀ t, t ∈ o.looksAt ops → ρr t = ρ t) → ∀ G w a (R : Exit → Act → World → Prop) (R' : Act → World → Prop), Rel N G w ρr σ a →
      (∀ av σ' G' w' v, K av σ' → Ext G w G' w' → RelS G' w' σ' → AVR G' w' v av → R' (a.put o.dst v) w') → wpOpIn z.F z.n P ops R i R' a w) ∧
    (∀ av σ', K av σ' → (∀ j ∈ later D o, Fact P ops ρ σ j → Fact P ops ρ σ' j) ∧ RunD z P N ops (i :: S) (later D o) ρ0 (putA ρ o.dst av) σ' Q)

theorem runD_alts {ops : Array Oper} {S D : List Nat} {ρ0 ρ : Nat → AV} {Q : (Nat → AV) → St → Prop} (i0 : Nat) (A : List Nat) (hac : acyclic ops = true) (hNo : (ops.toList.all fun o => inN N o.dst) = true)
    (halone : ((List.range ops.size).all fun j => (i0 :: A).contains j || !ready ops S j) = true) (h : ∀ i, i ∈ i0 :: A → Alt z P N ops S D ρ0 ρ σ Q i) : RunD z P N ops S D ρ0 ρ σ Q := by
  intro hD fuel listed G w a R hA hK
  have hNo' : ∀ o ∈ ops.toList, inN N o.dst = true := fun o h => List.all_eq_true.1 hNo o h
  have honly : ∀ j listed', At ops S D ρ0 ρ σ N 0 listed' G w a ∨ (∀ q, listed'.getD q false = true → q ∈ S) → j ∈ Region.ready .any ops listed' → j ∉ S → j ∈ i0 :: A := by
    intro j listed' h hj hjS
    have hsub : ∀ q, listed'.getD q false = true → q ∈ S := by
      rcases h with h | h
      · exact h.listedS
      · exact h
    obtain ⟨_, oj, hoj, hdj⟩ := mem_ready.1 hj
    have hjlt := ready_lt hj
    have := List.all_eq_true.1 halone j (by simpa using hjlt)
    simp only [Bool.or_eq_true, Bool.not_eq_true'] at this
    rcases this with h1 | h1
    · simpa using h1
    · have h2 : ready ops S j = true := by
        unfold ready
        rw [hoj]
        simp only [Bool.and_eq_true, Bool.not_eq_true']
        refine ⟨by simpa using hjS, Array.all_eq_true_iff_forall_mem.2 (fun e he => ?_)⟩
        cases hb : Region.binds .any e with
        | false => rfl
        | true => simpa using hsub _ (hdj e he hb)
      rw [h2] at h1; cases h1
  refine flush hD hNo' fuel listed G w a hA (fun G' a' w' listed' fuel' hE hA' hnil => ?_) (fun G' a' w' listed' fuel' j hE hA' hj hjS => ?_)
  · -- nothing may come up, and this one hasn't: it waits for one that may
    exfalso
    obtain ⟨o, K, hr, ho, _⟩ := h i0 (by simp)
    obtain ⟨hiS, _⟩ := ready_spec hr
    have hlt : i0 < ops.size := (Array.getElem?_eq_some_iff.1 ho).1
    have hall := all_listed hac hA'.size hnil i0 hlt
    exact hiS (hA'.listedS i0 hall)
  · have hji := honly j listed' (.inr hA'.listedS) hj hjS
    obtain ⟨o, K, hr, ho, hf, hc, hcore, k⟩ := h j hji
    obtain ⟨hiS, o', ho', hdeps⟩ := ready_spec hr
    rw [ho] at ho'; cases ho'
    have hoN : inN N o.dst = true := hNo' o (by simpa using Array.mem_of_getElem? ho)
    have hlt : j < ops.size := (Array.getElem?_eq_some_iff.1 ho).1
    have hsubD : ∀ j ∈ later D o, j ∈ D := fun j hj => (List.mem_filter.1 hj).1
    obtain ⟨hjl, oj, hoj, hdj⟩ := mem_ready.1 hj
    rw [ho] at hoj; cases hoj
    have hsee : ∀ t, t ∈ o.looksAt ops → seen ops D listed' ρ0 ρ t = ρ t := by
      intro t ht
      unfold seen
      rw [if_neg]
      rintro ⟨q, hqD, hql, hqd⟩
      obtain ⟨e, he, hb, hon⟩ := covers_spec hc q hqD t hqd ht
      have h1 := hdj e he hb
      rw [hon] at h1
      have hq : q < listed'.size := by
        apply Classical.byContradiction
        intro hn
        rw [Array.getD_eq_getD_getElem?, Array.getElem?_eq_none (Nat.not_lt.1 hn)] at h1
        cases h1
      rw [← getD_tf hq, hql] at h1
      cases h1
    refine hcore _ hsee G' w' a' R _ hA'.rel (fun av σ' G2 w2 v hq hE2 hS2 hv => ?_)
    obtain ⟨hfk, hrun⟩ := k av σ' hq
    have hlat : ∀ q ∈ D, q ∉ later D o → listed'.getD q false = true := by
      intro q hqD hql
      have : (o.after.any fun e => Region.binds .any e && e.on == q) = true := by
        cases h : (o.after.any fun e => Region.binds .any e && e.on == q) with
        | true => rfl
        | false => exact (hql (List.mem_filter.2 ⟨hqD, by simp [h]⟩)).elim
      obtain ⟨e, he, hb⟩ := Array.any_eq_true'.1 this
      simp only [Bool.and_eq_true, beq_iff_eq] at hb
      have := hdj e he hb.1
      rw [hb.2] at this; exact this
    have hset : ∀ q, q ≠ j → (listed'.setIfInBounds j true).getD q true = listed'.getD q true := fun q hq => getD_set_ne true (Ne.symm hq)
    have hsetF : ∀ q, q ≠ j → (listed'.setIfInBounds j true).getD q false = listed'.getD q false := fun q hq => getD_set_ne false (Ne.symm hq)
    have hsetj : (listed'.setIfInBounds j true).getD j false = true := by simp [Array.getD_eq_getD_getElem?, hA'.size, hlt]
    have hjD : ∀ q ∈ D, q ≠ j := fun q hq e => by subst e; exact hiS (hD.sub q hq)
    have hfresh : ∀ x, o.dst = some x → ∀ q ∈ later D o, dstOf ops q ≠ some x ∧ ∀ oq, ops[q]? = some oq → x ∉ oq.looksAt ops := by
      intro x hx
      rw [hx] at hf
      exact fresh_spec hf
    have hdj0 : dstOf ops j = o.dst := by simp [dstOf, ho]
    refine hrun ⟨?_, ?_, ?_, ?_, ?_⟩ fuel' (listed'.setIfInBounds j true) G2 w2 (a'.put o.dst v) R ⟨by simpa using hA'.size, ?_, ?_, ?_, ?_⟩ (fun ρ' σ2 G3 a3 w3 hq3 hE3 hR3 => hK ρ' σ2 G3 a3 w3 hq3 (hE.trans (hE2.trans hE3)) hR3)
    · intro q hq
      exact List.mem_cons_of_mem _ (hD.sub q (hsubD q hq))
    · intro q hq
      have h1 := hfk q hq (hD.fact q (hsubD q hq))
      cases hx : o.dst with
      | none => exact h1
      | some x => exact h1.put (hfresh x hx q hq).1 (hfresh x hx q hq).2
    · intro t ht
      have h1 : o.dst ≠ some t := by rw [← hdj0]; exact ht j (by simp)
      have h2 : putA ρ o.dst av t = ρ t := by
        cases hx : o.dst with
        | none => rfl
        | some x =>
          have : t ≠ x := fun e => by subst e; exact h1 hx
          simp [this]
      rw [h2]
      exact hD.old t (fun q hq => ht q (by simp [hq]))
    · intro q hq oq hoq m hm y hy hl
      exact hD.cover q (hsubD q hq) oq hoq m (hsubD m hm) y hy hl
    · intro q hq m hm y h1 h2
      exact hD.uniq q (hsubD q hq) m (hsubD m hm) y h1 h2
    · intro q hq
      by_cases hqj : q = j
      · subst hqj; simp
      · rw [hsetF q hqj] at hq
        exact List.mem_cons_of_mem _ (hA'.listedS q hq)
    · intro q hq hn
      by_cases hqj : q = j
      · subst hqj; exact hsetj
      · rw [hsetF q hqj]
        rcases List.mem_cons.1 hq with rfl | hq
        · exact (hqj rfl).elim
        · by_cases hqD : q ∈ D
          · exact hlat q hqD hn
          · exact hA'.keep q hq hqD
    · have := unlisted_set hlt hA'.size hjl
      have := hA'.fuel
      omega
    · have hseen : seen ops (later D o) (listed'.setIfInBounds j true) ρ0 (putA ρ o.dst av) = putA (seen ops D listed' ρ0 ρ) o.dst av := by
        funext t
        have hW : Waits ops (later D o) (listed'.setIfInBounds j true) t ↔ Waits ops D listed' t := by
          constructor
          · rintro ⟨q, hq, hl, hd⟩; exact ⟨q, hsubD q hq, by rw [← hset q (hjD q (hsubD q hq))]; exact hl, hd⟩
          · rintro ⟨q, hq, hl, hd⟩
            refine ⟨q, ?_, by rw [hset q (hjD q hq)]; exact hl, hd⟩
            apply Classical.byContradiction
            intro hn
            have h1 := hlat q hq hn
            have hqs : q < listed'.size := by
              apply Classical.byContradiction
              intro hn
              rw [Array.getD_eq_getD_getElem?, Array.getElem?_eq_none (Nat.not_lt.1 hn)] at h1
              cases h1
            rw [← getD_tf hqs, hl] at h1; cases h1
        unfold seen
        cases hx : o.dst with
        | none =>
          by_cases hw : Waits ops D listed' t
          · rw [if_pos (hW.2 hw)]; simp [hw]
          · rw [if_neg (fun h => hw (hW.1 h))]; simp [hw]
        | some x =>
          by_cases ht : t = x
          · subst ht
            have : ¬ Waits ops (later D o) (listed'.setIfInBounds j true) t := by
              rintro ⟨q, hq, _, hd⟩; exact (hfresh t hx q hq).1 hd
            rw [if_neg this]; simp
          · by_cases hw : Waits ops D listed' t
            · rw [if_pos (hW.2 hw)]; simp [ht, hw]
            · rw [if_neg (fun h => hw (hW.1 h))]; simp [ht, hw]
      rw [hseen]
      exact hA'.rel.put hE2 hS2 hoN hv

theorem runD_core {ops : Array Oper} {S D : List Nat} {ρ0 ρ : Nat → AV} {Q : (Nat → AV) → St → Prop} (i : Nat) {o : Oper} {K : AV → St → Prop} (hac : acyclic ops = true) (hNo : (ops.toList.all fun o => inN N o.dst) = true) (hr : ready ops S i = true) (ho : ops[i]? = some o)
    (halone : ((List.range ops.size).all fun j => j == i || !ready ops S j) = true) (hf : (match o.dst with | some x => fresh ops (later D o) x | none => true) = true) (hc : covers ops D o = true)
    (hcore : ∀ (ρr : Nat → AV), (∀ t, t ∈ o.looksAt ops → ρr t = ρ t) → ∀ G w a (R : Exit → Act → World → Prop) (R' : Act → World → Prop), Rel N G w ρr σ a →
      (∀ av σ' G' w' v, K av σ' → Ext G w G' w' → RelS G' w' σ' → AVR G' w' v av → R' (a.put o.dst v) w') → wpOpIn z.F z.n P ops R i R' a w)
    (k : ∀ av σ', K av σ' → (∀ j ∈ later D o, Fact P ops ρ σ j → Fact P ops ρ σ' j) ∧ RunD z P N ops (i :: S) (later D o) ρ0 (putA ρ o.dst av) σ' Q) : RunD z P N ops S D ρ0 ρ σ Q := 
  runD_alts i [] hac hNo (by
    rw [List.all_eq_true] at halone ⊢
    intro j hj
    have := halone j hj
    simpa using this) (fun i' hi' => by
    have e : i' = i := by simpa using hi'
    subst e
    exact ⟨o, K, hr, ho, hf, hc, hcore, k⟩)

theorem runD_two {ops : Array Oper} {S D : List Nat} {ρ0 ρ : Nat → AV} {Q : (Nat → AV) → St → Prop} (i j : Nat) (hac : acyclic ops = true) (hNo : (ops.toList.all fun o => inN N o.dst) = true)
    (halone : ((List.range ops.size).all fun q => [i, j].contains q || !ready ops S q) = true) (hi : Alt z P N ops S D ρ0 ρ σ Q i) (hj : Alt z P N ops S D ρ0 ρ σ Q j) : RunD z P N ops S D ρ0 ρ σ Q :=
  runD_alts i [j] hac hNo halone (fun q hq => by
    simp only [List.mem_cons, List.not_mem_nil, or_false] at hq
    rcases hq with rfl | rfl
    · exact hi
    · exact hj)

theorem runD_op {ops : Array Oper} {S D : List Nat} {ρ0 ρ : Nat → AV} {Q : (Nat → AV) → St → Prop} (i : Nat) {o : Oper} {av : AV} {σ' : St} (hac : acyclic ops = true) (hNo : (ops.toList.all fun o => inN N o.dst) = true) (hr : ready ops S i = true) (ho : ops[i]? = some o)
    (halone : ((List.range ops.size).all fun j => j == i || !ready ops S j) = true) (hf : (match o.dst with | some x => fresh ops (later D o) x | none => true) = true) (hc : covers ops D o = true)
    (hw : wantedA ops o ρ = some true) (hv : opA P ρ σ o.op = some (av, σ')) (hk : ∀ j ∈ later D o, Fact P ops ρ σ j → Fact P ops ρ σ' j)
    (k : RunD z P N ops (i :: S) (later D o) ρ0 (putA ρ o.dst av) σ' Q) : RunD z P N ops S D ρ0 ρ σ Q := by
  refine runD_core i (K := fun a s => a = av ∧ s = σ') hac hNo hr ho halone hf hc (fun ρr hag G w a R R' hR hK => ?_) (fun a s ⟨h1, h2⟩ => by subst h1; subst h2; exact ⟨hk, k⟩)
  have hop' : opA P ρr σ o.op = some (av, σ') := by rw [opA_congr (fun t ht => hag t (looksAt_op ht))]; exact hv
  obtain ⟨nx, v, w', G', hr', hn, hE, hS, hv'⟩ := op_sound (P := P) hR.s hR.env hop'
  unfold wpOpIn
  simp only [ho]
  rw [if_pos (wantedA_sound hR ((wantedA_congr hag).trans hw))]
  refine ⟨fun _ _ => trivial, ?_⟩
  rw [zone_semAt hop', hr']
  have key := hK av σ' G' w' v ⟨rfl, rfl⟩ hE hS hv'
  rcases hn with rfl | ⟨rfl, rfl⟩
  · exact key
  · exact key

theorem later_nil {D : List Nat} {o : Oper} {X : Nat → Prop} (h : (later D o).isEmpty = true) : ∀ j, j ∈ later D o → X j := by
  intro j hj
  rw [List.isEmpty_iff.1 h] at hj
  cases hj

theorem runD_skip {ops : Array Oper} {S D : List Nat} {ρ0 ρ : Nat → AV} {Q : (Nat → AV) → St → Prop} (i : Nat) {o : Oper} (hac : acyclic ops = true) (hNo : (ops.toList.all fun o => inN N o.dst) = true) (hr : ready ops S i = true) (ho : ops[i]? = some o)
    (halone : ((List.range ops.size).all fun j => j == i || !ready ops S j) = true) (hf : (match o.dst with | some x => fresh ops (later D o) x | none => true) = true) (hc : covers ops D o = true)
    (hw : wantedA ops o ρ = some false) (k : RunD z P N ops (i :: S) (later D o) ρ0 (putA ρ o.dst undefA) σ Q) : RunD z P N ops S D ρ0 ρ σ Q := by
  refine runD_core i (K := fun a s => a = undefA ∧ s = σ) hac hNo hr ho halone hf hc (fun ρr hag G w a R R' hR hK => ?_) (fun a s ⟨h1, h2⟩ => by subst h1; subst h2; exact ⟨fun _ _ h => h, k⟩)
  unfold wpOpIn
  simp only [ho]
  rw [if_neg (by rw [wantedA_sound hR ((wantedA_congr hag).trans hw)]; simp)]
  exact ⟨fun _ _ => trivial, hK undefA σ G w undef ⟨rfl, rfl⟩ (.refl _ _) hR.s (.v rfl)⟩

theorem runD_call {ops : Array Oper} {S D : List Nat} {ρ0 ρ : Nat → AV} {Q : (Nat → AV) → St → Prop} (i : Nat) {o : Oper} {f : FuncId} {args : List AV} {Qc : AV → St → Prop} (hac : acyclic ops = true) (hNo : (ops.toList.all fun o => inN N o.dst) = true) (hr : ready ops S i = true) (ho : ops[i]? = some o)
    (halone : ((List.range ops.size).all fun j => j == i || !ready ops S j) = true) (hf : (match o.dst with | some x => fresh ops (later D o) x | none => true) = true) (hc : covers ops D o = true)
    (hw : wantedA ops o ρ = some true) (hv : callOf ρ σ o.op = some (f, args)) (hcb : callable P f = true) (hcall : CallsA P f args σ Qc)
    (k : ∀ av σ', Qc av σ' → (∀ j ∈ later D o, Fact P ops ρ σ j → Fact P ops ρ σ' j) ∧ RunD z P N ops (i :: S) (later D o) ρ0 (putA ρ o.dst av) σ' Q) : RunD z P N ops S D ρ0 ρ σ Q := by
  refine runD_core i (K := Qc) hac hNo hr ho halone hf hc (fun ρr hag G w a R R' hR hK => ?_) k
  have hv' : callOf ρr σ o.op = some (f, args) := by rw [callOf_congr (fun t ht => hag t (looksAt_op ht))]; exact hv
  unfold wpOpIn
  simp only [ho]
  rw [if_pos (wantedA_sound hR ((wantedA_congr hag).trans hw))]
  refine ⟨fun _ _ => trivial, ?_⟩
  unfold callOf at hv'
  split at hv'
  case h_2 => cases hv'
  rename_i c hop
  split at hv'
  case h_2 => cases hv'
  rename_i x hx
  split at hv'
  case h_2 => cases hv'
  rename_i f' caps args' hfx hax
  cases hv'
  have hfv := evalA_sound hR.s hR.env hfx
  obtain ⟨hl, hr2⟩ := forall2_get (evalAll_sound hR.s hR.env hax)
  rw [show Oper.semAt z.F.round a.eval o = execOp a.eval o from Oper.semAt_eq _ _ _ (fun c e => by rw [hop] at e; cases e)]
  cases hev : a.eval x with
  | func fn first caps' =>
    rw [hev] at hfv
    cases hfv with
    | fn hcl hcr =>
    have hrun : (execOp a.eval o).run P w = .ok (.enter f (c.args.map a.eval ++ caps')) w := by
      unfold execOp
      rw [hop]
      simp only [resolve, hx, hev, Deferred.ofValue, Sem.run_bind, Sem.run_pure, Result.andThen_ok, invoke]
      rw [run_callFunc hcb]
      simp
    rw [hrun]
    refine ⟨fun h => (by cases h), zone_call (hcall G w _ _ hR.s (by simpa [hcl] using hl) (fun j y b hj hb => ?_) (fun v av σ' G' w' hq hE hS hv => hK av σ' G' w' v hq hE hS hv))⟩
    by_cases h1 : j < c.args.size
    · rw [Array.getElem?_append_left (by simpa using h1)] at hj
      rw [List.getElem?_append_left (by simp at hl; omega)] at hb
      refine hr2 j y b ?_ hb
      have : (c.args.map a.eval).toList[j]? = some y := by simpa using hj
      simpa using this
    · rw [Array.getElem?_append_right (by simpa using h1)] at hj
      rw [List.getElem?_append_right (by simp at hl; omega)] at hb
      simp only [Array.size_map] at hj
      have e : c.args.size = args'.length := by simpa using hl
      rw [e] at hj
      exact hcr _ y b hj hb
  | _ => rw [hev] at hfv; cases hfv

theorem altD_op {ops : Array Oper} {S D : List Nat} {ρ0 ρ : Nat → AV} {Q : (Nat → AV) → St → Prop} (i : Nat) {o : Oper} {av : AV} {σ' : St} (hr : ready ops S i = true) (ho : ops[i]? = some o)
    (hf : (match o.dst with | some x => fresh ops (later D o) x | none => true) = true) (hc : covers ops D o = true)
    (hw : wantedA ops o ρ = some true) (hv : opA P ρ σ o.op = some (av, σ')) (hk : ∀ j ∈ later D o, Fact P ops ρ σ j → Fact P ops ρ σ' j)
    (k : RunD z P N ops (i :: S) (later D o) ρ0 (putA ρ o.dst av) σ' Q) : Alt z P N ops S D ρ0 ρ σ Q i := by
  refine ⟨o, fun a s => a = av ∧ s = σ', hr, ho, hf, hc, (fun ρr hag G w a R R' hR hK => ?_), (fun a s ⟨h1, h2⟩ => by subst h1; subst h2; exact ⟨hk, k⟩)⟩
  have hop' : opA P ρr σ o.op = some (av, σ') := by rw [opA_congr (fun t ht => hag t (looksAt_op ht))]; exact hv
  obtain ⟨nx, v, w', G', hr', hn, hE, hS, hv'⟩ := op_sound (P := P) hR.s hR.env hop'
  unfold wpOpIn
  simp only [ho]
  rw [if_pos (wantedA_sound hR ((wantedA_congr hag).trans hw))]
  refine ⟨fun _ _ => trivial, ?_⟩
  rw [zone_semAt hop', hr']
  have key := hK av σ' G' w' v ⟨rfl, rfl⟩ hE hS hv'
  rcases hn with rfl | ⟨rfl, rfl⟩
  · exact key
  · exact key

theorem altD_call {ops : Array Oper} {S D : List Nat} {ρ0 ρ : Nat → AV} {Q : (Nat → AV) → St → Prop} (i : Nat) {o : Oper} {f : FuncId} {args : List AV} {Qc : AV → St → Prop} (hr : ready ops S i = true) (ho : ops[i]? = some o)
    (hf : (match o.dst with | some x => fresh ops (later D o) x | none => true) = true) (hc : covers ops D o = true)
    (hw : wantedA ops o ρ = some true) (hv : callOf ρ σ o.op = some (f, args)) (hcb : callable P f = true) (hcall : CallsA P f args σ Qc)
    (k : ∀ av σ', Qc av σ' → (∀ j ∈ later D o, Fact P ops ρ σ j → Fact P ops ρ σ' j) ∧ RunD z P N ops (i :: S) (later D o) ρ0 (putA ρ o.dst av) σ' Q) : Alt z P N ops S D ρ0 ρ σ Q i := by
  refine ⟨o, Qc, hr, ho, hf, hc, (fun ρr hag G w a R R' hR hK => ?_), k⟩
  have hv' : callOf ρr σ o.op = some (f, args) := by rw [callOf_congr (fun t ht => hag t (looksAt_op ht))]; exact hv
  unfold wpOpIn
  simp only [ho]
  rw [if_pos (wantedA_sound hR ((wantedA_congr hag).trans hw))]
  refine ⟨fun _ _ => trivial, ?_⟩
  unfold callOf at hv'
  split at hv'
  case h_2 => cases hv'
  rename_i c hop
  split at hv'
  case h_2 => cases hv'
  rename_i x hx
  split at hv'
  case h_2 => cases hv'
  rename_i f' caps args' hfx hax
  cases hv'
  have hfv := evalA_sound hR.s hR.env hfx
  obtain ⟨hl, hr2⟩ := forall2_get (evalAll_sound hR.s hR.env hax)
  rw [show Oper.semAt z.F.round a.eval o = execOp a.eval o from Oper.semAt_eq _ _ _ (fun c e => by rw [hop] at e; cases e)]
  cases hev : a.eval x with
  | func fn first caps' =>
    rw [hev] at hfv
    cases hfv with
    | fn hcl hcr =>
    have hrun : (execOp a.eval o).run P w = .ok (.enter f (c.args.map a.eval ++ caps')) w := by
      unfold execOp
      rw [hop]
      simp only [resolve, hx, hev, Deferred.ofValue, Sem.run_bind, Sem.run_pure, Result.andThen_ok, invoke]
      rw [run_callFunc hcb]
      simp
    rw [hrun]
    refine ⟨fun h => (by cases h), zone_call (hcall G w _ _ hR.s (by simpa [hcl] using hl) (fun j y b hj hb => ?_) (fun v av σ' G' w' hq hE hS hv => hK av σ' G' w' v hq hE hS hv))⟩
    by_cases h1 : j < c.args.size
    · rw [Array.getElem?_append_left (by simpa using h1)] at hj
      rw [List.getElem?_append_left (by simp at hl; omega)] at hb
      refine hr2 j y b ?_ hb
      have : (c.args.map a.eval).toList[j]? = some y := by simpa using hj
      simpa using this
    · rw [Array.getElem?_append_right (by simpa using h1)] at hj
      rw [List.getElem?_append_right (by simp at hl; omega)] at hb
      simp only [Array.size_map] at hj
      have e : c.args.size = args'.length := by simpa using hl
      rw [e] at hj
      exact hcr _ y b hj hb
  | _ => rw [hev] at hfv; cases hfv

theorem altD_op' {ops : Array Oper} {S D : List Nat} {ρ0 ρ : Nat → AV} {Q : (Nat → AV) → St → Prop} (i : Nat) {o : Oper} (hr : ready ops S i = true) (ho : ops[i]? = some o)
    (hf : (match o.dst with | some x => fresh ops (later D o) x | none => true) = true) (hc : covers ops D o = true) (hw : wantedA ops o ρ = some true)
    (k : match opA P ρ σ o.op with
      | some (av, σ') => (∀ j ∈ later D o, Fact P ops ρ σ j → Fact P ops ρ σ' j) ∧ RunD z P N ops (i :: S) (later D o) ρ0 (putA ρ o.dst av) σ' Q
      | none => False) : Alt z P N ops S D ρ0 ρ σ Q i := by
  split at k
  · rename_i av σ' hv
    exact altD_op i hr ho hf hc hw hv k.1 k.2
  · exact k.elim

def St.more (σ : St) (cs : List AV) : St := { σ with objs := σ.objs ++ [cs] }

theorem evalA_more {ρ : Nat → AV} (cs : List AV) (x : Operand) : evalA ρ (σ.more cs) x = evalA ρ σ x := by cases x <;> rfl
theorem evalAll_more {ρ : Nat → AV} (cs : List AV) : ∀ l : List Operand, evalAll ρ (σ.more cs) l = evalAll ρ σ l
  | [] => rfl
  | x :: l => by simp only [evalAll, evalA_more, evalAll_more cs l]
theorem evalsA_more {ρ : Nat → AV} (cs : List AV) : ∀ l : List (Nat × Operand), evalsA ρ (σ.more cs) l = evalsA ρ σ l
  | [] => rfl
  | (i, x) :: l => by simp only [evalsA, evalA_more, evalsA_more cs l]
theorem evalOpt_more {ρ : Nat → AV} (cs : List AV) (x : Option Operand) : evalOpt ρ (σ.more cs) x = evalOpt ρ σ x := by
  cases x with
  | none => rfl
  | some x => simp only [evalOpt, evalA_more]
theorem loadA_more {t : TypeId} {a av : AV} (cs : List AV) (h : loadA P t a σ = some av) : loadA P t a (σ.more cs) = some av := by
  cases a with
  | ptr id off =>
    simp only [loadA] at h ⊢
    split at h
    · rename_i c hc
      have : (σ.more cs).objs[id]? = some c := by
        show (σ.objs ++ [cs])[id]? = _
        rw [List.getElem?_append_left (List.getElem?_eq_some_iff.1 hc).1]; exact hc
      rw [this]; exact h
    · cases h
  | _ => exact h

theorem sliceRowA_more {t : TypeId} {a : AV} {l h m : Option AV} {v : AV} (cs : List AV) (hs : sliceRowA P t a l h m σ = some (v, σ)) : sliceRowA P t a l h m (σ.more cs) = some (v, σ.more cs) := by
  unfold sliceRowA at hs ⊢
  split at hs
  case h_2 => cases hs
  split at hs
  case h_2 => cases hs
  split at hs
  case h_2 => cases hs
  split at hs
  case isFalse => cases hs
  rename_i hc
  simp only [hc, and_self, if_true] at hs ⊢
  split at hs
  · split at hs
    · rename_i hle
      rw [if_pos hle]
      simp at hs ⊢
      exact hs
    · rename_i hle
      rw [if_neg hle]
      have hr : (σ.more cs).rows = σ.rows := rfl
      rw [hr]
      split at hs
      · split at hs
        · split at hs
          · rename_i hc2
            rw [if_pos hc2]
            simp only [Option.some.injEq, Prod.mk.injEq] at hs ⊢
            refine ⟨hs.1, ?_⟩
            have h2 := congrArg St.rows hs.2
            simp only at h2
            rw [h2]; rfl
          · cases hs
        · cases hs
      · cases hs
  · split at hs
    · rename_i h6
      rw [if_pos h6]
      split at hs
      · split at hs
        · rename_i h7
          rw [if_pos h7]
          split at hs
          · rename_i h8
            rw [if_pos h8]
            simp at hs ⊢; exact hs
          · rename_i h8
            rw [if_neg h8]
            simp at hs ⊢; exact hs
        · cases hs
      · cases hs
    · cases hs

theorem opA_more {ρ : Nat → AV} {op : Op} {v : AV} (cs : List AV) (hp : isE op = false) (h : opA P ρ σ op = some (v, σ)) : opA P ρ (σ.more cs) op = some (v, σ.more cs) := by
  cases op with
  | load t a =>
    simp only [opA, evalA_more] at h ⊢
    split at h
    · rename_i x hx
      cases hl : loadA P t x σ with
      | none => rw [hl] at h; cases h
      | some y =>
        rw [hl] at h
        rw [loadA_more cs hl]
        simp at h ⊢
        exact h
    · cases h
  | call c =>
    cases hc : c.callee with
    | builtin b =>
      simp only [isE, hc] at hp
      simp only [opA, hc, evalAll_more] at h ⊢
      split at h
      · rename_i as9 has
        cases b <;> try (simp at hp; done)
        generalize c.argTypes.toList = ts at h
        unfold builtinA at h ⊢
        split at h
        all_goals first | (simpa using h) | simp_all | (cases h; done)
      · cases h
    | value x => simp [isE, hc] at hp
    | _ => simp [opA, hc] at h
  | store => simp [isE] at hp
  | alloc => simp [isE] at hp
  | box => simp [isE] at hp
  | nilCheck x =>
    simp only [opA, evalA_more] at h ⊢
    split at h <;> simp_all
  | makeFunc fn first caps =>
    cases fn <;> simp only [opA, evalAll_more] at h ⊢ <;> try (cases h; done)
    split at h <;> simp_all
  | extract x i =>
    simp only [opA, evalA_more] at h ⊢
    split at h <;> simp_all
  | slice t x lo hi mx =>
    simp only [opA, evalA_more, evalOpt_more] at h ⊢
    split at h
    · split at h
      · exact sliceRowA_more cs h
      · simpa using h
    · cases h
  | makeSlice => simp [isE] at hp
  | _ =>
    first
      | (simp only [opA] at h; cases h; done)
      | (simp only [opA, evalA_more, evalAll_more, evalsA_more, evalOpt_more] at h ⊢; simpa using h)
      | (simp only [opA, evalA_more, evalAll_more, evalsA_more, evalOpt_more] at h ⊢; split at h <;> simp_all; done)

theorem Fact.more {ops : Array Oper} {ρ : Nat → AV} {i : Nat} (cs : List AV) (hp : (match ops[i]? with | some o => !isE o.op | none => true) = true) (h : Fact P ops ρ σ i) : Fact P ops ρ (σ.more cs) i := by
  obtain ⟨o, x, ho, hx, h⟩ := h
  rw [ho] at hp
  refine ⟨o, x, ho, hx, h.imp (fun ⟨h1, h2⟩ => ⟨h1, opA_more cs (by simpa using hp) h2⟩) id⟩

theorem later_more {ops : Array Oper} {D : List Nat} {o : Oper} {ρ : Nat → AV} (cs : List AV) (hp : ((later D o).all fun i => match ops[i]? with | some o => !isE o.op | none => true) = true) :
    ∀ j, j ∈ later D o → Fact P ops ρ σ j → Fact P ops ρ { σ with objs := σ.objs ++ [cs] } j :=
  fun j hj h => h.more cs (List.all_eq_true.1 hp j hj)

theorem runD_done {ops : Array Oper} {S D : List Nat} {ρ0 ρ : Nat → AV} {Q : (Nat → AV) → St → Prop} (hac : acyclic ops = true) (hNo : (ops.toList.all fun o => inN N o.dst) = true) (hall : ((List.range ops.size).all fun i => S.contains i) = true) (h : Q ρ σ) : RunD z P N ops S D ρ0 ρ σ Q := by
  intro hD fuel listed G w a R hA hK
  have hNo' : ∀ o ∈ ops.toList, inN N o.dst = true := fun o h => List.all_eq_true.1 hNo o h
  refine flush hD hNo' fuel listed G w a hA (fun G' a' w' listed' fuel' hE hA' hnil => ?_) (fun G' a' w' listed' fuel' j hE hA' hj hjS => ?_)
  · have hl := all_listed hac hA'.size hnil
    have hseen : seen ops D listed' ρ0 ρ = ρ := by
      funext t
      unfold seen
      rw [if_neg]
      rintro ⟨q, hq, hql, hqd⟩
      have hlt : q < ops.size := by
        unfold dstOf at hqd
        cases hq : ops[q]? with
        | none => rw [hq] at hqd; cases hqd
        | some _ => exact (Array.getElem?_eq_some_iff.1 hq).1
      have := hl q hlt
      rw [← getD_tf (by rw [hA'.size]; exact hlt), hql] at this
      cases this
    exact hK ρ σ G' a' w' h hE (hseen ▸ hA'.rel)
  · exfalso
    have hlt := ready_lt hj
    have := List.all_eq_true.1 hall j (by simpa using hlt)
    exact hjS (by simpa using this)

theorem runD_pure' {ops : Array Oper} {S D : List Nat} {ρ0 ρ : Nat → AV} {Q : (Nat → AV) → St → Prop} (i : Nat) {o : Oper} {x : Tmp} (hr : ready ops S i = true) (ho : ops[i]? = some o) (hx : o.dst = some x)
    (hS : (S.all fun j => dstOf ops j != some x) = true) (hf : fresh ops D x = true) (hself : (o.looksAt ops).contains x = false) (hc : covers ops D o = true)
    (k : match wantedA ops o ρ with
      | some b => (b = true → match opA P ρ σ o.op with
          | some (v, σ') => σ' = σ ∧ RunD z P N ops (i :: S) (i :: D) ρ0 (putA ρ (some x) v) σ Q
          | none => False) ∧ (b = false → RunD z P N ops (i :: S) (i :: D) ρ0 (putA ρ (some x) undefA) σ Q)
      | none => False) : RunD z P N ops S D ρ0 ρ σ Q := by
  split at k
  · rename_i b hw
    cases b with
    | true =>
      have k := k.1 rfl
      split at k
      · rename_i v σ' hv
        obtain ⟨rfl, k⟩ := k
        exact runD_pure i hr ho hx hS hf hself hc (.inl ⟨hw, hv⟩) k
      · exact k.elim
    | false => exact runD_pure i hr ho hx hS hf hself hc (.inr ⟨hw, rfl⟩) (k.2 rfl)
  · exact k.elim

theorem runD_op' {ops : Array Oper} {S D : List Nat} {ρ0 ρ : Nat → AV} {Q : (Nat → AV) → St → Prop} (i : Nat) {o : Oper} (hac : acyclic ops = true) (hNo : (ops.toList.all fun o => inN N o.dst) = true) (hr : ready ops S i = true) (ho : ops[i]? = some o)
    (halone : ((List.range ops.size).all fun j => j == i || !ready ops S j) = true) (hf : (match o.dst with | some x => fresh ops (later D o) x | none => true) = true) (hc : covers ops D o = true)
    (k : match wantedA ops o ρ with
      | some b => (b = true → match opA P ρ σ o.op with
          | some (v, σ') => (∀ j ∈ later D o, Fact P ops ρ σ j → Fact P ops ρ σ' j) ∧ RunD z P N ops (i :: S) (later D o) ρ0 (putA ρ o.dst v) σ' Q
          | none => False) ∧ (b = false → RunD z P N ops (i :: S) (later D o) ρ0 (putA ρ o.dst undefA) σ Q)
      | none => False) : RunD z P N ops S D ρ0 ρ σ Q := by
  split at k
  · rename_i b hw
    cases b with
    | true =>
      have k := k.1 rfl
      split at k
      · rename_i v σ' hv
        exact runD_op i hac hNo hr ho halone hf hc hw hv k.1 k.2
      · exact k.elim
    | false => exact runD_skip i hac hNo hr ho halone hf hc hw (k.2 rfl)
  · exact k.elim

theorem run_draw {id : Nat} {ops : Array Oper} {ρ : Nat → AV} {Q : Exit → (Nat → AV) → St → Prop} (hm : P.follows .mixedOrders = true) (h : ∀ K : (Nat → AV) → St → Prop, (∀ ρ σ, Q .normal ρ σ → K ρ σ) → RunD z P N ops [] [] ρ ρ σ K) : Run z P N (.region id ops true) ρ σ Q := by
  intro G w a R hR hK
  have hR' : Rel N G w.drew ρ σ a := ⟨hR.s.drew, hR.defers, hR.size, fun i => (hR.env i).mono (ext_drew G w)⟩
  have hseen : ∀ listed, seen ops [] listed ρ ρ = ρ := by
    intro listed
    funext t
    unfold seen
    split <;> rfl
  refine wpIn_region_any hm ?_
  refine h (Q .normal) (fun _ _ h => h) ⟨by simp, by simp, fun _ _ => rfl, by simp, by simp⟩ ops.size (Array.replicate ops.size false) G w.drew a R ⟨by simp, fun i hi => ?_, by simp, ?_, by rw [hseen]; exact hR'⟩
    (fun ρ' σ' G' a' w' hq hE hR2 => hK .normal ρ' σ' G' a' w' hq ((ext_drew G w).trans hE) hR2)
  · by_cases h : i < ops.size
    · simp [Array.getD_eq_getD_getElem?, h] at hi
    · simp [Array.getD_eq_getD_getElem?, h] at hi
  · unfold unlisted
    have := List.countP_le_length (p := fun i => (Array.replicate ops.size false).getD i true == false) (l := List.range ops.size)
    simpa using this

end
end Go.Vm
