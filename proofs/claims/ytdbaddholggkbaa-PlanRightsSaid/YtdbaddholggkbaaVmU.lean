import Derived.Test.YtdbaddholggkbaaVmT
/-
  The rules of a walk, in short forms: what a step owes is paid by itself, out of the facts that the walk keeps under the name F.
-/
namespace Go.Vm
set_option linter.unnecessarySimpa false
set_option linter.unusedSimpArgs false
set_option linter.unusedVariables false
open Go

/-- What an operation answers that looks at a temporary alone. -/
def isTmpOp : Op → Bool
  | .move (.tmp _) | .assign (.tmp _) | .extract (.tmp _) _ => true
  | _ => false

theorem opA_tmp {P : Program} {ρ : Nat → AV} {σ σ' : St} {op : Op} {v : AV} (h : isTmpOp op = true) (hv : opA P ρ σ op = some (v, σ)) : opA P ρ σ' op = some (v, σ') := by
  unfold isTmpOp at h
  split at h
  · simp [opA, evalA] at hv ⊢; exact hv
  · simp [opA, evalA] at hv ⊢; exact hv
  · rename_i x i
    simp only [opA, evalA] at hv ⊢
    cases hx : ρ x <;> simp [hx] at hv ⊢
    exact hv
  · cases h

theorem later_tmp {P : Program} {σ σ' : St} {ops : Array Oper} {D : List Nat} {o : Oper} {ρ : Nat → AV} (hp : ((later D o).all fun i => match ops[i]? with | some o => isTmpOp o.op | none => true) = true) :
    ∀ j, j ∈ later D o → Fact P ops ρ σ j → Fact P ops ρ σ' j := by
  intro j hj ⟨o', x, ho, hx, h⟩
  have hp := List.all_eq_true.1 hp j hj
  rw [ho] at hp
  exact ⟨o', x, ho, hx, h.imp (fun ⟨h1, h2⟩ => ⟨h1, opA_tmp hp h2⟩) id⟩

theorem later_more2 {P : Program} {l r1 r2 : List (List AV)} {cs : List AV} {tk : List Nat} {gl : Nat → Option (List AV)} {rs : List RowSt} {ops : Array Oper} {D : List Nat} {o : Oper} {ρ : Nat → AV} (hp : ((later D o).all fun i => match ops[i]? with | some o => !isE o.op | none => true) = true) (e : r2 = r1 ++ [cs]) :
    ∀ j, j ∈ later D o → Fact P ops ρ ⟨l ++ r1, tk, gl, rs⟩ j → Fact P ops ρ ⟨l ++ r2, tk, gl, rs⟩ j := by
  subst e
  have := later_more (P := P) (σ := ⟨l ++ r1, tk, gl, rs⟩) (ops := ops) (D := D) (o := o) (ρ := ρ) cs hp
  simpa using this

/-- A side condition. -/
theorem st {p : Prop} (h : p := by first | assumption | rfl | (simp [F]; done) | (simp [F]; rfl) | omega | (simp; omega) | (simp [F]; omega)) : p := h
/-- What can't be. -/
theorem nope {p q : Prop} (h : p) (n : ¬ p := by first | (simp [F]; done) | (intro gq; simp [F] at gq; first | done | omega)) : q := absurd h n
/-- A loop's relation, or the end of a call. -/
theorem lp {p : Prop} (h : p := by first | rfl | omega | assumption | ((repeat (first | simp [F] | simp (disch := omega) only [wC, if_pos, if_neg])); first | done | omega) | (simp only [putA_get]; (repeat (first | simp (disch := omega) only [wC, if_pos, if_neg] | simp [F])); done)) : p := h
theorem lpG {p : Prop} (h : p := by first | rfl | omega | assumption | ((repeat (first | simp [F, AV.gcO, gcOL, noObjL, AV.noObj, St.trimO] | simp (disch := omega) only [wC, if_pos, if_neg])); first | done | omega) | (simp only [putA_get]; (repeat (first | simp (disch := omega) only [wC, if_pos, if_neg] | simp [F, AV.gcO, gcOL, noObjL, AV.noObj, St.trimO])); done)) : p := h
theorem rt {p : Prop} (h : p := by first | exact ⟨rfl, rfl⟩ | (simp [F]; done) | (refine ⟨?_, ?_⟩ <;> first | rfl | (simp [F]; done) | (simp [*]; done) | omega)) : p := h

theorem keeps_nil {A B : Nat → AV} : ∀ r, r ∈ ([] : List Nat) → A r = B r := fun _ h => by cases h
theorem keeps_cons {A B : Nat → AV} {i : Nat} {l : List Nat} (h : A i = B i) (t : ∀ r, r ∈ l → A r = B r) : ∀ r, r ∈ i :: l → A r = B r := fun r hr => by
  rcases List.mem_cons.1 hr with rfl | hr
  · exact h
  · exact t r hr
/-- What a loop doesn't write. -/
theorem kp {l : List Nat} {A B : Nat → AV} (h : ∀ r, r ∈ l → A r = B r := by first | exact fun _ _ => rfl | (repeat (first | exact keeps_nil | refine keeps_cons (by first | rfl | (simp [F]; done)) ?_))) : ∀ r, r ∈ l → A r = B r := h
theorem kpG {l : List Nat} {A B : Nat → AV} (h : ∀ r, r ∈ l → A r = B r := by (repeat (first | exact keeps_nil | refine keeps_cons (by first | rfl | (simp [F, AV.gcO, gcOL, noObjL, AV.noObj]; done)) ?_))) : ∀ r, r ∈ l → A r = B r := h
def KeepL (A B : Nat → AV) : List Nat → Prop
  | [] => True
  | i :: l => A i = B i ∧ KeepL A B l
theorem keepL {A B : Nat → AV} : ∀ {l : List Nat}, (∀ r, r ∈ l → A r = B r) → KeepL A B l
  | [], _ => trivial
  | i :: _, h => ⟨h i (List.mem_cons_self ..), keepL fun r hr => h r (List.mem_cons_of_mem _ hr)⟩
theorem kpr_apps {n : Nat} {l m xs : List RowSt} (h : KpR n l m) (hx : ∀ r ∈ xs, noObjL n r.cells = true) : KpR n l (m ++ xs) := fun k r hr => by
  by_cases hk : k < m.length
  · rw [List.getElem?_append_left hk] at hr; exact h k r hr
  · rw [List.getElem?_append_right (by omega)] at hr
    exact .inr (hx r (List.mem_of_getElem? hr))
theorem gk {σ0 σ1 : St} (h1 : σ1.gl = σ0.gl := by rfl)
    (h2 : Kp σ0.objs.length σ0.objs σ1.objs := by repeat (first | exact kp_refl _ | exact Kp.nil _ | refine kp_app (by simp) ?_ ?_ | refine kp_more ?_ | refine kp_setset ?_ (by simp [F, noObjL, AV.noObj]) | refine kp_set ?_ (by simp [F, noObjL, AV.noObj]) | refine Kp.cons (by first | exact .inl rfl | (right; simp [F, noObjL, AV.noObj])) ?_))
    (h3 : KpR σ0.objs.length σ0.rows σ1.rows := by repeat (first | exact kpr_refl _ | refine kpr_set ?_ (by simp [F, noObjL, AV.noObj]) | refine kpr_app ?_ (by simp [F, noObjL, AV.noObj]) | refine kpr_apps ?_ (by simp [F, noObjL, AV.noObj]))) : GoneO σ0 σ1 := gone_kp h1 h2 h3
/-- The end of a call whose own objects are forgotten. -/
theorem gcr {av A : AV} {σ' τ : St} (hA : Wk av A := by first | exact Wk.refl _ | (simp [F]; exact Wk.refl _) | (simp [*]; exact Wk.refl _) | exact Wk.shut _ _ _ _ | exact Wk.nil _ _ _ | (simp [F]; exact Wk.shut _ _ _ _) | (simp [F]; exact Wk.nil _ _ _))
    {l : List (List AV)} {m : List Nat} {r : List RowSt} (h1 : σ'.objs = τ.objs ++ l := by first | rfl | exact (List.append_nil _).symm | (simp [F]; rfl) | (simp [F]; done))
    (h2 : σ'.toks = τ.toks ++ m := by first | rfl | exact (List.append_nil _).symm | (simp; rfl)) (h3 : σ'.rows = τ.rows ++ r := by first | rfl | exact (List.append_nil _).symm | (simp [F]; rfl)) (h4 : σ'.gl = τ.gl := by rfl) :
    Wk av A ∧ ∃ l m r, σ' = { τ with objs := τ.objs ++ l, toks := τ.toks ++ m, rows := τ.rows ++ r } := ⟨hA, l, m, r, st_app h1 h2 h3 h4⟩

section
variable {z : Zone} {P : Program} {N : Nat} {ρ : Nat → AV} {σ : St} {Q : Exit → (Nat → AV) → St → Prop} {ops : Array Oper} {rest : List Oper} {o : Oper} {K : (Nat → AV) → St → Prop}

theorem sq {x y : Code} (h : ∀ K : (Nat → AV) → St → Prop, (∀ ρ σ, Run z P N y ρ σ Q → K ρ σ) → Run z P N x ρ σ (Then K Q)) : Run z P N (.seq x y) ρ σ Q := run_seq_k h
theorem rg {id : Nat} {l : List Oper} (h : ∀ K : (Nat → AV) → St → Prop, (∀ ρ σ, Q .normal ρ σ → K ρ σ) → evalL z P N l.toArray l ρ σ K) (hN : (l.all fun o => inN N o.dst) = true := by rfl) : Run z P N (.region id l.toArray false) ρ σ Q := run_region_k hN h
theorem ct {c : Operand} {x y : Code} (h : Run z P N x ρ σ Q) (hc : evalA ρ σ c = some (.v (.bool true)) := by first | rfl | (simp [F, evalA]; done)) : Run z P N (.cond c x y) ρ σ Q := run_cond_true hc h
theorem cf {c : Operand} {x y : Code} (h : Run z P N y ρ σ Q) (hc : evalA ρ σ c = some (.v (.bool false)) := by first | rfl | (simp [F, evalA]; done)) : Run z P N (.cond c x y) ρ σ Q := run_cond_false hc h
theorem cs {c : Operand} {x y : Code} {t : Bool} (h1 : t = true → Run z P N x ρ σ Q) (h2 : t = false → Run z P N y ρ σ Q) (hc : evalA ρ σ c = some (.v (.bool t)) := by first | rfl | (simp [F, evalA]; done)) : Run z P N (.cond c x y) ρ σ Q := run_cond_split hc h1 h2
theorem gs {l : List Oper} (d : Nat) {b : Bool} (h1 : b = true → RunL z P N ops l ρ σ K) (h2 : b = false → RunL z P N ops l ρ σ K) (h : ρ d = .v (.bool b) := by first | rfl | (simp [F]; done)) : RunL z P N ops l ρ σ K := guard_split h1 h2
theorem gd {S D : List Nat} {ρ0 : Nat → AV} (d : Nat) {b : Bool} (h1 : b = true → RunD z P N ops S D ρ0 ρ σ K) (h2 : b = false → RunD z P N ops S D ρ0 ρ σ K) (h : ρ d = .v (.bool b) := by first | rfl | (simp [F]; done)) : RunD z P N ops S D ρ0 ρ σ K := guard_split h1 h2
theorem go1 (k : match opA P ρ σ o.op with
      | some (av, σ') => evalL z P N ops rest (putA ρ o.dst av) σ' K
      | none => False) (hw : wantedA ops o ρ = some true := by first | rfl | (simp [F, wantedA]; done)) (hN : ((o :: rest).all fun o => inN N o.dst) = true := by rfl) : RunL z P N ops (o :: rest) ρ σ K := runL_go hw hN k
theorem no1 (k : evalL z P N ops rest (putA ρ o.dst undefA) σ K) (hw : wantedA ops o ρ = some false := by first | rfl | (simp [F, wantedA]; done)) (hN : ((o :: rest).all fun o => inN N o.dst) = true := by rfl) : RunL z P N ops (o :: rest) ρ σ K := runL_no hw hN k
theorem ca {f : FuncId} {args : List AV} {Qc : AV → St → Prop} (hw : wantedA ops o ρ = some true := by first | rfl | (simp [F, wantedA]; done))
    (ho : callOf ρ σ o.op = some (f, args) := by first | rfl | (simp [F, callOf]; done)) (c : CallsA P f args σ Qc) (k : ∀ av σ', Qc av σ' → evalL z P N ops rest (putA ρ o.dst av) σ' K) (hN : ((o :: rest).all fun o => inN N o.dst) = true := by rfl) (hcb : callable P f = true := by first | rfl | simp | assumption) : RunL z P N ops (o :: rest) ρ σ K := runL_call' hw rfl hN ho hcb c k
theorem ar {x y : Operand} {t : TypeId} {a b av : AV} {σ' : St} (ho : o.op = .call { callee := .builtin .append, args := #[x, y], argTypes := #[t, t] }) (h : appendRowA P t a b σ = some (av, σ')) (k : evalL z P N ops rest (putA ρ o.dst av) σ' K) (hw : wantedA ops o ρ = some true := by first | rfl | (simp [F, wantedA]; done))
    (hx : evalA ρ σ x = some a := by first | rfl | (simp [F, evalA]; done)) (hy : evalA ρ σ y = some b := by first | rfl | (simp [F, evalA]; done)) (hN : ((o :: rest).all fun o => inN N o.dst) = true := by rfl) : RunL z P N ops (o :: rest) ρ σ K := by
  simp only [List.all_cons, Bool.and_eq_true] at hN
  exact runL_approw hw hN.1 ho hx hy h (runL_eval hN.2 k)
theorem sn {t u e : TypeId} {x : Operand} {sz n : Nat} {cs : List AV} {tl : Tail} (ho : o.op = .binOp .eql t x (.const (.slice none 0 0)) u) (ht : P.underlying t = some (.slice e))
    (k : ∀ b : Bool, (0 < cs.length → b = false) → evalL z P N ops rest (putA ρ o.dst (.v (.bool b))) σ K) (hw : wantedA ops o ρ = some true := by first | rfl | (simp [F, wantedA]; done))
    (hx : evalA ρ σ x = some (.sl sz cs n tl) := by first | rfl | (simp [F, evalA]; done)) (hN : ((o :: rest).all fun o => inN N o.dst) = true := by rfl) : RunL z P N ops (o :: rest) ρ σ K := runL_slnil hw hN ho ht hx k
theorem rg' {id : Nat} {l : List Oper} {G : ((Nat → AV) → St → Prop) → Prop} (e : ∀ K, evalL z P N l.toArray l ρ σ K = G K := by intro K; (conv => lhs; (try simp [F]); (try simp (disch := omega) only [wC, if_pos, if_neg]); (try simp [F]); (try simp (disch := omega) only [wC, if_pos, if_neg]); (try simp [F])); try rfl) (h : ∀ K : (Nat → AV) → St → Prop, (∀ ρ σ, Q .normal ρ σ → K ρ σ) → G K) (hN : (l.all fun o => inN N o.dst) = true := by rfl) : Run z P N (.region id l.toArray false) ρ σ Q := run_region_k hN (fun K hK => Eq.mpr (e K) (h K hK))
theorem go2 {G : Prop} (e : (match opA P ρ σ o.op with
      | some (av, σ') => evalL z P N ops rest (putA ρ o.dst av) σ' K
      | none => False) = G := by (conv => lhs; (try simp [F]); (try simp (disch := omega) only [wC, if_pos, if_neg]); (try simp [F]); (try simp (disch := omega) only [wC, if_pos, if_neg]); (try simp [F])); try rfl) (k : G) (hw : wantedA ops o ρ = some true := by first | rfl | (simp [F, wantedA]; done)) (hN : ((o :: rest).all fun o => inN N o.dst) = true := by rfl) : RunL z P N ops (o :: rest) ρ σ K := runL_go hw hN (Eq.mpr e k)
theorem no2 {G : Prop} (e : evalL z P N ops rest (putA ρ o.dst undefA) σ K = G := by (conv => lhs; (try simp [F]); (try simp (disch := omega) only [wC, if_pos, if_neg]); (try simp [F]); (try simp (disch := omega) only [wC, if_pos, if_neg]); (try simp [F])); try rfl) (k : G) (hw : wantedA ops o ρ = some false := by first | rfl | (simp [F, wantedA]; done)) (hN : ((o :: rest).all fun o => inN N o.dst) = true := by rfl) : RunL z P N ops (o :: rest) ρ σ K := runL_no hw hN (Eq.mpr e k)
theorem rp2 {S D : List Nat} {ρ0 : Nat → AV} (i : Nat) {o : Oper} {x : Tmp} {G : Prop} (ho : ops[i]? = some o := by rfl) (hx : o.dst = some x := by rfl)
    (hb : (ready ops S i && (S.all fun j => dstOf ops j != some x) && fresh ops D x && !(o.looksAt ops).contains x && covers ops D o) = true := by kernel_rfl)
    (e : (match wantedA ops o ρ with
      | some b => (b = true → match opA P ρ σ o.op with
          | some (v, σ') => σ' = σ ∧ RunD z P N ops (i :: S) (i :: D) ρ0 (putA ρ (some x) v) σ K
          | none => False) ∧ (b = false → RunD z P N ops (i :: S) (i :: D) ρ0 (putA ρ (some x) undefA) σ K)
      | none => False) = G := by (conv => lhs; (try simp [F]); (try simp (disch := omega) only [wC, if_pos, if_neg]); (try simp [F]); (try simp (disch := omega) only [wC, if_pos, if_neg]); (try simp [F])); try rfl) (k : G) : RunD z P N ops S D ρ0 ρ σ K := rp i ho hx hb (Eq.mpr e k)
theorem acell {fn : Func} {t : Tmp} {ty : TypeId} {R : AV → St → Prop} {e : Exit} {av : AV} (hr : fn.results = #[.cell t ty] := by rfl) (l : loadA P ty (ρ t) σ = some av := by (conv => lhs; (try simp [F]); (try simp (disch := omega) only [wC, if_pos, if_neg]); (try simp [F]); (try simp (disch := omega) only [wC, if_pos, if_neg]); (try simp [F])); try rfl) (he : e = .normal ∨ e = .ret := by first | exact .inl rfl | exact .inr rfl) (h : R av σ) : Answer P fn R e ρ σ := answer_cell hr he (by rw [l]; exact h)
theorem acell2 {fn : Func} {t u : Tmp} {ty : TypeId} {R : AV → St → Prop} {e : Exit} {av : AV} (hr : fn.results = #[.cell t ty, .tmp u] := by rfl) (l : loadA P ty (ρ t) σ = some av := by (conv => lhs; (try simp [F]); (try simp (disch := omega) only [wC, if_pos, if_neg]); (try simp [F]); (try simp (disch := omega) only [wC, if_pos, if_neg]); (try simp [F])); try rfl) (he : e = .normal ∨ e = .ret := by first | exact .inl rfl | exact .inr rfl) (h : R (.tup [av, ρ u]) σ) : Answer P fn R e ρ σ := answer_cell_tmp hr he (by rw [l]; exact h)
theorem acell22 {fn : Func} {t u : Tmp} {ty uy : TypeId} {R : AV → St → Prop} {e : Exit} {av bv : AV} (hr : fn.results = #[.cell t ty, .cell u uy] := by rfl) (l : loadA P ty (ρ t) σ = some av := by (conv => lhs; (try simp [F]); (try simp (disch := omega) only [wC, if_pos, if_neg]); (try simp [F]); (try simp (disch := omega) only [wC, if_pos, if_neg]); (try simp [F])); try rfl) (l2 : loadA P uy (ρ u) σ = some bv := by (conv => lhs; (try simp [F]); (try simp (disch := omega) only [wC, if_pos, if_neg]); (try simp [F]); (try simp (disch := omega) only [wC, if_pos, if_neg]); (try simp [F])); try rfl) (he : e = .normal ∨ e = .ret := by first | exact .inl rfl | exact .inr rfl) (h : R (.tup [av, bv]) σ) : Answer P fn R e ρ σ :=
  ⟨he, .tup [av, bv], by simp [answerA, hr, resultsA, resultA, l, l2], h⟩
/-- A drawn region's call. -/
theorem dc {S D : List Nat} {ρ0 : Nat → AV} (i : Nat) {o : Oper} {f : FuncId} {args : List AV} {Qc : AV → St → Prop} (ho : ops[i]? = some o)
    (hw : wantedA ops o ρ = some true := by first | rfl | (simp [F]; done)) (hv : callOf ρ σ o.op = some (f, args) := by first | rfl | (simp [F]; done)) (c : CallsA P f args σ Qc)
    (k : ∀ av σ', Qc av σ' → (∀ j ∈ later D o, Fact P ops ρ σ j → Fact P ops ρ σ' j) ∧ RunD z P N ops (i :: S) (later D o) ρ0 (putA ρ o.dst av) σ' K)
    (hb : (acyclic ops && (ops.toList.all fun o => inN N o.dst) && ready ops S i && ((List.range ops.size).all fun j => j == i || !ready ops S j) && (match o.dst with | some x => fresh ops (later D o) x | none => true) && covers ops D o) = true := by kernel_rfl) (hcb : callable P f = true := by first | rfl | simp) : RunD z P N ops S D ρ0 ρ σ K := by
  simp only [Bool.and_eq_true] at hb
  obtain ⟨⟨⟨⟨⟨h1, h2⟩, h3⟩, h4⟩, h5⟩, h6⟩ := hb
  exact runD_call i h1 h2 h3 ho h4 h5 h6 hw hv hcb c k
theorem dop {S D : List Nat} {ρ0 : Nat → AV} (i : Nat) {o : Oper} (ho : ops[i]? = some o)
    (k : match wantedA ops o ρ with
      | some b => (b = true → match opA P ρ σ o.op with
          | some (v, σ') => (∀ j ∈ later D o, Fact P ops ρ σ j → Fact P ops ρ σ' j) ∧ RunD z P N ops (i :: S) (later D o) ρ0 (putA ρ o.dst v) σ' K
          | none => False) ∧ (b = false → RunD z P N ops (i :: S) (later D o) ρ0 (putA ρ o.dst undefA) σ K)
      | none => False)
    (hb : (acyclic ops && (ops.toList.all fun o => inN N o.dst) && ready ops S i && ((List.range ops.size).all fun j => j == i || !ready ops S j) && (match o.dst with | some x => fresh ops (later D o) x | none => true) && covers ops D o) = true := by kernel_rfl) : RunD z P N ops S D ρ0 ρ σ K := by
  simp only [Bool.and_eq_true] at hb
  obtain ⟨⟨⟨⟨⟨h1, h2⟩, h3⟩, h4⟩, h5⟩, h6⟩ := hb
  exact runD_op' i h1 h2 h3 ho h4 h5 h6 k
theorem d2 {S D : List Nat} {ρ0 : Nat → AV} (i j : Nat) (hi : Alt z P N ops S D ρ0 ρ σ K i) (hj : Alt z P N ops S D ρ0 ρ σ K j)
    (hb : (acyclic ops && (ops.toList.all fun o => inN N o.dst) && ((List.range ops.size).all fun q => [i, j].contains q || !ready ops S q)) = true := by kernel_rfl) : RunD z P N ops S D ρ0 ρ σ K := by
  simp only [Bool.and_eq_true] at hb
  obtain ⟨⟨h1, h2⟩, h3⟩ := hb
  exact runD_two i j h1 h2 h3 hi hj
theorem d3 {S D : List Nat} {ρ0 : Nat → AV} (i j q : Nat) (hi : Alt z P N ops S D ρ0 ρ σ K i) (hj : Alt z P N ops S D ρ0 ρ σ K j) (hq : Alt z P N ops S D ρ0 ρ σ K q)
    (hb : (acyclic ops && (ops.toList.all fun o => inN N o.dst) && ((List.range ops.size).all fun r => [i, j, q].contains r || !ready ops S r)) = true := by kernel_rfl) : RunD z P N ops S D ρ0 ρ σ K := by
  simp only [Bool.and_eq_true] at hb
  obtain ⟨⟨h1, h2⟩, h3⟩ := hb
  exact runD_alts i [j, q] h1 h2 h3 (fun r hr => by
    simp only [List.mem_cons, List.not_mem_nil, or_false] at hr
    rcases hr with rfl | rfl | rfl
    · exact hi
    · exact hj
    · exact hq)
/-- A cut: what holds behind a piece, however it was come to. -/
theorem sqc {x y : Code} {X : Type} (l : List Nat) (I : X → (Nat → AV) → St → Prop) (hy : ∀ k ρ1 σ1, (∀ r, r ∈ l → ρ1 r = ρ r) → I k ρ1 σ1 → Run z P N y ρ1 σ1 Q)
    (hx : ∀ K' : (Nat → AV) → St → Prop, (∀ k ρ1 σ1, (∀ r, r ∈ l → ρ1 r = ρ r) ∧ I k ρ1 σ1 → K' ρ1 σ1) → Run z P N x ρ σ (Then K' Q)) : Run z P N (.seq x y) ρ σ Q :=
  run_seq (run_mono (hx (fun ρ1 σ1 => Run z P N y ρ1 σ1 Q) (fun k ρ1 σ1 h => hy k ρ1 σ1 h.1 h.2)) (fun e ρ' σ' hq => by cases e <;> exact hq))
theorem ac {S D : List Nat} {ρ0 : Nat → AV} (i : Nat) {o : Oper} {f : FuncId} {args : List AV} {Qc : AV → St → Prop} (ho : ops[i]? = some o)
    (hw : wantedA ops o ρ = some true := by first | rfl | (simp [F]; done)) (hv : callOf ρ σ o.op = some (f, args) := by first | rfl | (simp [F]; done)) (c : CallsA P f args σ Qc)
    (k : ∀ av σ', Qc av σ' → (∀ j ∈ later D o, Fact P ops ρ σ j → Fact P ops ρ σ' j) ∧ RunD z P N ops (i :: S) (later D o) ρ0 (putA ρ o.dst av) σ' K)
    (hb : (ready ops S i && (match o.dst with | some x => fresh ops (later D o) x | none => true) && covers ops D o) = true := by kernel_rfl) (hcb : callable P f = true := by first | rfl | simp) : Alt z P N ops S D ρ0 ρ σ K i := by
  simp only [Bool.and_eq_true] at hb
  obtain ⟨⟨h1, h2⟩, h3⟩ := hb
  exact altD_call i h1 ho h2 h3 hw hv hcb c k
theorem ao {S D : List Nat} {ρ0 : Nat → AV} (i : Nat) {o : Oper} (ho : ops[i]? = some o)
    (k : match opA P ρ σ o.op with
      | some (av, σ') => (∀ j ∈ later D o, Fact P ops ρ σ j → Fact P ops ρ σ' j) ∧ RunD z P N ops (i :: S) (later D o) ρ0 (putA ρ o.dst av) σ' K
      | none => False)
    (hb : (ready ops S i && (match o.dst with | some x => fresh ops (later D o) x | none => true) && covers ops D o) = true := by kernel_rfl)
    (hw : wantedA ops o ρ = some true := by first | rfl | (simp [F]; done)) : Alt z P N ops S D ρ0 ρ σ K i := by
  simp only [Bool.and_eq_true] at hb
  obtain ⟨⟨h1, h2⟩, h3⟩ := hb
  exact altD_op' i h1 ho h2 h3 hw k
theorem dd {S D : List Nat} {ρ0 : Nat → AV} (h : K ρ σ) (hb : (acyclic ops && (ops.toList.all fun o => inN N o.dst) && ((List.range ops.size).all fun i => S.contains i)) = true := by kernel_rfl) : RunD z P N ops S D ρ0 ρ σ K := by
  simp only [Bool.and_eq_true] at hb
  obtain ⟨⟨h1, h2⟩, h3⟩ := hb
  exact runD_done h1 h2 h3 h
theorem ln {D : List Nat} {o : Oper} {X : Nat → Prop} (h : (later D o).isEmpty = true := by kernel_rfl) : ∀ j, j ∈ later D o → X j := later_nil h
end

end Go.Vm
