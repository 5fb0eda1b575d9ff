import Derived.Test.YtdbaddholggkbaaVmE
import Derived.ChangeKeysEq
import Derived.Laws.StructEq
/-
  Values that are compared cell by cell.
-/
namespace Go.Vm
set_option linter.unnecessarySimpa false
set_option linter.unusedSimpArgs false
set_option linter.unusedVariables false
open Go
variable {P : Program}

/-- What such cells are. -/
def FitV : List (Option IntKind) → List Value → Prop
  | [], [] => True
  | none :: ks, .bool _ :: cs => FitV ks cs
  | some k :: ks, .int k' _ :: cs => k = k' ∧ FitV ks cs
  | _, _ => False

theorem FitV.length : ∀ {ks : List (Option IntKind)} {xs : List Value}, FitV ks xs → xs.length = ks.length
  | [], [], _ => rfl
  | none :: ks, .bool _ :: cs, h => by simp [FitV.length (ks := ks) (xs := cs) h]
  | some k :: ks, .int k' _ :: cs, h => by simp [FitV.length (ks := ks) (xs := cs) h.2]
  | [], _ :: _, h => h.elim
  | none :: _, [], h => h.elim
  | some _ :: _, [], h => h.elim

theorem FitV.append : ∀ {ks ls : List (Option IntKind)} {xs : List Value}, FitV (ks ++ ls) xs → FitV ks (xs.take ks.length) ∧ FitV ls (xs.drop ks.length)
  | [], ls, xs, h => by simp [FitV]; exact h
  | none :: ks, ls, .bool b :: xs, h => by
    have := FitV.append (ks := ks) (ls := ls) (xs := xs) h
    exact ⟨this.1, by simpa using this.2⟩
  | some k :: ks, ls, .int k' n :: xs, h => by
    have := FitV.append (ks := ks) (ls := ls) (xs := xs) h.2
    exact ⟨⟨h.1, this.1⟩, by simpa using this.2⟩
  | none :: _, _, [], h => h.elim
  | some _ :: _, _, [], h => h.elim
  | none :: _, _, .int _ _ :: _, h => h.elim
  | none :: _, _, .agg _ :: _, h => h.elim
  | some _ :: _, _, .bool _ :: _, h => h.elim
  | some _ :: _, _, .agg _ :: _, h => h.elim

def eqV : List Value → List Value → Bool
  | [], [] => true
  | .bool a :: l, .bool b :: m => (a == b) && eqV l m
  | .int _ a :: l, .int _ b :: m => (a == b) && eqV l m
  | _, _ => false

theorem eqV_append : ∀ {ks ls : List (Option IntKind)} {xs ys : List Value}, FitV (ks ++ ls) xs → FitV (ks ++ ls) ys → eqV xs ys = (eqV (xs.take ks.length) (ys.take ks.length) && eqV (xs.drop ks.length) (ys.drop ks.length))
  | [], ls, xs, ys, _, _ => by simp [eqV]
  | none :: ks, ls, .bool b :: xs, .bool c :: ys, h, k => by
    have := eqV_append (ks := ks) (ls := ls) (xs := xs) (ys := ys) h k
    simp [eqV, this, Bool.and_assoc]
  | some q :: ks, ls, .int k1 n :: xs, .int k2 m :: ys, h, k => by
    have := eqV_append (ks := ks) (ls := ls) (xs := xs) (ys := ys) h.2 k.2
    simp [eqV, this, Bool.and_assoc]
  | none :: _, _, [], _, h, _ => h.elim
  | some _ :: _, _, [], _, h, _ => h.elim
  | none :: _, _, .bool _ :: _, [], _, h => h.elim
  | some _ :: _, _, .int _ _ :: _, [], _, h => h.elim
  | none :: _, _, .bool _ :: _, .int _ _ :: _, _, h => h.elim
  | some _ :: _, _, .int _ _ :: _, .bool _ :: _, _, h => h.elim
  | none :: _, _, .int _ _ :: _, _, h, _ => h.elim
  | some _ :: _, _, .bool _ :: _, _, h, _ => h.elim

/-- A value of a type that is compared cell by cell. -/
def IsVal (P : Program) (t : TypeId) (x : Value) (xs : List Value) : Prop :=
  match P.underlying t with
  | some (.array _ _) | some (.struct _) => x = .agg xs.toArray
  | _ => xs = [x]

theorem run_isAgg' {t : TypeId} {d : TypeDesc} (w : World) (h : P.underlying t = some d) : (isAgg t).run P w = .ok (descAgg d) w := run_isAgg w h

theorem flat_agg {d : Nat} {t : TypeId} {ks : List (Option IntKind)} (h : flatK P d t = some ks) : ∃ u, P.underlying t = some u ∧ (u = .bool ∧ ks = [none] ∨ (∃ k, u = .int k ∧ ks = [some k]) ∨ (∃ n e, u = .array n e) ∨ ∃ fs, u = .struct fs) := by
  cases d with
  | zero => simp [flatK] at h
  | succ d =>
    unfold flatK at h
    split at h
    · rename_i hu; cases h; exact ⟨_, hu, .inl ⟨rfl, rfl⟩⟩
    · rename_i k hu; cases h; exact ⟨_, hu, .inr (.inl ⟨k, rfl, rfl⟩)⟩
    · rename_i n e hu; exact ⟨_, hu, .inr (.inr (.inl ⟨n, e, rfl⟩))⟩
    · rename_i fs hu; exact ⟨_, hu, .inr (.inr (.inr ⟨fs, rfl⟩))⟩
    · cases h

/-- A part of such cells. -/
theorem run_part_flat {d : Nat} {t : TypeId} {ks : List (Option IntKind)} (w : World) (h : flatK P d t = some ks) {i : TypeInfo} (hi : P.info? t = some i) (hsz : i.size = ks.length) {xs : Array Value} {off : Nat} (hf : FitV ks ((xs.toList.drop off).take ks.length)) :
    ∃ a, (part t xs off).run P w = .ok a w ∧ IsVal P t a ((xs.toList.drop off).take ks.length) := by
  obtain ⟨u, hu, hc⟩ := flat_agg h
  have hl := hf.length
  have agg : ∀ u', u = u' → descAgg u' = true → (part t xs off).run P w = .ok (.agg ((xs.toList.drop off).take ks.length).toArray) w := by
    intro u' e ha
    subst e
    unfold part
    simp only [Sem.run_bind, run_isAgg w hu, Result.andThen_ok, ha, if_true, run_sizeOf w hi, Sem.run_pure]
    congr 2
    apply Array.ext'
    rw [hsz, ← hl]
    simp [Array.toList_extract, List.extract_eq_take_drop]
  have one : ∀ u', u = u' → descAgg u' = false → ks.length = 1 → ∃ a, (part t xs off).run P w = .ok a w ∧ (xs.toList.drop off).take ks.length = [a] := by
    intro u' e ha h1
    subst e
    rw [h1] at hl ⊢
    obtain ⟨a, ha1⟩ := List.length_eq_one_iff.1 hl
    refine ⟨a, ?_, ha1⟩
    have hx : xs[off]? = some a := by
      have : ((xs.toList.drop off).take 1)[0]? = some a := by rw [ha1]; rfl
      rw [List.getElem?_take, if_pos (by omega), List.getElem?_drop] at this
      simpa using this
    unfold part
    simp only [Sem.run_bind, run_isAgg w hu, Result.andThen_ok, ha, Bool.false_eq_true, if_false, hx, Sem.run_pure]
  rcases hc with ⟨rfl, rfl⟩ | ⟨k, rfl, rfl⟩ | ⟨n, e, rfl⟩ | ⟨fs, rfl⟩
  · obtain ⟨a, h1, h2⟩ := one _ rfl rfl rfl
    exact ⟨a, h1, by unfold IsVal; rw [hu]; exact h2⟩
  · obtain ⟨a, h1, h2⟩ := one _ rfl rfl rfl
    exact ⟨a, h1, by unfold IsVal; rw [hu]; exact h2⟩
  · exact ⟨_, agg _ rfl rfl, by unfold IsVal; rw [hu]⟩
  · exact ⟨_, agg _ rfl rfl, by unfold IsVal; rw [hu]⟩

def EqT (P : Program) (dd : Nat) (t : TypeId) (ks : List (Option IntKind)) : Prop :=
  ∀ (w : World) (x y : Value) (xs ys : List Value), IsVal P t x xs → IsVal P t y ys → FitV ks xs → FitV ks ys → (Op.equalIn dd t x y).run P w = .ok (eqV xs ys) w

theorem flat_items {d dd : Nat} {e : TypeId} {l : List (Option IntKind)} {i : TypeInfo} (he : flatK P d e = some l) (hi : P.info? e = some i) (hsz : i.size = l.length) (IH : EqT P dd e l) (xs ys : Array Value) (w : World) : ∀ (n j : Nat), FitV (List.replicate n l).flatten (xs.toList.drop (j * l.length)) → FitV (List.replicate n l).flatten (ys.toList.drop (j * l.length)) →
    (Op.eqItems dd e (P.cellsOf e) xs ys (List.range' j n)).run P w = .ok (eqV (xs.toList.drop (j * l.length)) (ys.toList.drop (j * l.length))) w
  | 0, j, hx, hy => by
    have h1 := hx.length; have h2 := hy.length
    simp only [List.replicate_zero, List.flatten_nil, List.length_nil] at h1 h2
    rw [List.eq_nil_of_length_eq_zero h1, List.eq_nil_of_length_eq_zero h2]
    simp [Op.eqItems, eqV]
  | n + 1, j, hx, hy => by
    have hc : P.cellsOf e = l.length := by simp [Program.cellsOf, hi, hsz]
    simp only [List.replicate_succ, List.flatten_cons] at hx hy
    obtain ⟨x1, x2⟩ := hx.append
    obtain ⟨y1, y2⟩ := hy.append
    have hj : j * l.length + l.length = (j + 1) * l.length := by rw [Nat.add_mul, Nat.one_mul]
    rw [List.drop_drop, hj] at x2 y2
    obtain ⟨a, ha, ha2⟩ := run_part_flat w he hi hsz x1
    obtain ⟨b, hb, hb2⟩ := run_part_flat w he hi hsz y1
    have hr := IH w a b _ _ ha2 hb2 x1 y1
    have ih := flat_items he hi hsz IH xs ys w n (j + 1) x2 y2
    rw [List.range'_succ]
    simp only [Op.eqItems, Sem.run_bind, hc, ha, hb, hr, Result.andThen_ok]
    rw [eqV_append (ks := l) hx hy, List.drop_drop, List.drop_drop, hj]
    rw [hc] at ih
    cases h : eqV (List.take l.length (List.drop (j * l.length) xs.toList)) (List.take l.length (List.drop (j * l.length) ys.toList)) with
    | false => simp
    | true => simpa using ih

theorem flat_fields {d dd : Nat} (xs ys : Array Value) (w : World) (IH : ∀ t ks, flatK P d t = some ks → EqT P dd t ks) : ∀ (fs : List Field) (off : Nat) (ks : List (Option IntKind)), flatFs (flatK P d) P fs off = some ks → FitV ks (xs.toList.drop off) → FitV ks (ys.toList.drop off) →
    (Op.eqFields dd xs ys fs).run P w = .ok (eqV (xs.toList.drop off) (ys.toList.drop off)) w
  | [], off, ks, h, hx, hy => by
    simp [flatFs] at h
    subst h
    have h1 := hx.length; have h2 := hy.length
    simp only [List.length_nil] at h1 h2
    rw [List.eq_nil_of_length_eq_zero h1, List.eq_nil_of_length_eq_zero h2]
    simp [Op.eqFields, eqV]
  | f :: fs, off, ks, h, hx, hy => by
    unfold flatFs at h
    split at h
    case isFalse => cases h
    rename_i hc
    obtain ⟨hn, rfl⟩ := hc
    split at h
    case h_2 => cases h
    rename_i l i he hi
    split at h
    case isFalse => cases h
    rename_i hsz
    cases hr : flatFs (flatK P d) P fs (f.offset + l.length) with
    | none => rw [hr] at h; cases h
    | some ks' =>
      rw [hr] at h
      simp at h
      subst h
      obtain ⟨x1, x2⟩ := hx.append
      obtain ⟨y1, y2⟩ := hy.append
      rw [List.drop_drop] at x2 y2
      obtain ⟨a, ha, ha2⟩ := run_part_flat w he hi hsz x1
      obtain ⟨b, hb, hb2⟩ := run_part_flat w he hi hsz y1
      have hr2 := IH f.type l he w a b _ _ ha2 hb2 x1 y1
      have ih := flat_fields xs ys w IH fs (f.offset + l.length) ks' hr x2 y2
      simp only [Op.eqFields, hn, ne_eq, not_false_eq_true, if_true, Sem.run_bind, ha, hb, hr2, Result.andThen_ok]
      rw [eqV_append (ks := l) hx hy, List.drop_drop, List.drop_drop]
      cases h : eqV (List.take l.length (List.drop f.offset xs.toList)) (List.take l.length (List.drop f.offset ys.toList)) with
      | false => simp
      | true => simpa using ih

theorem flat_eq (m : Nat) : ∀ (d : Nat) (t : TypeId) (ks : List (Option IntKind)), flatK P d t = some ks → EqT P (d + m) t ks
  | 0, t, ks, h => by simp [flatK] at h
  | d + 1, t, ks, h => by
    intro w x y xs ys hx hy fx fy
    have h' := h
    unfold flatK at h
    rw [show d + 1 + m = (d + m) + 1 by omega]
    split at h
    · rename_i hu
      cases h
      unfold IsVal at hx hy
      rw [hu] at hx hy
      simp only at hx hy
      subst hx hy
      cases x <;> simp [FitV] at fx
      cases y <;> simp [FitV] at fy
      rename_i a b
      rw [run_equalIn_bool' w (d + m) t a b hu]
      simp [eqV]
    · rename_i k hu
      cases h
      unfold IsVal at hx hy
      rw [hu] at hx hy
      simp only at hx hy
      subst hx hy
      cases x <;> simp [FitV] at fx
      cases y <;> simp [FitV] at fy
      rename_i k1 a k2 b
      subst fx fy
      rw [run_equalIn_int w (d + m) t k _ a b hu]
      simp [eqV]
    · rename_i n e hu
      split at h
      case h_2 => cases h
      rename_i l i he hi
      split at h
      case isFalse => cases h
      rename_i hsz
      cases h
      unfold IsVal at hx hy
      rw [hu] at hx hy
      simp only at hx hy
      subst hx hy
      rw [run_equalIn_array w (d + m) _ _ hu hi, List.range_eq_range']
      have := flat_items he hi hsz (flat_eq m d e l he) xs.toArray ys.toArray w n 0 (by simpa using fx) (by simpa using fy)
      simpa using this
    · rename_i fs hu
      split at h
      · cases h
      rename_i hst
      unfold IsVal at hx hy
      rw [hu] at hx hy
      simp only at hx hy
      subst hx hy
      have hfs : P.fieldsOf t = fs := by simp [Program.fieldsOf, hu]
      rw [run_equalIn_struct w (d + m) t _ _ (by rw [hfs]; exact hu) (by simpa using hst), hfs]
      have := flat_fields (d := d) (dd := d + m) xs.toArray ys.toArray w (fun t ks h => flat_eq m d t ks h) fs.toList 0 ks h (by simpa using fx) (by simpa using fy)
      simpa using this
    · cases h

theorem fits_cells {G : Gh} {w : World} : ∀ {ks : List (Option IntKind)} {cs : List AV} {xs : List Value}, fitsK ks cs = true → xs.length = cs.length → (∀ (j : Nat) x a, xs[j]? = some x → cs[j]? = some a → AVR G w x a) → FitV ks xs ∧ xs.map AV.v = cs
  | [], [], [], _, _, _ => by simp [FitV]
  | none :: ks, .v (.bool b) :: cs, x :: xs, h, hl, hr => by
    have h0 := (hr 0 x _ rfl rfl).v_eq
    subst h0
    obtain ⟨h1, h2⟩ := fits_cells (ks := ks) (cs := cs) (xs := xs) h (by simpa using hl) (fun j x a hx ha => hr (j + 1) x a (by simpa using hx) (by simpa using ha))
    exact ⟨h1, by simp [h2]⟩
  | some k :: ks, .v (.int k' n) :: cs, x :: xs, h, hl, hr => by
    have h0 := (hr 0 x _ rfl rfl).v_eq
    subst h0
    simp only [fitsK, Bool.and_eq_true, beq_iff_eq] at h
    obtain ⟨h1, h2⟩ := fits_cells (ks := ks) (cs := cs) (xs := xs) h.2 (by simpa using hl) (fun j x a hx ha => hr (j + 1) x a (by simpa using hx) (by simpa using ha))
    exact ⟨⟨h.1, h1⟩, by simp [h2]⟩
  | [], [], _ :: _, _, hl, _ => by simp at hl
  | none :: _, .v (.bool _) :: _, [], _, hl, _ => by simp at hl
  | some _ :: _, .v (.int _ _) :: _, [], _, hl, _ => by simp at hl

theorem cellsEq_eqV : ∀ (xs ys : List Value), cellsEqA (xs.map AV.v) (ys.map AV.v) = eqV xs ys
  | [], [] => rfl
  | [], y :: ys => by cases y <;> rfl
  | x :: xs, [] => by cases x <;> rfl
  | x :: xs, y :: ys => by
    cases x <;> cases y <;> first | rfl | (simp only [List.map_cons, cellsEqA, eqV, cellsEq_eqV xs ys])

theorem binAgg_sound {G : Gh} {w : World} {op : BinOp} {t : TypeId} {xo yo : Operand} {x y : Value} {cs ds : List AV} {av : AV} (hx : AVR G w x (.agg cs)) (hy : AVR G w y (.agg ds)) (h : binA P op t xo yo (.agg cs) (.agg ds) = some av) :
    ∃ v, (do eqGuard op t xo yo x y; binOp op t x y : Sem Value).run P w = .ok v w ∧ AVR G w v av := by
  simp only [binA] at h
  split at h
  case h_2 => cases h
  rename_i e ks he hk
  split at h
  case isFalse => cases h
  rename_i hf
  cases h
  simp only [Bool.and_eq_true] at hf
  unfold flatT at hk
  split at hk
  · cases hk
  rename_i hg
  cases hx with
  | agg hl1 hr1 =>
  rename_i xs
  cases hy with
  | agg hl2 hr2 =>
  rename_i ys
  obtain ⟨f1, e1⟩ := fits_cells (xs := xs.toList) hf.1 (by simpa using hl1) (fun j x a hx ha => hr1 j x a (by simpa using hx) ha)
  obtain ⟨f2, e2⟩ := fits_cells (xs := ys.toList) hf.2 (by simpa using hl2) (fun j x a hx ha => hr2 j x a (by simpa using hx) ha)
  obtain ⟨hk', hv⟩ : flatK P 16 t = some ks ∧ ∀ zs : Array Value, IsVal P t (.agg zs) zs.toList := by
    split at hk
    · rename_i hu; exact ⟨hk, fun zs => by unfold IsVal; rw [hu]⟩
    · rename_i hu; exact ⟨hk, fun zs => by unfold IsVal; rw [hu]⟩
    · cases hk
  have hrun := flat_eq (P := P) 9984 16 t ks hk' w (.agg xs) (.agg ys) xs.toList ys.toList (hv xs) (hv ys) f1 f2
  rw [← e1, ← e2, cellsEq_eqV]
  have hg' := run_eqGuard_agg (P := P) w op t xo yo xs ys (by simpa using hg)
  cases op <;> simp [isEq] at he
  · subst he
    refine ⟨.bool (eqV xs.toList ys.toList), ?_, ?_⟩
    · rw [Sem.run_bind, hg']
      simp only [Result.andThen_ok, run_eql_struct, hrun]
    · simp; exact .v rfl
  · subst he
    refine ⟨.bool (!eqV xs.toList ys.toList), ?_, ?_⟩
    · rw [Sem.run_bind, hg']
      simp only [Result.andThen_ok, run_neq_struct, hrun]
    · simp; exact .v rfl

end Go.Vm
