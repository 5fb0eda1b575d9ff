import Derived.Test.YtmponlabfccjaaaZ1
import Derived.ChangeKeysEq
import Derived.Laws.StructEq
/-
  Values that are compared cell by cell.
-/
namespace Go.Vm
set_option linter.unnecessarySimpa false
set_option linter.unusedSimpArgs false
set_option linter.unusedVariables false
open Go
variable {P : Program}

def FitV : List (Option IntKind) → List Value → Prop
  | [], [] => True
  | none :: ks, .bool _ :: cs => FitV ks cs
  | some k :: ks, .int k' _ :: cs => k = k' ∧ FitV ks cs
  | _, _ => False

theorem FitV.length : ∀ {ks : List (Option IntKind)} {xs : List Value}, FitV ks xs → xs.length = ks.length
  | [], [], _ => rfl
  | none :: ks, .bool _ :: cs, h => by simp [FitV.length (ks := ks) (xs := cs) h]
  | some k :: ks, .int k' _ :: cs, h => by simp [FitV.length (ks := ks) (xs := cs) h.2]
  | [], _ :: _, h => h.elim
  | none :: _, [], h => h.elim
  | some _ :: _, [], h => h.elim

theorem FitV.append : ∀ {ks ls : List (Option IntKind)} {xs : List Value}, FitV (ks ++ ls) xs → FitV ks (xs.take ks.length) ∧ FitV ls (xs.drop ks.length)
  | [], ls, xs, h => by simp [FitV]; exact h
  | none :: ks, ls, .bool b :: xs, h => by
    have := FitV.append (ks := ks) (ls := ls) (xs := xs) h
    exact ⟨this.1, by simpa using this.2⟩
  | some k :: ks, ls, .int k' n :: xs, h => by
    have := FitV.append (ks := ks) (ls := ls) (xs := xs) h.2
    exact ⟨⟨h.1, this.1⟩, by simpa using this.2⟩
  | none :: _, _, [], h => h.elim
  | some _ :: _, _, [], h => h.elim
  | none :: _, _, .int _ _ :: _, h => h.elim
  | none :: _, _, .agg _ :: _, h => h.elim
  | some _ :: _, _, .bool _ :: _, h => h.elim
  | some _ :: _, _, .agg _ :: _, h => h.elim

def eqV : List Value → List Value → Bool
  | [], [] => true
  | .bool a :: l, .bool b :: m => (a == b) && eqV l m
  | .int _ a :: l, .int _ b :: m => (a == b) && eqV l m
  | _, _ => false

theorem eqV_append : ∀ {ks ls : List (Option IntKind)} {xs ys : List Value}, FitV (ks ++ ls) xs → FitV (ks ++ ls) ys → eqV xs ys = (eqV (xs.take ks.length) (ys.take ks.length) && eqV (xs.drop ks.length) (ys.drop ks.length))
  | [], ls, xs, ys, _, _ => by simp [eqV]
  | none :: ks, ls, .bool b :: xs, .bool c :: ys, h, k => by
    have := eqV_append (ks := ks) (ls := ls) (xs := xs) (ys := ys) h k
    simp [eqV, this, Bool.and_assoc]
  | some q :: ks, ls, .int k1 n :: xs, .int k2 m :: ys, h, k => by
    have := eqV_append (ks := ks) (ls := ls) (xs := xs) (ys := ys) h.2 k.2
    simp [eqV, this, Bool.and_assoc]
  | none :: _, _, [], _, h, _ => h.elim
  | some _ :: _, _, [], _, h, _ => h.elim
  | none :: _, _, .bool _ :: _, [], _, h => h.elim
  | some _ :: _, _, .int _ _ :: _, [], _, h => h.elim
  | none :: _, _, .bool _ :: _, .int _ _ :: _, _, h => h.elim
  | some _ :: _, _, .int _ _ :: _, .bool _ :: _, _, h => h.elim
  | none :: _, _, .int _ _ :: _, _, h, _ => h.elim
  | some _ :: _, _, .bool _ :: _, _, h, _ => h.elim

def IsVal (P : Program) (t : TypeId) (x : Value) (xs : List Value) : Prop :=
  match P.underlying t with
  | some (.array _ _) | some (.struct _) => x = .agg xs.toArray
  | _ => xs = [x]

theorem flat_agg {d : Nat} {t : TypeId} {ks : List (Option IntKind)} (h : flatK P d t = some ks) : ∃ u, P.underlying t = some u ∧ (u = .bool ∧ ks = [none] ∨ (∃ k, u = .int k ∧ ks = [some k]) ∨ (∃ n e, u = .array n e) ∨ ∃ fs, u = .struct fs) := by
  cases d with
  | zero => simp [flatK] at h
  | succ d =>
    unfold flatK at h
    split at h
    · rename_i hu; cases h; exact ⟨_, hu, .inl ⟨rfl, rfl⟩⟩
    · rename_i k hu; cases h; exact ⟨_, hu, .inr (.inl ⟨k, rfl, rfl⟩)⟩
    · rename_i n e hu; exact ⟨_, hu, .inr (.inr (.inl ⟨n, e, rfl⟩))⟩
    · rename_i fs hu; exact ⟨_, hu, .inr (.inr (.inr ⟨fs, rfl⟩))⟩
    · cases h

theorem run_part_flat {d : Nat} {t : TypeId} {ks : List (Option IntKind)} (w : World) (h : flatK P d t = some ks) {i : TypeInfo} (hi : P.info? t = some i) (hsz : i.size = ks.length) {xs : Array Value} {off : Nat} (hf : FitV ks ((xs.toList.drop off).take ks.length)) :
    ∃ a, (part t xs off).run P w = .ok a w ∧ IsVal P t a ((xs.toList.drop off).take ks.length) := by
  obtain ⟨u, hu, hc⟩ := flat_agg h
  have hl := hf.length
  have agg : ∀ u', u = u' → descAgg u' = true → (part t xs off).run P w = .ok (.agg ((xs.toList.drop off).take ks.length).toArray) w := by
    intro u' e ha
    subst e
    unfold part
    simp only [Sem.run_bind, run_isAgg w hu, Result.andThen_ok, ha, if_true, run_sizeOf w hi, Sem.run_pure]
    congr 2
    apply Array.ext'
    rw [hsz, ← hl]
    simp [Array.toList_extract, List.extract_eq_take_drop]
  have one : ∀ u', u = u' → descAgg u' = false → ks.length = 1 → ∃ a, (part t xs off).run P w = .ok a w ∧ (xs.toList.drop off).take ks.length = [a] := by
    intro u' e ha h1
    subst e
    rw [h1] at hl ⊢
    obtain ⟨a, ha1⟩ := List.length_eq_one_iff.1 hl
    refine ⟨a, ?_, ha1⟩
    have hx : xs[off]? = some a := by
      have : ((xs.toList.drop off).take 1)[0]? = some a := by rw [ha1]; rfl
      rw [List.getElem?_take, if_pos (by omega), List.getElem?_drop] at this
      simpa using this
    unfold part
    simp only [Sem.run_bind, run_isAgg w hu, Result.andThen_ok, ha, Bool.false_eq_true, if_false, hx, Sem.run_pure]
  rcases hc with ⟨rfl, rfl⟩ | ⟨k, rfl, rfl⟩ | ⟨n, e, rfl⟩ | ⟨fs, rfl⟩
  · obtain ⟨a, h1, h2⟩ := one _ rfl rfl rfl
    exact ⟨a, h1, by unfold IsVal; rw [hu]; exact h2⟩
  · obtain ⟨a, h1, h2⟩ := one _ rfl rfl rfl
    exact ⟨a, h1, by unfold IsVal; rw [hu]; exact h2⟩
  · exact ⟨_, agg _ rfl rfl, by unfold IsVal; rw [hu]⟩
  · exact ⟨_, agg _ rfl rfl, by unfold IsVal; rw [hu]⟩

def EqT (P : Program) (dd : Nat) (t : TypeId) (ks : List (Option IntKind)) : Prop :=
  ∀ (w : World) (x y : Value) (xs ys : List Value), IsVal P t x xs → IsVal P t y ys → FitV ks xs → FitV ks ys → (Op.equalIn dd t x y).run P w = .ok (eqV xs ys) w

theorem flat_items {d dd : Nat} {e : TypeId} {l : List (Option IntKind)} {i : TypeInfo} (he : flatK P d e = some l) (hi : P.info? e = some i) (hsz : i.size = l.length) (IH : EqT P dd e l) (xs ys : Array Value) (w : World) : ∀ (n j : Nat), FitV (List.replicate n l).flatten (xs.toList.drop (j * l.length)) → FitV (List.replicate n l).flatten (ys.toList.drop (j * l.length)) →
    (Op.eqItems dd e (P.cellsOf e) xs ys (List.range' j n)).run P w = .ok (eqV (xs.toList.drop (j * l.length)) (ys.toList.drop (j * l.length))) w
  | 0, j, hx, hy => by
    have h1 := hx.length; have h2 := hy.length
    simp only [List.replicate_zero, List.flatten_nil, List.length_nil] at h1 h2
    rw [List.eq_nil_of_length_eq_zero h1, List.eq_nil_of_length_eq_zero h2]
    simp [Op.eqItems, eqV]
  | n + 1, j, hx, hy => by
    have hc : P.cellsOf e = l.length := by simp [Program.cellsOf, hi, hsz]
    simp only [List.replicate_succ, List.flatten_cons] at hx hy
    obtain ⟨x1, x2⟩ := hx.append
    obtain ⟨y1, y2⟩ := hy.append
    have hj : j * l.length + l.length = (j + 1) * l.length := by rw [Nat.add_mul, Nat.one_mul]
    rw [List.drop_drop, hj] at x2 y2
    obtain ⟨a, ha, ha2⟩ := run_part_flat w he hi hsz x1
    obtain ⟨b, hb, hb2⟩ := run_part_flat w he hi hsz y1
    have hr := IH w a b _ _ ha2 hb2 x1 y1
    have ih := flat_items he hi hsz IH xs ys w n (j + 1) x2 y2
    rw [List.range'_succ]
    simp only [Op.eqItems, Sem.run_bind, hc, ha, hb, hr, Result.andThen_ok]
    rw [eqV_append (ks := l) hx hy, List.drop_drop, List.drop_drop, hj]
    rw [hc] at ih
    cases h : eqV (List.take l.length (List.drop (j * l.length) xs.toList)) (List.take l.length (List.drop (j * l.length) ys.toList)) with
    | false => simp
    | true => simpa using ih

theorem flat_fields {d dd : Nat} (xs ys : Array Value) (w : World) (IH : ∀ t ks, flatK P d t = some ks → EqT P dd t ks) : ∀ (fs : List Field) (off : Nat) (ks : List (Option IntKind)), flatFs (flatK P d) P fs off = some ks → FitV ks (xs.toList.drop off) → FitV ks (ys.toList.drop off) →
    (Op.eqFields dd xs ys fs).run P w = .ok (eqV (xs.toList.drop off) (ys.toList.drop off)) w
  | [], off, ks, h, hx, hy => by
    simp [flatFs] at h
    subst h
    have h1 := hx.length; have h2 := hy.length
    simp only [List.length_nil] at h1 h2
    rw [List.eq_nil_of_length_eq_zero h1, List.eq_nil_of_length_eq_zero h2]
    simp [Op.eqFields, eqV]
  | f :: fs, off, ks, h, hx, hy => by
    unfold flatFs at h
    split at h
    case isFalse => cases h
    rename_i hc
    obtain ⟨hn, rfl⟩ := hc
    split at h
    case h_2 => cases h
    rename_i l i he hi
    split at h
    case isFalse => cases h
    rename_i hsz
    cases hr : flatFs (flatK P d) P fs (f.offset + l.length) with
    | none => rw [hr] at h; cases h
    | some ks' =>
      rw [hr] at h
      simp at h
      subst h
      obtain ⟨x1, x2⟩ := hx.append
      obtain ⟨y1, y2⟩ := hy.append
      rw [List.drop_drop] at x2 y2
      obtain ⟨a, ha, ha2⟩ := run_part_flat w he hi hsz x1
      obtain ⟨b, hb, hb2⟩ := run_part_flat w he hi hsz y1
      have hr2 := IH f.type l he w a b _ _ ha2 hb2 x1 y1
      have ih := flat_fields xs ys w IH fs (f.offset + l.length) ks' hr x2 y2
      simp only [Op.eqFields, hn, ne_eq, not_false_eq_true, if_true, Sem.run_bind, ha, hb, hr2, Result.andThen_ok]
      rw [eqV_append (ks := l) hx hy, List.drop_drop, List.drop_drop]
      cases h : eqV (List.take l.length (List.drop f.offset xs.toList)) (List.take l.length (List.drop f.offset ys.toList)) with
      | false => simp
      | true => simpa using ih

theorem flat_eq (m : Nat) : ∀ (d : Nat) (t : TypeId) (ks : List (Option IntKind)), flatK P d t = some ks → EqT P (d + m) t ks
  | 0, t, ks, h => by simp [flatK] at h
  | d + 1, t, ks, h => by
    intro w x y xs ys hx hy fx fy
    have h' := h
    unfold flatK at h
    rw [show d + 1 + m = (d + m) + 1 by omega]
    split at h
    · rename_i hu
      cases h
      unfold IsVal at hx hy
      rw [hu] at hx hy
      simp only at hx hy
      subst hx hy
      cases x <;> simp [FitV] at fx
      cases y <;> simp [FitV] at fy
      rename_i a b
      rw [run_equalIn_bool' w (d + m) t a b hu]
      simp [eqV]
    · rename_i k hu
      cases h
      unfold IsVal at hx hy
      rw [hu] at hx hy
      simp only at hx hy
      subst hx hy
      cases x <;> simp [FitV] at fx
      cases y <;> simp [FitV] at fy
      rename_i k1 a k2 b
      subst fx fy
      rw [run_equalIn_int w (d + m) t k _ a b hu]
      simp [eqV]
    · rename_i n e hu
      split at h
      case h_2 => cases h
      rename_i l i he hi
      split at h
      case isFalse => cases h
      rename_i hsz
      cases h
      unfold IsVal at hx hy
      rw [hu] at hx hy
      simp only at hx hy
      subst hx hy
      rw [run_equalIn_array w (d + m) _ _ hu hi, List.range_eq_range']
      have := flat_items he hi hsz (flat_eq m d e l he) xs.toArray ys.toArray w n 0 (by simpa using fx) (by simpa using fy)
      simpa using this
    · rename_i fs hu
      split at h
      · cases h
      rename_i hst
      unfold IsVal at hx hy
      rw [hu] at hx hy
      simp only at hx hy
      subst hx hy
      have hfs : P.fieldsOf t = fs := by simp [Program.fieldsOf, hu]
      rw [run_equalIn_struct w (d + m) t _ _ (by rw [hfs]; exact hu) (by simpa using hst), hfs]
      have := flat_fields (d := d) (dd := d + m) xs.toArray ys.toArray w (fun t ks h => flat_eq m d t ks h) fs.toList 0 ks h (by simpa using fx) (by simpa using fy)
      simpa using this
    · cases h

theorem fits_cells {G : Gh} {w : World} : ∀ {ks : List (Option IntKind)} {cs : List AV} {xs : List Value}, fitsK ks cs = true → xs.length = cs.length → (∀ (j : Nat) x a, xs[j]? = some x → cs[j]? = some a → AVR G w x a) → FitV ks xs ∧ xs.map AV.v = cs
  | [], [], [], _, _, _ => by simp [FitV]
  | none :: ks, .v (.bool b) :: cs, x :: xs, h, hl, hr => by
    have h0 := (hr 0 x _ rfl rfl).v_eq
    subst h0
    obtain ⟨h1, h2⟩ := fits_cells (ks := ks) (cs := cs) (xs := xs) h (by simpa using hl) (fun j x a hx ha => hr (j + 1) x a (by simpa using hx) (by simpa using ha))
    exact ⟨h1, by simp [h2]⟩
  | some k :: ks, .v (.int k' n) :: cs, x :: xs, h, hl, hr => by
    have h0 := (hr 0 x _ rfl rfl).v_eq
    subst h0
    simp only [fitsK, Bool.and_eq_true, beq_iff_eq] at h
    obtain ⟨h1, h2⟩ := fits_cells (ks := ks) (cs := cs) (xs := xs) h.2 (by simpa using hl) (fun j x a hx ha => hr (j + 1) x a (by simpa using hx) (by simpa using ha))
    exact ⟨⟨h.1, h1⟩, by simp [h2]⟩
  | [], [], _ :: _, _, hl, _ => by simp at hl
  | none :: _, .v (.bool _) :: _, [], _, hl, _ => by simp at hl
  | some _ :: _, .v (.int _ _) :: _, [], _, hl, _ => by simp at hl

theorem cellsEq_eqV : ∀ (xs ys : List Value), cellsEqA (xs.map AV.v) (ys.map AV.v) = eqV xs ys
  | [], [] => rfl
  | [], y :: ys => by cases y <;> rfl
  | x :: xs, [] => by cases x <;> rfl
  | x :: xs, y :: ys => by
    cases x <;> cases y <;> first | rfl | (simp only [List.map_cons, cellsEqA, eqV, cellsEq_eqV xs ys])

theorem binAgg_sound {G : Gh} {w : World} {op : BinOp} {t : TypeId} {xo yo : Operand} {x y : Value} {cs ds : List AV} {av : AV} (hx : AVR G w x (.agg cs)) (hy : AVR G w y (.agg ds)) (h : binA P op t xo yo (.agg cs) (.agg ds) = some av) :
    ∃ v, (do eqGuard op t xo yo x y; binOp op t x y : Sem Value).run P w = .ok v w ∧ AVR G w v av := by
  simp only [binA] at h
  split at h
  case h_2 => cases h
  rename_i e ks he hk
  split at h
  case isFalse => cases h
  rename_i hf
  cases h
  simp only [Bool.and_eq_true] at hf
  unfold flatT at hk
  split at hk
  · cases hk
  rename_i hg
  cases hx with
  | agg hl1 hr1 =>
  rename_i xs
  cases hy with
  | agg hl2 hr2 =>
  rename_i ys
  obtain ⟨f1, e1⟩ := fits_cells (xs := xs.toList) hf.1 (by simpa using hl1) (fun j x a hx ha => hr1 j x a (by simpa using hx) ha)
  obtain ⟨f2, e2⟩ := fits_cells (xs := ys.toList) hf.2 (by simpa using hl2) (fun j x a hx ha => hr2 j x a (by simpa using hx) ha)
  obtain ⟨hk', hv⟩ : flatK P 16 t = some ks ∧ ∀ zs : Array Value, IsVal P t (.agg zs) zs.toList := by
    split at hk
    · rename_i hu; exact ⟨hk, fun zs => by unfold IsVal; rw [hu]⟩
    · rename_i hu; exact ⟨hk, fun zs => by unfold IsVal; rw [hu]⟩
    · cases hk
  have hrun := flat_eq (P := P) 9984 16 t ks hk' w (.agg xs) (.agg ys) xs.toList ys.toList (hv xs) (hv ys) f1 f2
  rw [← e1, ← e2, cellsEq_eqV]
  have hg' := run_eqGuard_agg (P := P) w op t xo yo xs ys (by simpa using hg)
  cases op <;> simp [isEq] at he
  · subst he
    refine ⟨.bool (eqV xs.toList ys.toList), ?_, ?_⟩
    · rw [Sem.run_bind, hg']
      simp only [Result.andThen_ok, run_eql_struct, hrun]
    · simp; exact .v rfl
  · subst he
    refine ⟨.bool (!eqV xs.toList ys.toList), ?_, ?_⟩
    · rw [Sem.run_bind, hg']
      simp only [Result.andThen_ok, run_neq_struct, hrun]
    · simp; exact .v rfl

end Go.Vm

/-
  Each operation that calls no Go function, the rest.
-/
namespace Go.Vm
set_option linter.unnecessarySimpa false
set_option linter.unusedSimpArgs false
set_option linter.unusedVariables false
open Go
section
variable {P : Program} {G : Gh} {w : World} {σ : St} {a : Act} {ρ : Nat → AV}

theorem getD_mod (l : List AV) (j s : Nat) (hl : l.length = s) (hs : 0 < s) : l[j % s]? = some (l.getD (j % s) undefA) := by
  have : j % s < l.length := by rw [hl]; exact Nat.mod_lt _ hs
  simp [List.getD, this]

theorem buildSlice_sound (hS : RelS G w σ) {t : TypeId} {len : Nat} {vs : List (Nat × Value)} {ps : List (Nat × AV)} {av : AV} (hv : Fa2 (fun (p : Nat × Value) (q : Nat × AV) => p.1 = q.1 ∧ AVR G w p.2 q.2) vs ps) (h : buildSliceA P t len ps = some av) :
    ∃ y w' G', (Instr.buildSlice t len vs.toArray).run P w = .ok y w' ∧ Ext G w G' w' ∧ RelS G' w' σ ∧ AVR G' w' y av := by
  unfold buildSliceA at h
  split at h
  case h_2 => cases h
  rename_i e he
  split at h
  case h_2 => cases h
  rename_i i z hi hz
  split at h
  case isFalse => cases h
  rename_i hcond
  obtain ⟨hpos, hzl, hlim⟩ := hcond
  split at h
  case h_2 => cases h
  rename_i cs hf
  split at h
  case isFalse => cases h
  rename_i hall
  cases h
  obtain ⟨zv, hzr, hzv⟩ := zeroA_sound (G := G) (w := w) hz
  obtain ⟨d, j, hd, hj, hzj, hag, hsz, hby⟩ := ti_some hi
  obtain ⟨hce, hcr⟩ := hzv.cells_eq
  have ht := elemT_some he
  have hlim' : ¬ (len * j.size > 2 ^ 24) := by rw [← hsz]; omega
  let z0 : Array Value := if len * j.size = 0 then #[] else zv.cells
  let cur : Array Value := (Array.range (len * j.size)).map (fun x => z0[x % z0.size]!)
  have hcur : cur.size = len * j.size := by simp [cur]
  have hcr2 : ∀ (k : Nat) x b, cur[k]? = some x → ((List.range (len * i.size)).map fun k => z.cells.getD (k % i.size) undefA)[k]? = some b → AVR G w x b := by
    intro k x b hx hb
    have hk : k < len * j.size := by have := (Array.getElem?_eq_some_iff.1 hx).1; omega
    have hk' : k < len * i.size := by rw [hsz]; exact hk
    have hne : ¬ (len * j.size = 0) := by omega
    have hz0e : z0 = zv.cells := by simp [z0, hne]
    have hmod : k % zv.cells.size < zv.cells.size := Nat.mod_lt _ (by rw [hce, hzl]; exact hpos)
    simp [cur, hk, hz0e] at hx
    simp [hk'] at hb
    subst hx
    have hcs : zv.cells.size = i.size := by rw [hce, hzl]
    rw [getElem!_pos zv.cells (k % zv.cells.size) hmod]
    refine hcr (k % zv.cells.size) _ _ (Array.getElem?_eq_getElem hmod) ?_
    rw [hcs]
    have := getD_mod z.cells k i.size hzl hpos
    rw [this, ← hb]
    simp [List.getD]
  obtain ⟨c, hc, hcl, hcr3⟩ := fill_sound (fun i' => some (i' * j.size, j.size)) _ (fun q x h => by
    simp only [List.getElem?_map] at h
    by_cases hq : q < len
    · simp [hq] at h; rw [← h, hsz]
    · simp [hq] at h) vs ps cur _ cs hv (by simp [hcur, hsz]) hcr2 hf
  have hcsz : c.size = len * i.size := by
    have : ∀ (as9 : List (Nat × AV)) (x y : List AV), fillA ((List.range len).map fun k => (k * i.size, i.size)) x as9 = some y → y.length = x.length := by
      intro as9
      induction as9 with
      | nil => intro x y h; simp [fillA] at h; rw [h]
      | cons p as9 ih =>
        intro x y h
        unfold fillA at h
        split at h
        · split at h
          · rename_i hc
            rw [ih _ _ h, splice_length _ _ _ (by rw [hc.1]; exact hc.2)]
          · cases h
        · cases h
    have := this ps _ _ hf
    simp at this
    omega
  have hrun : (Instr.buildSlice t len vs.toArray).run P w = .ok (.slice (some ⟨w.heap.size, 0, none⟩) len len) (w.alloc (.cells c e)) := by
    unfold Instr.buildSlice
    simp only [Sem.run_bind, run_underlying ht, Result.andThen_ok, run_sizeOf w hj, if_neg hlim']
    by_cases h0 : len * j.size = 0
    · have hz0e : z0 = #[] := by simp [z0, h0]
      have hc' := hc
      simp only [cur, hz0e] at hc'
      rw [if_pos h0]
      simp only [Sem.run_bind, Sem.run_pure, Result.andThen_ok]
      rw [hc']
      simp [newRow]
    · have hz0e : z0 = zv.cells := by simp [z0, h0]
      have hc' := hc
      simp only [cur, hz0e] at hc'
      rw [if_neg h0]
      simp only [Sem.run_bind, Sem.run_pure, Result.andThen_ok, hzr]
      rw [hc']
      simp [newRow]
  let f : Nat → Tag := fun q => if q < c.size then .fixd else .no
  have hE := ext_alloc hS.fresh (.cells c e) f
  have hS' := hS.alloc (.cells c e) f
  refine ⟨_, _, _, hrun, hE, hS', ?_⟩
  by_cases hcs : cs = []
  · subst hcs
    have h0 : len = 0 := by
      have : len * i.size = 0 := by rw [← hcsz, hcl]; rfl
      rcases Nat.mul_eq_zero.1 this with h | h <;> omega
    subst h0
    exact .sl0 rfl
  · refine .sl c.toList (by simpa using hcl) (by omega) (Nat.le_refl _) (fun q hq => ?_) (fun q x hq => ⟨?_, ?_⟩) (fun q x b hq hb => (hcr3 q x b (by simpa using hq) hb).mono hE) rfl
    · show (if w.heap.size = w.heap.size then f (0 + q) else _) = _
      rw [if_pos rfl]
      simp only [f]
      rw [if_pos (by omega)]
    · rw [heap_cell (heap_alloc_new w _), Nat.zero_add]; simpa using hq
    · have hlt : q < cs.length := by have := (List.getElem?_eq_some_iff.1 hq).1; simp at this; omega
      refine (hcr3 q x _ (by simpa using hq) (List.getElem?_eq_getElem hlt)).oneCell ?_
      exact List.all_eq_true.1 hall _ (List.getElem_mem hlt)

theorem nilPtr_sound {x : Value} {av : AV} {p : Bool} (hx : AVR G w x av) (h : nilPtr av = some p) : (p = true ∧ x = .pointer none) ∨ (p = false ∧ ∃ b, x = .pointer (some b)) := by
  unfold nilPtr at h
  split at h
  · cases h; exact .inl ⟨rfl, hx.v_eq⟩
  · cases h; cases hx with | ptr h => exact .inr ⟨rfl, _, rfl⟩
  · cases h; cases hx with | ep => exact .inr ⟨rfl, _, rfl⟩
  · cases h; cases hx with | rp => exact .inr ⟨rfl, _, rfl⟩
  · cases h

theorem run_equal_nil {t el : TypeId} (hd : P.underlying t = some (.pointer el)) (b : Option Addr) : (Op.equal t (.pointer none) (.pointer b)).run P w = .ok b.isNone w := by
  have key : ∀ n, (Op.equalIn (n + 1) t (.pointer none) (.pointer b)).run P w = .ok b.isNone w := fun n => by
    simp [Op.equalIn, run_underlying hd]
  exact key 9999

theorem run_equal_nil' {t el : TypeId} (hd : P.underlying t = some (.pointer el)) (b : Addr) : (Op.equal t (.pointer (some b)) (.pointer none)).run P w = .ok false w := by
  have key : ∀ n, (Op.equalIn (n + 1) t (.pointer (some b)) (.pointer none)).run P w = .ok false w := fun n => by
    simp [Op.equalIn, run_underlying hd]
  exact key 9999

theorem run_bin_ptr {op : BinOp} {t : TypeId} {xo yo : Operand} {b c : Option Addr} {r e : Bool} (hop : (op = .eql ∧ e = true) ∨ (op = .neq ∧ e = false)) (h : (Op.equal t (.pointer b) (.pointer c)).run P w = .ok r w) :
    (do eqGuard op t xo yo (.pointer b) (.pointer c); binOp op t (.pointer b) (.pointer c) : Sem Value).run P w = .ok (.bool (e == r)) w := by
  rcases hop with ⟨rfl, rfl⟩ | ⟨rfl, rfl⟩
  · have e1 : eqGuard .eql t xo yo (.pointer b) (.pointer c) = pure () := rfl
    have e2 : binOp .eql t (.pointer b) (.pointer c) = (do pure (.bool (← Op.equal t (.pointer b) (.pointer c)))) := rfl
    rw [e1, e2]
    simp only [Sem.run_bind, Sem.run_pure, Result.andThen_ok, h]
    cases r <;> rfl
  · have e1 : eqGuard .neq t xo yo (.pointer b) (.pointer c) = pure () := rfl
    have e2 : binOp .neq t (.pointer b) (.pointer c) = (do pure (.bool (!(← Op.equal t (.pointer b) (.pointer c))))) := rfl
    rw [e1, e2]
    simp only [Sem.run_bind, Sem.run_pure, Result.andThen_ok, h]
    cases r <;> rfl

theorem binA_sound {op : BinOp} {t : TypeId} {xo yo : Operand} {x y : Value} {p q av : AV} (hx : AVR G w x p) (hy : AVR G w y q) (h : binA P op t xo yo p q = some av) :
    ∃ v, (do eqGuard op t xo yo x y; binOp op t x y : Sem Value).run P w = .ok v w ∧ AVR G w v av := by
  have h0 := h
  unfold binA at h
  split at h
  · exact binAgg_sound hx hy h0
  unfold binOldA at h
  split at h
  · rename_i a b ha hb
    rw [plainOf_sound hx ha, plainOf_sound hy hb]
    split at h
    · rename_i r hr
      split at h
      · rename_i hp
        cases h
        exact ⟨r, pureRun_run P w _ _ hr, .v hp⟩
      · cases h
    · cases h
  · split at h
    · rename_i e p1 q1 he hp hq
      split at h
      · rename_i hc
        cases h
        simp only [Bool.and_eq_true, Bool.or_eq_true] at hc
        obtain ⟨hpt, hpq⟩ := hc
        obtain ⟨el, hd⟩ : ∃ el, P.underlying t = some (.pointer el) := by
          unfold isPtrT at hpt
          split at hpt
          · exact ⟨_, by assumption⟩
          · cases hpt
        have hop : (op = .eql ∧ e = true) ∨ (op = .neq ∧ e = false) := by
          unfold isEq at he
          split at he <;> cases he <;> simp
        rcases nilPtr_sound hx hp with ⟨rfl, rfl⟩ | ⟨rfl, b1, rfl⟩ <;> rcases nilPtr_sound hy hq with ⟨rfl, rfl⟩ | ⟨rfl, b2, rfl⟩
        · exact ⟨_, run_bin_ptr hop (run_equal_nil hd _), .v rfl⟩
        · exact ⟨_, run_bin_ptr hop (run_equal_nil hd _), .v rfl⟩
        · exact ⟨_, run_bin_ptr hop (run_equal_nil' hd _), .v rfl⟩
        · simp at hpq
      · cases h
    · cases h

theorem unA_sound {op : UnOp} {x : Value} {p av : AV} (hx : AVR G w x p) (h : unA op p P = some av) : ∃ v, (Op.unary op x).run P w = .ok v w ∧ AVR G w v av := by
  unfold unA at h
  split at h
  · rename_i y
    have := hx.v_eq
    subst this
    split at h
    · rename_i r hr
      split at h
      · cases h; exact ⟨r, pureRun_run P w _ _ hr, .v (by assumption)⟩
      · cases h
    · cases h
  · cases h

theorem bytesOf_sound : ∀ {cs : List AV} {l : List UInt8}, bytesOf cs = some l → ∃ ns : List Int, cs = ns.map (fun n => .v (.int .u8 n)) ∧ l = ns.map fun n => UInt8.ofNat n.toNat
  | [], l, h => by simp [bytesOf] at h; subst h; exact ⟨[], rfl, rfl⟩
  | .v (.int .u8 n) :: cs, l, h => by
    unfold bytesOf at h
    cases hs : bytesOf cs with
    | none => simp [hs] at h
    | some l' =>
      simp [hs] at h
      subst h
      obtain ⟨ns, h1, h2⟩ := bytesOf_sound hs
      exact ⟨n :: ns, by simp [h1], by simp [h2]⟩
  | .v (.bool _) :: _, _, h | .v (.float ..) :: _, _, h | .v (.complex ..) :: _, _, h | .v (.string _) :: _, _, h | .v (.pointer _) :: _, _, h | .v (.slice ..) :: _, _, h | .v (.map _) :: _, _, h
  | .v (.chan _) :: _, _, h | .v (.func ..) :: _, _, h | .v .nilFunc :: _, _, h | .v (.iface ..) :: _, _, h | .v .nilIface :: _, _, h | .v (.agg _) :: _, _, h | .v (.tuple _) :: _, _, h
  | .v (.int .i8 _) :: _, _, h | .v (.int .i16 _) :: _, _, h | .v (.int .i32 _) :: _, _, h | .v (.int .i64 _) :: _, _, h | .v (.int .u16 _) :: _, _, h | .v (.int .u32 _) :: _, _, h | .v (.int .u64 _) :: _, _, h
  | .agg _ :: _, _, h | .tup _ :: _, _, h | .sl .. :: _, _, h | .ep _ :: _, _, h | .ptr .. :: _, _, h | .bs .. :: _, _, h | .fn .. :: _, _, h => by simp [bytesOf] at h

theorem push_bytes (f : Value → ByteArray → Sem (ForInStep ByteArray)) (hf : ∀ n s, f (.int .u8 n) s = pure (.yield (s.push (UInt8.ofNat n.toNat)))) :
    ∀ (ns : List Int) (s : ByteArray), (forIn (m := Sem) (ns.map (Value.int .u8)) s f).run P w = .ok ⟨s.data ++ (ns.map fun n => UInt8.ofNat n.toNat).toArray⟩ w
  | [], s => by simp
  | n :: ns, s => by
    have ih := push_bytes f hf ns (s.push (UInt8.ofNat n.toNat))
    simp only [List.map_cons, List.forIn_cons, Sem.run_bind, hf, Sem.run_pure, Result.andThen_ok, ih]
    congr 1
    apply ByteArray.ext
    simp [ByteArray.push]

theorem intA_sound' {x : Value} {i : Int} (h : intA (.v x) = some i) : ∃ k, x = .int k i := by
  unfold intA at h
  split at h
  · rename_i k n e
    cases h
    cases e
    exact ⟨_, rfl⟩
  · cases h

theorem convA_sound {s d : TypeId} {x : Value} {p av : AV} (hx : AVR G w x p) (h : convA P s d p = some av) : ∃ v, (convert s d x).run P w = .ok v w ∧ AVR G w v av := by
  unfold convA at h
  split at h
  · have := hx.v_eq
    subst this
    split at h
    · rename_i n k1 k hn h1 h2
      cases h
      have e1 : ∃ k1, P.underlying s = some (.int k1) := by
        unfold intT at h1
        split at h1
        · exact ⟨_, by assumption⟩
        · cases h1
      have e2 : P.underlying d = some (.int k) := by
        unfold intT at h2
        split at h2
        · cases h2; assumption
        · cases h2
      obtain ⟨k1', e1⟩ := e1
      obtain ⟨q, rfl⟩ := intA_sound' hn
      exact ⟨_, by simp [convert, run_underlying e1, run_underlying e2, Conv.intToInt], .v rfl⟩
    · split at h
      · rename_i r hr
        split at h
        · cases h; exact ⟨r, pureRun_run P w _ _ hr, .v (by assumption)⟩
        · cases h
      · cases h
  · rename_i sz cs n tl
    split at h
    · rename_i e l he hst hb
      split at h
      · rename_i hc
        cases h
        simp only [Bool.and_eq_true, beq_iff_eq] at hc
        obtain ⟨hu8, hsz⟩ := hc
        subst hsz
        have ht := elemT_some he
        have hd : P.underlying d = some .string := by
          unfold isStrT at hst
          split at hst
          · assumption
          · cases hst
        have hu : P.underlying e = some (.int .u8) := by
          unfold isU8 at hu8
          split at hu8
          · assumption
          · cases hu8
        obtain ⟨ax, cx, xs, rfl, hnc, _, hcl, hol, hor, ho1, hoc⟩ := sl_cells hx
        obtain ⟨ns, hns, hl⟩ := bytesOf_sound hb
        have hxs : xs = ns.map (Value.int .u8) := by
          apply List.ext_getElem?
          intro j
          by_cases hj : j < xs.length
          · have hj2 : j < cs.length := by omega
            have := hor j _ _ (List.getElem?_eq_getElem hj) (List.getElem?_eq_getElem hj2)
            subst hns
            simp at hj2
            simp only [List.getElem_map] at this
            rw [List.getElem?_eq_getElem hj, this.v_eq]
            simp [hj2]
          · rw [List.getElem?_eq_none (by omega), List.getElem?_eq_none (by subst hns; simp at hol ⊢; omega)]
        refine ⟨.string ⟨l.toArray⟩, ?_, .v rfl⟩
        cases ax with
        | none =>
          have hcs : cs = [] := by
            by_cases h : cs = []
            · exact h
            · obtain ⟨_, _, h1, _⟩ := hoc h; cases h1
          subst hcs
          have : ns = [] := by cases ns with | nil => rfl | cons => simp at hns
          subst this
          subst hl
          simp [convert, run_underlying ht, run_underlying hd, run_underlying hu, Conv.bytesToString]
          rfl
        | some b0 =>
          have hload : (loadCells b0 n).run P w = .ok xs.toArray w := by
            have hlen : xs.length = n := by rw [hol, hcl]; omega
            rw [← hlen]
            refine run_loadCells_list (w := w) b0 xs (fun j v hj => ?_)
            have hne : cs ≠ [] := fun e => by subst e; simp at hol; subst hol; simp at hj
            obtain ⟨b, o, h1, _, h2⟩ := hoc hne
            cases h1
            rw [add_at]; exact h2 j v hj
          subst hxs
          simp only [convert, Sem.run_bind, run_underlying ht, run_underlying hd, run_underlying hu, Result.andThen_ok, Conv.bytesToString, hload]
          rw [← Array.forIn_toList]
          have h2 : (List.map (Value.int IntKind.u8) ns).toArray.toList = List.map (Value.int IntKind.u8) ns := rfl
          rw [h2, push_bytes _ (fun _ _ => rfl)]
          simp [hl]
      · cases h
    · cases h
  · cases h

theorem intA_sound {x : Value} {av : AV} {i : Int} (hx : AVR G w x av) (h : intA av = some i) : ∃ k, x = .int k i := by
  unfold intA at h
  split at h
  · cases h; exact ⟨_, hx.v_eq⟩
  · cases h

theorem fieldT_some {t : TypeId} {f o ft : Nat} (h : fieldT P t f = some (o, ft)) : ∃ fs x, P.underlying t = some (.struct fs) ∧ fs[f]? = some x ∧ x.offset = o ∧ x.type = ft := by
  unfold fieldT at h
  split at h
  · rename_i fs hd
    split at h
    · rename_i x hx; cases h; exact ⟨fs, x, hd, hx, rfl, rfl⟩
    · cases h
  · cases h

theorem arrT_some {t n e : Nat} (h : arrT P t = some (n, e)) : P.underlying t = some (.array n e) := by
  unfold arrT at h
  split at h
  · rename_i hd; cases h; exact hd
  · cases h

theorem View.to_ep {b o : Nat} {cs : List AV} (k : Nat) (h : AVR G w (.pointer (some ⟨b, o, none⟩)) (.ep cs)) : AVR G w (.pointer (some ⟨b, o + k, none⟩)) (.ep (cs.drop k)) := by
  cases h with
  | ep xs hl hs hx h =>
  refine .ep (xs.drop k) (by simp [hl]) (fun j hj => ?_) (fun j x hj => ?_) (fun j x a hj ha => ?_)
  · simp at hj
    rw [Nat.add_assoc]; exact hs _ (by omega)
  · rw [List.getElem?_drop] at hj
    rw [Nat.add_assoc]; exact hx _ _ hj
  · rw [List.getElem?_drop] at hj ha
    exact h _ _ _ hj ha

theorem fieldAddrA_sound {t : TypeId} {f : Nat} {x : Value} {p av : AV} (hx : AVR G w x p) (h : fieldAddrA P t f p = some av) : ∃ v, (Instr.fieldAt t x f).run P w = .ok v w ∧ AVR G w v av := by
  unfold fieldAddrA at h
  split at h
  case h_2 => cases h
  rename_i o ft hf
  split at h
  case h_2 => cases h
  rename_i i hi
  split at h
  case isTrue => cases h
  rename_i hsz0
  obtain ⟨fs, fx, hd, hfx, rfl, rfl⟩ := fieldT_some hf
  obtain ⟨_, j, _, hj, _, _, hsz, _⟩ := ti_some hi
  have hp : ∀ ad : Addr, (fieldPlace ad fx).run P w = .ok (ad.add fx.offset) w := by
    intro ad
    unfold fieldPlace
    simp only [Sem.run_bind, run_sizeOf w hj, Result.andThen_ok]
    rw [if_neg (by rw [← hsz]; exact hsz0)]
    rfl
  have hrun : ∀ ad : Addr, (Instr.fieldAt t (.pointer (some ad)) f).run P w = .ok (.pointer (some (ad.add fx.offset))) w := by
    intro ad
    simp [Instr.fieldAt, run_underlying hd, hfx, Instr.sureAddr, hp]
  split at h
  · cases h
    cases hx with
    | ptr hp => exact ⟨_, hrun _, by rw [add_at]; exact .ptr hp⟩
  · cases h
    obtain ⟨b, o, rfl, _⟩ := view_ep hx
    exact ⟨_, hrun _, by rw [add_at]; exact View.to_ep _ hx⟩
  · cases h
    cases hx with
    | rp hk hg hc => exact ⟨_, hrun _, by rw [add_at]; exact .rp hk hg (fun e => by obtain ⟨rfl, rfl⟩ := hc e; exact ⟨rfl, by omega⟩)⟩
  · cases h

theorem sl_ep {b o n c sz : Nat} {cs : List AV} {tl : Tail} (h : AVR G w (.slice (some ⟨b, o, none⟩) n c) (.sl sz cs n tl)) (hne : cs ≠ []) : AVR G w (.pointer (some ⟨b, o, none⟩)) (.ep cs) := by
  cases h with
  | sl0 => exact (hne rfl).elim
  | sl xs hl hn hc hs hx h ht => exact .ep xs hl hs hx h

theorem indexAddrA_sound {t : TypeId} {x y : Value} {p q av : AV} (hx : AVR G w x p) (hy : AVR G w y q) (h : indexAddrA P t p q = some av) : ∃ v, (Instr.indexAt t x y).run P w = .ok v w ∧ AVR G w v av := by
  unfold indexAddrA at h
  split at h
  · cases h
  rename_i i hi
  obtain ⟨k, rfl⟩ := intA_sound hy hi
  split at h
  · rename_i e he
    have ht := elemT_some he
    split at h
    case h_2 => cases h
    rename_i ei hei
    obtain ⟨_, j, _, hj, _, _, hsz, _⟩ := ti_some hei
    have hrun : ∀ (ad : Addr) (n c : Nat), 0 ≤ i → i < n → (Instr.indexAt t (.slice (some ad) n c) (.int k i)).run P w = .ok (.pointer (some (ad.add (i.toNat * ei.size)))) w := by
      intro ad n c h0 h1
      simp [Instr.indexAt, asIntOf, run_underlying ht, h0, h1, run_sizeOf w hj, hsz]
    split at h
    · rename_i sz cs n tl
      split at h
      · rename_i hc
        obtain ⟨hs1, h0, h1, hpos⟩ := hc
        cases h
        obtain ⟨ax, cx, xs, rfl, hnc, _, hcl, hol, hor, ho1, hoc⟩ := sl_cells hx
        have hne : cs ≠ [] := by
          intro e; subst e
          have : n * sz = 0 := by simpa using hcl.symm
          rcases Nat.mul_eq_zero.1 this with h | h <;> omega
        obtain ⟨b, o, rfl, _, _⟩ := hoc hne
        exact ⟨_, hrun _ _ _ h0 h1, by rw [add_at]; exact View.to_ep _ (sl_ep hx hne)⟩
      · cases h
    · split at h
      · rename_i hc
        obtain ⟨hs1, h0, h1, hpos⟩ := hc
        cases h
        cases hx with
        | bs hp hcx => exact ⟨_, hrun _ _ _ h0 h1, by rw [add_at]; exact .ptr hp⟩
      · cases h
    · rename_i kk gg off sz nn
      split at h
      · rename_i hc
        obtain ⟨hs1, h0, h1, hpos⟩ := hc
        cases h
        cases hx with
        | row hk hg hn ha hc =>
          rename_i c gc b o C a
          have hc0 : c ≠ 0 := by omega
          obtain ⟨b', o', rfl⟩ := ha hc0
          refine ⟨_, hrun _ _ _ h0 h1, ?_⟩
          rw [add_at]
          refine .rp hk hg (fun e => ?_)
          have := (hc e).2 hc0
          cases this
          exact ⟨rfl, by omega⟩
      · cases h
    · cases h
  · split at h
    case h_2 => cases h
    rename_i len e ha
    have ht := arrT_some ha
    split at h
    case h_2 => cases h
    rename_i ei hei
    obtain ⟨_, j, _, hj, _, _, hsz, _⟩ := ti_some hei
    split at h
    case isFalse => cases h
    rename_i hc
    obtain ⟨h0, h1⟩ := hc
    have hrun : ∀ (ad : Addr), (Instr.indexAt t (.pointer (some ad)) (.int k i)).run P w = .ok (.pointer (some (ad.add (i.toNat * ei.size)))) w := by
      intro ad
      simp [Instr.indexAt, asIntOf, run_underlying ht, Instr.sureAddr, h0, h1, run_sizeOf w hj, hsz]
    split at h
    · cases h
      cases hx with
      | ptr hp => exact ⟨_, hrun _, by rw [add_at]; exact .ptr hp⟩
    · cases h
      obtain ⟨b, o, rfl, _⟩ := view_ep hx
      exact ⟨_, hrun _, by rw [add_at]; exact View.to_ep _ hx⟩
    · cases h
      cases hx with
      | rp hk hg hc => exact ⟨_, hrun _, by rw [add_at]; exact .rp hk hg (fun e => by obtain ⟨rfl, rfl⟩ := hc e; exact ⟨rfl, by omega⟩)⟩
    · cases h

theorem indexA_sound {t : TypeId} {x y : Value} {p q av : AV} (hx : AVR G w x p) (hy : AVR G w y q) (h : indexA P t p q = some av) : ∃ v, (Instr.index t x y).run P w = .ok v w ∧ AVR G w v av := by
  unfold indexA at h
  split at h
  · rename_i cs
    split at h
    · rename_i i len e hi ha
      split at h
      · rename_i ei hei
        split at h
        · rename_i hc
          obtain ⟨h0, h1⟩ := hc
          obtain ⟨k, rfl⟩ := intA_sound hy hi
          have ht := arrT_some ha
          obtain ⟨_, j, _, hj, _, _, hsz, _⟩ := ti_some hei
          cases hx with
          | agg hl hr =>
          obtain ⟨v, hv, hav⟩ := partA_sound hl hr h
          refine ⟨v, ?_, hav⟩; simp [Instr.index, asIntOf, run_underlying ht, h0, h1, run_sizeOf w hj, ← hsz, hv]
        · cases h
      · cases h
    · cases h
  · split at h
    · rename_i z _ u
      split at h
      · rename_i r hr
        split at h
        · cases h
          rw [hx.v_eq, hy.v_eq]
          exact ⟨r, pureRun_run P w _ _ hr, .v (by assumption)⟩
        · cases h
      · cases h
    · cases h
  · cases h

theorem fieldA_sound {t : TypeId} {f : Nat} {x : Value} {p av : AV} (hx : AVR G w x p) (h : fieldA P t p f = some av) : ∃ v, (Instr.field t x f).run P w = .ok v w ∧ AVR G w v av := by
  unfold fieldA at h
  split at h
  · rename_i cs o ft hf
    obtain ⟨fs, fx, hd, hfx, rfl, rfl⟩ := fieldT_some hf
    cases hx with
    | agg hl hr =>
    obtain ⟨v, hv, hav⟩ := partA_sound hl hr h
    refine ⟨v, ?_, hav⟩; simp [Instr.field, run_underlying hd, hfx, asAgg, hv]
  · cases h

theorem lenA_sound {t : TypeId} {ty : TypeId} {x : Value} {p av : AV} (hx : AVR G w x p) (h : lenA P t p = some av) : ∃ v, (Builtin.len_ #[t] ty #[x]).run P w = .ok v w ∧ AVR G w v av := by
  unfold lenA at h
  split at h
  · cases he : elemT P t with
    | none => simp [he] at h
    | some e =>
      simp [he] at h
      subst h
      obtain ⟨ax, cx, xs, rfl, _⟩ := sl_cells hx
      exact ⟨_, by simp [Builtin.len_, run_underlying (elemT_some he), goInt], .v rfl⟩
  · cases he : elemT P t with
    | none => simp [he] at h
    | some e =>
      simp [he] at h
      subst h
      cases hx with
      | bs hp hc => exact ⟨_, by simp [Builtin.len_, run_underlying (elemT_some he), goInt], .v rfl⟩
  · cases he : elemT P t with
    | none => simp [he] at h
    | some e =>
      simp [he] at h
      subst h
      cases hx with
      | row => exact ⟨_, by simp [Builtin.len_, run_underlying (elemT_some he), goInt], .v rfl⟩
  · split at h
    · rename_i s hs
      cases h
      have := hx.v_eq
      subst this
      have hd : P.underlying t = some .string := by
        unfold isStrT at hs
        split at hs
        · assumption
        · cases hs
      exact ⟨_, by simp [Builtin.len_, run_underlying hd, goInt], .v rfl⟩
    · cases h
  · split at h
    · rename_i n e ha
      cases h
      exact ⟨_, by simp [Builtin.len_, run_underlying (arrT_some ha), goInt], .v rfl⟩
    · cases h

end

end Go.Vm
