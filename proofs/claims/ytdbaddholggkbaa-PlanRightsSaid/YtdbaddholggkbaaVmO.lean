import Derived.Test.YtdbaddholggkbaaVmF
import Derived.Laws.MakeOwn
/-
  Rows: made, written, cut, copied, cleared.
-/
namespace Go.Vm
set_option linter.unnecessarySimpa false
set_option linter.unusedSimpArgs false
set_option linter.unusedVariables false
open Go
variable {P : Program} {G : Gh} {w : World} {σ : St}

theorem intT_some {t : TypeId} {k : IntKind} (h : intT P t = some k) : P.underlying t = some (.int k) := by
  unfold intT at h
  split at h
  · cases h; assumption
  · cases h

theorem zeros_sound {e : TypeId} {n : Nat} {ys : List AV} {i : TI} (hi : ti P e = some i) (h : zerosA P e n = some ys) :
    ∃ news : List Value, (Builtin.zeroCells i.zero.cells n).toList = news ∧ 0 < i.size ∧ i.zero.cells.size = i.size ∧ news.length = n * i.size ∧ ys.length = n * i.size ∧ (∀ (j : Nat) x b, news[j]? = some x → ys[j]? = some b → AVR G w x b) ∧ (∀ u ∈ news, u.oneCell' = true) := by
  unfold zerosA at h
  rw [hi] at h
  split at h
  case h_2 => cases h
  rename_i i' z hii hz
  cases hii
  split at h
  case isFalse => cases h
  rename_i hc
  obtain ⟨hpos, hl, hall⟩ := hc
  cases h
  have hzv : AVR G w i.zero z := by
    unfold zeroA at hz
    rw [hi] at hz
    exact ofValue_sound hz
  obtain ⟨hce, hcr⟩ := hzv.cells_eq
  have hcs : i.zero.cells.size = i.size := by rw [hce, hl]
  have key : ∀ (j : Nat) x, (Builtin.zeroCells i.zero.cells n).toList[j]? = some x → j < n * i.size ∧ i.zero.cells[j % i.size]? = some x := by
    intro j x hx
    have hj : j < n * i.size := by
      have := (List.getElem?_eq_some_iff.1 hx).1
      simpa [Builtin.zeroCells, hcs] using this
    have hm : j % i.zero.cells.size < i.zero.cells.size := Nat.mod_lt _ (by omega)
    refine ⟨hj, ?_⟩
    simp [Builtin.zeroCells, hcs, hj] at hx
    rw [hcs] at hm
    rw [← hx, getElem!_pos i.zero.cells (j % i.size) (by omega)]
    exact Array.getElem?_eq_getElem _
  refine ⟨_, rfl, hpos, hcs, by simp [Builtin.zeroCells, hcs], by simp, fun j x b hx hb => ?_, fun u hu => ?_⟩
  · obtain ⟨hj, hx2⟩ := key j x hx
    refine hcr (j % i.size) _ _ hx2 ?_
    simp [hj] at hb
    rw [getD_mod z.cells j i.size hl hpos, ← hb]
    simp [List.getD]
  · obtain ⟨j, hj, rfl⟩ := List.getElem_of_mem hu
    obtain ⟨hj2, hx2⟩ := key j _ (List.getElem?_eq_getElem hj)
    have hm : j % i.size < z.cells.length := by rw [hl]; exact Nat.mod_lt _ hpos
    exact (hcr (j % i.size) _ _ hx2 (List.getElem?_eq_getElem hm)).oneCell (List.all_eq_true.1 hall _ (List.getElem_mem hm))

theorem run_appendZ {m : Nat} {t u ty e : TypeId} {i : TypeInfo} {ku kx : IntKind} {z : Value} (ht : P.underlying t = some (.slice e)) (hu : P.underlying u = some (.int ku)) (hi : P.info? e = some i) (hz : i.zero = some z) (hzs : z.cells.size = i.size) (hpos : 0 < i.size) (hz1 : ∀ v ∈ (Builtin.zeroCells z.cells m).toList, v.oneCell' = true)
    (a : Option Addr) (n c : Nat) (hnc : n ≤ c) (h63 : ((n + m : Nat) : Int) ≤ 9223372036854775807) (hb : (n + m) * i.bytes ≤ roomA) (hm63 : (m : Int) ≤ 9223372036854775807) :
    (n + m ≤ c → m = 0 → (Builtin.append_ #[t, u] ty #[.slice a n c, .int kx m]).run P w = .ok (.slice a n c) w) ∧
    (n + m ≤ c → 0 < m → ∀ b o cur el, a = some ⟨b, o, none⟩ → w.heap[b]? = some (.cells cur el (0, 0)) → o + n * i.size + (Builtin.zeroCells z.cells m).toList.length ≤ cur.size →
      (Builtin.append_ #[t, u] ty #[.slice a n c, .int kx m]).run P w = .ok (.slice (some ⟨b, o, none⟩) (n + m) c) (w.setRow b (cur.toList.take (o + n * i.size) ++ (Builtin.zeroCells z.cells m).toList ++ cur.toList.drop (o + n * i.size + (Builtin.zeroCells z.cells m).toList.length)).toArray)) ∧
    (c < n + m → (a = none → n = 0) → ∀ olds : List Value, olds.length = n * i.size → (∀ j v, olds[j]? = some v → ∃ b o, a = some ⟨b, o, none⟩ ∧ w.cell? ⟨b, o + j, none⟩ = some v) →
      (Builtin.append_ #[t, u] ty #[.slice a n c, .int kx m]).run P w = .ok (.slice (some ⟨w.heap.size, 0, none⟩) (n + m) (grownCap w (n + m) c e)) (w.drew.alloc (.cells (olds.toArray ++ (Builtin.zeroCells z.cells m).toList.toArray ++ Builtin.zeroCells z.cells (grownCap w (n + m) c e - (n + m))) e))) := by
  have hw : IntKind.i64.wrap (m : Int) = m := by rw [IntKind.wrap_i64]; omega
  have hneg : ¬ ((m : Int) < 0) := by omega
  have hmb : m * i.bytes ≤ 140737488355328 := Nat.le_trans (Nat.mul_le_mul_right _ (Nat.le_add_left m n)) hb
  have h48i : ¬ (281474976710656 < (m : Int) * (i.bytes : Int)) := by
    rw [← Int.natCast_mul]; omega
  refine ⟨fun hroom hm0 => ?_, fun hroom hm0 b o cur el ha hbk hfit => ?_, fun hgr hn0 olds hol hold => ?_⟩
  · subst hm0
    have hroom' : n ≤ c := hnc
    cases a <;> simp [Builtin.append_, run_underlying ht, run_underlying hu, sizeOf, typeInfo, zeroValue, hi, hz, asInt, asIntOf, hw, hneg, h48i, hroom', storeCells, IntKind.wrap_i64]
  · subst ha
    have hns : ¬ (m * i.size = 0) := Nat.mul_ne_zero (by omega) (by omega)
    have hst := run_storeCells_at P b (o + n * i.size) el (Builtin.zeroCells z.cells m).toList 0 cur w hbk (by simpa using hfit) hz1
    simp only [Nat.add_zero] at hst
    simp [Builtin.append_, run_underlying ht, run_underlying hu, sizeOf, typeInfo, zeroValue, hi, hz, asInt, asIntOf, hw, hneg, h48i, hroom, hns, add_at, hst]
  · have hns : ¬ (m * i.size = 0) := Nat.mul_ne_zero (by omega) (by omega)
    have hng : ¬ (n + m ≤ c) := by omega
    have h63' : ¬ (9223372036854775807 < ((n : Int) + (m : Int))) := by omega
    have hfit : Builtin.nextslicecap (n + m) c * i.bytes ≤ 281474976710656 := growslice_fits hgr hb
    have h48' : ¬ (281474976710656 < Builtin.nextslicecap (n + m) c * i.bytes) := by omega
    cases a with
    | none =>
      have := hn0 rfl
      subst this
      have hols : olds = [] := List.eq_nil_of_length_eq_zero (by simpa using hol)
      subst hols
      have hng0 : ¬ (m ≤ c) := by omega
      have h630 : ¬ (9223372036854775807 < (m : Int)) := by omega
      have h480 : ¬ (281474976710656 < Builtin.nextslicecap m c * i.bytes) := by simpa using h48'
      simp [Builtin.append_, run_underlying ht, run_underlying hu, sizeOf, typeInfo, zeroValue, hi, hz, asInt, asIntOf, hw, hneg, h48i, hng0, hns, h630, h480, Question.forced, run_firstCells_none, newRow, grownCap]
    | some b0 =>
      have hfo := run_firstCells_some (P := P) w.drew i.size n b0 n c olds hol (fun j v hj => by
        obtain ⟨b, o, e1, e2⟩ := hold j v hj
        cases e1
        rw [add_at]; simpa using e2)
      simp [Builtin.append_, run_underlying ht, run_underlying hu, sizeOf, typeInfo, zeroValue, hi, hz, asInt, asIntOf, hw, hneg, h48i, hng, hns, h63', h48', Question.forced, hfo, newRow, grownCap]

theorem row_slice {x : Value} {k g off sz n : Nat} (hx : AVR G w x (.row k g off sz n)) : ∃ a c, x = .slice a n c ∧ n ≤ c ∧ (c ≠ 0 → ∃ b' o', a = some ⟨b', o', none⟩) := by
  cases hx with
  | row _ _ hn ha _ => exact ⟨_, _, rfl, hn, ha⟩

theorem appendZA_sound {σ' : St} {t u ty : TypeId} {ku : IntKind} {x y : Value} {s a av : AV} (hS : RelS G w σ) (hx : AVR G w x s) (hy : AVR G w y a) (hu : intT P u = some ku) (h : appendZA P t s a σ = some (av, σ')) :
    ∃ v w' G', (Builtin.append_ #[t, u] ty #[x, y]).run P w = .ok v w' ∧ Ext G w G' w' ∧ RelS G' w' σ' ∧ AVR G' w' v av := by
  unfold appendZA at h
  split at h
  case h_2 => cases h
  rename_i k g off sz n mi hmi
  split at h
  case h_2 => cases h
  rename_i e he
  split at h
  case h_2 => cases h
  rename_i i ys hi hys
  split at h
  case isFalse => cases h
  rename_i hc
  obtain ⟨h0, hsz, hpos, hbytes, hmax, hm63, hzc⟩ := hc
  have ht := elemT_some he
  obtain ⟨d, j, hd, hj, hz, hag, hsize, hby⟩ := ti_some hi
  obtain ⟨news, hnews, _, hzs, hnl, hyl, hnr, hn1⟩ := zeros_sound (G := G) (w := w) hi hys
  obtain ⟨kx, rfl⟩ := intA_sound hy hmi
  obtain ⟨m, rfl⟩ : ∃ m : Nat, mi = m := ⟨mi.toNat, by omega⟩
  simp only [Int.toNat_natCast] at *
  obtain ⟨ax, c, rfl, hnc, ha⟩ := row_slice hx
  have hzc2 := hzc
  simp only [zeroCell, Bool.and_eq_true, beq_iff_eq, List.all_eq_true] at hzc2
  subst hsz
  obtain ⟨r1, r2, r3⟩ := run_appendZ (P := P) (w := w) (m := m) (ty := ty) (kx := kx) ht (intT_some hu) hj hz (by rw [hzs, hsize]) (by rw [← hsize]; exact hpos) (by rw [hnews]; exact hn1) ax n c hnc (by simp only [maxLen] at hmax; omega) (by rw [← hby]; exact hbytes) hm63
  refine rowApp_sound (e := e) (zc := i.zero.cells) (news := news) hS hx hpos hyl (by rw [hnl, hyl]) hnr hn1 hzs hzc2.2 r1 (fun hr hm b o cur el hax hb hfit => ?_) (fun hgr olds hol hold => ⟨_, grownCap_ge w (n + m) c e, ?_⟩) h
  · have := r2 hr hm b o cur el hax hb (by rw [hnews, ← hsize]; exact hfit)
    rw [hnews, ← hsize] at this
    exact this
  · have := r3 hgr (fun hax => by
      apply Classical.byContradiction
      intro hn0
      obtain ⟨_, _, e⟩ := ha (by omega)
      rw [hax] at e; cases e) olds (by rw [← hsize]; exact hol) hold
    rw [hnews] at this
    exact this

theorem sl_empty_full {x : Value} {sz n : Nat} (hx : AVR G w x (.sl sz [] n .full)) : ∃ a c, x = .slice a n c ∧ c = n := by
  cases hx with
  | sl0 ht => exact ⟨_, _, rfl, ht⟩
  | sl xs hl hn hc hs hxx h ht => exact ⟨_, _, rfl, ht⟩

theorem appendRowA_sound {σ' : St} {t ty : TypeId} {x y : Value} {s a av : AV} (hS : RelS G w σ) (hx : AVR G w x s) (hy : AVR G w y a) (h : appendRowA P t s a σ = some (av, σ')) :
    ∃ v w' G', (Builtin.append_ #[t, t] ty #[x, y]).run P w = .ok v w' ∧ Ext G w G' w' ∧ RelS G' w' σ' ∧ AVR G' w' v av := by
  unfold appendRowA at h
  split at h
  case h_2 => cases h
  rename_i sz cs n sy ys m hread
  split at h
  case h_2 => cases h
  rename_i e he
  split at h
  case h_2 => cases h
  rename_i i hi
  split at h
  case isFalse => cases h
  rename_i hc
  obtain ⟨rfl, rfl, hsy, hpos, hbytes, hmax, hzc⟩ := hc
  cases h
  have ht := elemT_some he
  obtain ⟨d, j, hd, hj, hz, hag, hsize, hby⟩ := ti_some hi
  obtain ⟨ay, cy, news, rfl, hmcy, hyl, hnl, hnr, hn1, hnc⟩ := read_cells hS hy hread
  simp only [zeroCell, Bool.and_eq_true, beq_iff_eq, List.all_eq_true] at hzc
  obtain ⟨hzs, hz1⟩ := hzc
  have hyl' : ys.length = m * i.size := by
    rcases hsy with e | e
    · rw [← e]; exact hyl
    · subst e; simpa using hyl
  obtain ⟨ax, cx, rfl, rfl⟩ := sl_empty_full hx
  have hnl' : news.length = m * j.size := by rw [hnl, hyl', hsize]
  have h63 : ((0 + m : Nat) : Int) ≤ 9223372036854775807 := by simp only [maxLen] at hmax; omega
  -- a row of no memory of its own, first
  by_cases hm0 : m = 0
  · subst hm0
    have hys : ys = [] := List.eq_nil_of_length_eq_zero (by simpa using hyl')
    subst hys
    let G' : Gh := { G with rw := fun i' => if i' = σ.rows.length then some (0, 0, 0, 0) else G.rw i' }
    have hE : Ext G w G' w := by
      refine ⟨rfl, rfl, rfl, rfl, Nat.le_refl _, fun _ c _ _ h => ⟨c, h, rfl, fun _ _ => rfl⟩, fun _ _ h _ => h, fun _ _ h => h, fun _ _ _ h => h, fun _ _ h => h, fun _ m r h => ⟨m, r, h, Nat.le_refl _, fun _ => rfl⟩, fun q m r hq => ⟨m, r, ?_, Nat.le_refl _, fun _ => rfl⟩⟩
      show (if q = _ then _ else _) = _
      rw [if_neg (fun e => by subst e; exact rw_fresh hS _ hq)]; exact hq
    refine ⟨_, w, G', run_append_same (w := w) ht hj ax ay 0 0 cy (Nat.le_refl _), hE, ⟨?_, hS.inj, hS.tok, hS.fresh, fun g cs2 hg => (hS.gl g cs2 hg).mono hE, hS.tot, hS.totk, ?_, ?_⟩, .row (if_pos rfl) (Nat.le_refl _) (Nat.le_refl _) (fun h => (h rfl).elim) (fun _ => ⟨by simp, fun h => (h rfl).elim⟩)⟩
    · intro id b hp
      obtain ⟨c2, e2, cs2, h1, h2, h3, h4, h5⟩ := hS.obj id b hp
      exact ⟨c2, e2, cs2, h1, h2, h3, h4, fun j x a hx ha => (h5 j x a hx ha).mono hE⟩
    · intro q gc b o C hq
      have hq' : (if q = σ.rows.length then some (0, 0, 0, 0) else G.rw q) = some (gc, b, o, C) := hq
      by_cases hql : q = σ.rows.length
      · subst hql
        rw [if_pos rfl] at hq'
        cases hq'
        exact ⟨⟨0, [], none⟩, by simp, rfl, by simp, ⟨fun s e => (by cases e), fun h => (by omega)⟩⟩
      · rw [if_neg hql] at hq'
        obtain ⟨r, h1, h2, h3, h4, h5⟩ := hS.row q gc b o C hq'
        refine ⟨r, by show (σ.rows ++ _)[q]? = _; rw [List.getElem?_append_left (List.getElem?_eq_some_iff.1 h1).1]; exact h1, h2, h3, h4, fun hC => ?_⟩
        obtain ⟨c2, e2, g1, g2, g3, g4, g5⟩ := h5 hC
        exact ⟨c2, e2, g1, g2, g3, g4, fun j x a hx ha => (g5 j x a hx ha).mono hE⟩
    · intro q hq
      show ∃ p, (if q = σ.rows.length then some (0, 0, 0, 0) else G.rw q) = some p
      by_cases hql : q = σ.rows.length
      · rw [if_pos hql]; exact ⟨_, rfl⟩
      · rw [if_neg hql]; exact hS.totr q (by simp at hq; omega)
  · have hysne : ys ≠ [] := by
      intro e; subst e
      have : m * i.size = 0 := by simpa using hyl'.symm
      rcases Nat.mul_eq_zero.1 this with h | h <;> omega
    obtain ⟨by', oy, rfl, hcy⟩ := hnc hysne
    have hnews : ∀ j u, news[j]? = some u → w.cell? ((⟨by', oy, none⟩ : Addr).add j) = some u := fun j u hj => by rw [add_at]; exact hcy j u hj
    have hrun : (Builtin.append_ #[t, t] ty #[.slice ax 0 0, .slice (some ⟨by', oy, none⟩) m cy]).run P w = .ok (.slice (some ⟨w.heap.size, 0, none⟩) m (grownCap w m 0 e))
        (w.drew.alloc (.cells (news.toArray ++ Builtin.zeroCells i.zero.cells (grownCap w m 0 e - m)) e)) := by
      cases ax with
      | none => exact run_append_nil (P := P) w t ty e j i.zero ht hj hz ⟨by', oy, none⟩ m cy news hnl' hnews (by omega) (by simpa using h63) (by rw [← hby]; unfold roomA at hbytes; omega)
      | some b0 =>
        have hfit : Builtin.nextslicecap (0 + m) 0 * j.bytes ≤ 281474976710656 := growslice_fits (by omega) (by rw [← hby, Nat.zero_add]; exact hbytes)
        have := run_append_grow (P := P) w t ty e j i.zero ht hj hz b0 0 0 [] (by simp) (by simp) ⟨by', oy, none⟩ m cy news hnl' hnews (by omega) h63 hfit
        simpa using this
    have hge := grownCap_ge w m 0 e
    have hcs2 : (news.toArray ++ Builtin.zeroCells i.zero.cells (grownCap w m 0 e - m)).size = grownCap w m 0 e * i.size := by
      simp only [Array.size_append, List.size_toArray, size_zeroCells, hzs, hnl', ← hsize]
      rw [← Nat.add_mul]; congr 1; omega
    have hone2 : ∀ (q : Nat) x, (news.toArray ++ Builtin.zeroCells i.zero.cells (grownCap w m 0 e - m))[q]? = some x → x.oneCell' = true := by
      intro q x hx
      have hmem : x ∈ (news.toArray ++ Builtin.zeroCells i.zero.cells (grownCap w m 0 e - m)) := by
        obtain ⟨h8, h9⟩ := Array.getElem?_eq_some_iff.1 hx
        rw [← h9]; exact Array.getElem_mem h8
      rw [Array.mem_append] at hmem
      rcases hmem with h6 | h6
      · exact hn1 x (by simpa using h6)
      · refine hz1 x ?_
        simp only [Builtin.zeroCells, Array.mem_map] at h6
        obtain ⟨j, _, rfl⟩ := h6
        have hzpos : 0 < i.zero.cells.size := by omega
        rw [getElem!_pos i.zero.cells (j % i.zero.cells.size) (Nat.mod_lt _ hzpos)]
        simp
    have hrel2 : ∀ (j : Nat) x a2, (news.toArray ++ Builtin.zeroCells i.zero.cells (grownCap w m 0 e - m))[j]? = some x → ys[j]? = some a2 → AVR G w x a2 := by
      intro j x a2 hx ha2
      have hlt := (List.getElem?_eq_some_iff.1 ha2).1
      rw [Array.getElem?_append_left (by simp; omega)] at hx
      exact hnr j x a2 (by simpa using hx) ha2
    generalize (news.toArray ++ Builtin.zeroCells i.zero.cells (grownCap w m 0 e - m)) = c2 at hrun hcs2 hone2 hrel2
    have hcm : m * i.size ≤ grownCap w m 0 e * i.size := Nat.mul_le_mul_right _ hge
    obtain ⟨G', f1, f2, f3⟩ := row_push hS.drew e c2 ys none (by omega) (fun s e => by cases e) hone2 (fun j x a2 hx ha2 => (hrel2 j x a2 hx ha2).mono (ext_drew G w))
    refine ⟨_, _, G', hrun, (ext_drew G w).trans f1, f2, .row f3 (Nat.le_refl _) hge (fun _ => ⟨_, _, rfl⟩) (fun _ => ⟨by rw [hcs2]; omega, fun _ => rfl⟩)⟩

theorem makeA_sound {σ' : St} {t : TypeId} {x y : Value} {l c av : AV} (hS : RelS G w σ) (hx : AVR G w x l) (hy : AVR G w y c) (h : makeA P t l c σ = some (av, σ')) :
    ∃ v w' G', (Instr.makeSlice t x y).run P w = .ok v w' ∧ Ext G w G' w' ∧ RelS G' w' σ' ∧ AVR G' w' v av := by
  unfold makeA at h
  split at h
  case h_2 => cases h
  rename_i e li ci he hli hci
  split at h
  case h_2 => cases h
  rename_i i ys hi hys
  split at h
  case isFalse => cases h
  rename_i hc
  obtain ⟨h0, rfl, h63, hbytes⟩ := hc
  cases h
  have ht := elemT_some he
  obtain ⟨d, j, hd, hj, hz, hag, hsize, hby⟩ := ti_some hi
  obtain ⟨kx, rfl⟩ := intA_sound hx hli
  obtain ⟨ky, rfl⟩ := intA_sound hy hci
  obtain ⟨m, rfl⟩ : ∃ m : Nat, li = m := ⟨li.toNat, by omega⟩
  simp only [Int.toNat_natCast] at *
  obtain ⟨news, hnews, hpos, hzs, hnl, hyl, hnr, hn1⟩ := zeros_sound (G := G) (w := w) hi hys
  have hb2 : (j.bytes : Int) * (m : Int) ≤ 281474976710656 := by
    rw [← hby, Int.mul_comm, ← Int.natCast_mul]
    unfold roomA at hbytes; omega
  have hrun := run_make (P := P) w t e j i.zero ht hj hz kx ky m m h0 (Int.le_refl _) hb2 h63
  simp only [Int.toNat_natCast] at hrun
  have hmade : madeCells i.zero.cells (m * j.size) = news.toArray := by
    rw [← hnews, ← hsize]
    simp only [madeCells, Builtin.zeroCells, hzs, Array.toArray_toList]
  rw [hmade] at hrun
  obtain ⟨G', f1, f2, f3⟩ := row_push hS e news.toArray ys (some 0) (by simp [hnl, hyl]) (fun s e => by cases e; simp [hnl, hyl]) (fun q x hx => hn1 x (List.mem_of_getElem? (by simpa using hx))) (fun j x a2 hx ha2 => hnr j x a2 (by simpa using hx) ha2)
  refine ⟨_, _, G', hrun, f1, f2, .row f3 (Nat.le_refl _) (Nat.le_refl _) (fun _ => ⟨_, _, rfl⟩) (fun _ => ⟨by simp [hnl], fun _ => rfl⟩)⟩

/-- What a row that is looked at holds. -/
theorem row_look {x : Value} {k g off sz n : Nat} {r : RowSt} (hS : RelS G w σ) (hx : AVR G w x (.row k g off sz n)) (hr : σ.rows[k]? = some r) (hg : r.gen = g) :
    ∃ a c b o C, x = .slice a n c ∧ n ≤ c ∧ G.rw k = some (g, b, o, C) ∧ off + c * sz = C ∧ (c ≠ 0 → a = some ⟨b, o + off, none⟩) ∧ r.cells.length ≤ C ∧ (∀ s, r.spare = some s → r.cells.length + s = C) ∧
      (0 < C → ∃ cur e, w.heap[b]? = some (.cells cur e (0, 0)) ∧ o + C ≤ cur.size ∧ (∀ j, j < C → G.tag b (o + j) = .row k) ∧ (∀ (j : Nat) x, j < C → cur[o + j]? = some x → x.oneCell' = true) ∧
        ∀ (j : Nat) x a, cur[o + j]? = some x → r.cells[j]? = some a → AVR G w x a) := by
  cases hx with
  | row hk hgc hn ha hc =>
    rename_i c gc b o C a
    obtain ⟨r', h1, h2, h3, h4, h5⟩ := hS.row _ _ _ _ _ hk
    rw [hr] at h1; cases h1
    obtain rfl : g = gc := by omega
    obtain ⟨hc1, hc2⟩ := hc rfl
    exact ⟨a, c, b, o, C, rfl, hn, hk, hc1, hc2, h3, h4, h5⟩

/-- Cells of a row are written. -/
theorem row_write {k g off sz n : Nat} {r : RowSt} {x : Value} (hS : RelS G w σ) (hx : AVR G w x (.row k g off sz n)) (hr : σ.rows[k]? = some r) (hg : r.gen = g) (vs : List AV) (news : List Value) (hl : news.length = vs.length) (hfit : off + vs.length ≤ r.cells.length)
    (hvn : vs.length ≤ n * sz) (hnr : ∀ (j : Nat) x b, news[j]? = some x → vs[j]? = some b → AVR G w x b) (hn1 : ∀ u ∈ news, u.oneCell' = true) :
    ∃ a c w', x = .slice a n c ∧ (vs ≠ [] → ∃ b o, a = some ⟨b, o, none⟩) ∧ (vs = [] → w' = w) ∧ (∀ b o, a = some ⟨b, o, none⟩ → (storeCells ⟨b, o, none⟩ news).run P w = .ok () w') ∧ Ext G w G w' ∧ RelS G w' { σ with rows := σ.rows.set k { r with cells := splice r.cells off vs } } := by
  obtain ⟨a, c, b, o, C, rfl, hnc, hk, hc1, hc2, h3, h4, h5⟩ := row_look hS hx hr hg
  by_cases h0 : vs = []
  · subst h0
    have hn0 : news = [] := List.eq_nil_of_length_eq_zero (by simpa using hl)
    subst hn0
    have hsp : splice r.cells off [] = r.cells := by simp [splice]
    have hset : ({ σ with rows := σ.rows.set k { r with cells := splice r.cells off [] } } : St) = σ := by
      rw [hsp]
      have : σ.rows.set k r = σ.rows := by
        apply List.ext_getElem?
        intro q
        by_cases hq : k = q
        · subst hq; rw [List.getElem?_set_self (List.getElem?_eq_some_iff.1 hr).1, hr]
        · rw [List.getElem?_set_ne hq]
      show ({ σ with rows := σ.rows.set k r } : St) = σ
      rw [this]
    rw [hset]
    exact ⟨a, c, w, rfl, fun h => (h rfl).elim, fun _ => rfl, fun b o _ => by simp [storeCells], .refl _ _, hS⟩
  · have hlv : 0 < vs.length := List.length_pos_iff.2 h0
    have hmul : n * sz ≤ c * sz := Nat.mul_le_mul_right _ hnc
    have hc0 : c ≠ 0 := by
      intro e; subst e; simp at hmul
      omega
    obtain ⟨cur, el, g1, g2, g3, g4, g5⟩ := h5 (by omega)
    have hax := hc2 hc0
    subst hax
    have hst := run_storeCells_at P b (o + off) el news 0 cur w g1 (by omega) hn1
    simp only [Nat.add_zero] at hst
    have hget : ∀ q : Nat, ((cur.toList.take (o + off) ++ news ++ cur.toList.drop (o + off + news.length)).toArray)[q]? = if o + off ≤ q ∧ q < o + off + news.length then news[q - (o + off)]? else cur[q]? := by
      intro q
      have := splice_get cur.toList (o + off) news (by simp [hl]; omega) q
      simpa using this
    have hsz2 : ((cur.toList.take (o + off) ++ news ++ cur.toList.drop (o + off + news.length)).toArray).size = cur.size := by
      simp [hl]; omega
    generalize ((cur.toList.take (o + off) ++ news ++ cur.toList.drop (o + off + news.length)).toArray) = cur' at hst hget hsz2
    have hlen := splice_length r.cells off vs hfit
    have hrt := row_turn hS (w' := w.setRow b cur') (r' := { r with cells := splice r.cells off vs }) hk (.inl ⟨rfl, rfl, rfl⟩) (Nat.le_refl _) (Nat.le_refl _) hg (by simp only [hlen]; omega) (fun s hs => by simp only [hlen]; exact h4 s hs)
      (.inr ⟨cur, cur', el, rfl, g1, hsz2, fun q hq => by rw [hget q, if_neg (by omega)], fun q x h6 h7 hx => by
        rw [hget q] at hx
        split at hx
        · exact hn1 x (List.mem_of_getElem? hx)
        · exact g4 (q - o) x (by omega) (by rw [← hx]; congr 1; omega), fun q x a hx ha => by
        rw [hget] at hx
        simp only at ha
        unfold splice at ha
        rw [splice_get r.cells off vs hfit q] at ha
        by_cases hin : off ≤ q ∧ q < off + vs.length
        · rw [if_pos hin] at ha
          rw [if_pos (by omega)] at hx
          exact hnr _ _ _ (by rw [← hx]; congr 1; omega) ha
        · rw [if_neg hin] at ha
          rw [if_neg (by omega)] at hx
          exact g5 _ _ _ hx ha⟩)
    rw [turnRow_self hk] at hrt
    exact ⟨_, c, _, rfl, fun _ => ⟨_, _, rfl⟩, fun h => (h0 h).elim, fun b2 o2 e => by cases e; exact hst, hrt.1, hrt.2⟩

theorem copyA_sound {σ' : St} {t u ty : TypeId} {x y : Value} {s a av : AV} (hS : RelS G w σ) (hx : AVR G w x s) (hy : AVR G w y a) (h : copyA P t s a σ = some (av, σ')) :
    ∃ v w' G', (Builtin.copy_ #[t, u] ty #[x, y]).run P w = .ok v w' ∧ Ext G w G' w' ∧ RelS G' w' σ' ∧ AVR G' w' v av := by
  unfold copyA at h
  split at h
  case h_2 => cases h
  rename_i k g off sz n sy ys m hread
  split at h
  case h_2 => cases h
  rename_i e he
  split at h
  case h_2 => cases h
  rename_i i r hi hr
  split at h
  case isFalse => cases h
  rename_i hc
  obtain ⟨rfl, hsy, hpos, hg, hfit, hmax⟩ := hc
  cases h
  have ht := elemT_some he
  obtain ⟨d, j, hd, hj, hz, hag, hsize, hby⟩ := ti_some hi
  obtain ⟨ay, cy, news, rfl, hmcy, hyl, hnl, hnr, hn1, hnc⟩ := read_cells hS hy hread
  have hyl' : ys.length = m * i.size := by
    rcases hsy with e | e
    · rw [← e]; exact hyl
    · subst e; simpa using hyl
  have hq1 : min m n * i.size ≤ m * i.size := Nat.mul_le_mul_right _ (Nat.min_le_left _ _)
  have hq2 : min m n * i.size ≤ n * i.size := Nat.mul_le_mul_right _ (Nat.min_le_right _ _)
  have hlt : (ys.take (min m n * i.size)).length = min m n * i.size := by simp; omega
  obtain ⟨ax, c, w', rfl, hbase, hsame, hst, hE, hS'⟩ := row_write (P := P) hS hx hr hg (ys.take (min m n * i.size)) (news.take (min m n * i.size)) (by simp [hnl]) (by rw [hlt]; omega) (by rw [hlt]; exact hq2) (fun q x b hx hb => by
      rw [List.getElem?_take] at hx hb
      split at hx
      · rename_i hq
        rw [if_pos hq] at hb
        exact hnr q x b hx hb
      · cases hx) (fun u hu => hn1 u (List.mem_of_mem_take hu))
  have hld : (Builtin.firstCells j.size (Nat.min m n) (.slice ay m cy)).run P w = .ok (news.take (min m n * i.size)).toArray w := by
    cases ay with
    | none =>
      have hys : ys = [] := by
        apply Classical.byContradiction
        intro hne
        obtain ⟨_, _, e, _⟩ := hnc hne
        cases e
      have hn0 : news = [] := List.eq_nil_of_length_eq_zero (by rw [hnl, hys]; rfl)
      rw [hn0]
      simp [run_firstCells_none]
    | some b0 =>
      refine run_firstCells_some (P := P) w j.size (Nat.min m n) b0 m cy (news.take (min m n * i.size)) (by simp only [List.length_take, hnl, hyl', ← hsize]; exact Nat.min_eq_left hq1) (fun q v hq => ?_)
      rw [List.getElem?_take] at hq
      split at hq
      · have hne : ys ≠ [] := fun e => by rw [e] at hnl; have := List.eq_nil_of_length_eq_zero hnl; subst this; simp at hq
        obtain ⟨b, o, e, hcell⟩ := hnc hne
        cases e
        rw [add_at]; exact hcell q v hq
      · cases hq
  refine ⟨.int .i64 (min m n : Nat), w', G, ?_, hE, hS', .v rfl⟩
  cases ax with
  | none =>
    have h0 : ys.take (min m n * i.size) = [] := by
      apply Classical.byContradiction
      intro hne
      obtain ⟨_, _, e⟩ := hbase hne
      cases e
    rw [hsame h0]
    simp [Builtin.copy_, run_underlying ht, Builtin.lenOf, sizeOf, typeInfo, hj, hld, goInt]
  | some b0 =>
    by_cases h0 : ys.take (min m n * i.size) = []
    · have hw := hsame h0
      subst hw
      have hnt : news.take (min m n * i.size) = [] := List.eq_nil_of_length_eq_zero (by
        have : (ys.take (min m n * i.size)).length = 0 := by rw [h0]; rfl
        simp only [List.length_take] at this ⊢
        rw [hnl]; exact this)
      rw [hnt] at hld
      simp [Builtin.copy_, run_underlying ht, Builtin.lenOf, sizeOf, typeInfo, hj, hld, goInt, storeCells]
    · obtain ⟨b, o, e⟩ := hbase h0
      cases e
      have := hst b o rfl
      simp [Builtin.copy_, run_underlying ht, Builtin.lenOf, sizeOf, typeInfo, hj, hld, goInt, this]

theorem clearA_sound {σ' : St} {t ty : TypeId} {x : Value} {s av : AV} (hS : RelS G w σ) (hx : AVR G w x s) (h : clearA P t s σ = some (av, σ')) :
    ∃ v w' G', (Builtin.clear_ #[t] ty #[x]).run P w = .ok v w' ∧ Ext G w G' w' ∧ RelS G' w' σ' ∧ AVR G' w' v av := by
  unfold clearA at h
  split at h
  case h_2 => cases h
  rename_i k g off sz n
  split at h
  case h_2 => cases h
  rename_i e he
  split at h
  case h_2 => cases h
  rename_i i ys r hi hys hr
  split at h
  case isFalse => cases h
  rename_i hc
  obtain ⟨rfl, hpos, hg, hfit⟩ := hc
  cases h
  have ht := elemT_some he
  obtain ⟨d, j, hd, hj, hz, hag, hsize, hby⟩ := ti_some hi
  obtain ⟨news, hnews, _, hzs, hnl, hyl, hnr, hn1⟩ := zeros_sound (G := G) (w := w) hi hys
  obtain ⟨ax, c, w', rfl, hbase, hsame, hst, hE, hS'⟩ := row_write (P := P) hS hx hr hg ys news (by rw [hnl, hyl]) (by rw [hyl]; exact hfit) (by rw [hyl]; exact Nat.le_refl _) hnr hn1
  refine ⟨.tuple #[], w', G, ?_, hE, hS', .v rfl⟩
  by_cases h0 : n = 0
  · subst h0
    have : ys = [] := List.eq_nil_of_length_eq_zero (by simpa using hyl)
    rw [hsame this]
    cases ax <;> simp [Builtin.clear_, run_underlying ht]
  · have hne : ys ≠ [] := fun e => by
      rw [e] at hyl
      have : n * i.size = 0 := by simpa using hyl.symm
      rcases Nat.mul_eq_zero.1 this with h | h <;> omega
    obtain ⟨b, o, rfl⟩ := hbase hne
    have := hst b o rfl
    obtain ⟨n', rfl⟩ : ∃ n', n = n' + 1 := ⟨n - 1, by omega⟩
    simp [Builtin.clear_, run_underlying ht, zeroValue, typeInfo, hj, hz, hnews, this]

theorem capA_sound {t ty : TypeId} {x : Value} {s av : AV} (hS : RelS G w σ) (hx : AVR G w x s) (h : capA P t s σ = some av) :
    ∃ v, (Builtin.cap_ #[t] ty #[x]).run P w = .ok v w ∧ AVR G w v av := by
  unfold capA at h
  split at h
  case h_2 => cases h
  rename_i k g off sz n
  split at h
  case h_2 => cases h
  rename_i e r he hr
  split at h
  case h_2 => cases h
  rename_i sp hsp
  split at h
  case isFalse => cases h
  rename_i hc
  obtain ⟨hg, hpos, hmod⟩ := hc
  cases h
  obtain ⟨a, c, b, o, C, rfl, hnc, hk, hc1, hc2, h3, h4, h5⟩ := row_look hS hx hr hg
  have hC := h4 _ hsp
  have : (r.cells.length + sp - off) / sz = c := by
    rw [hC, ← hc1, Nat.add_sub_cancel_left, Nat.mul_div_cancel _ hpos]
  rw [this]
  exact ⟨.int .i64 c, by simp [Builtin.cap_, run_underlying (elemT_some he), goInt], .v rfl⟩

end Go.Vm
