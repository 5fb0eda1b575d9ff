import Derived.Test.YtmponlabfccjaaaZ2
import Derived.Laws.MakeOwn
/-
  Rows: made, written, cut, copied, cleared.
-/
namespace Go.Vm
set_option linter.unnecessarySimpa false
set_option linter.unusedSimpArgs false
set_option linter.unusedVariables false
open Go
variable {P : Program} {G : Gh} {w : World} {σ : St}

theorem intT_some {t : TypeId} {k : IntKind} (h : intT P t = some k) : P.underlying t = some (.int k) := by
  unfold intT at h
  split at h
  · cases h; assumption
  · cases h

theorem zeros_sound {e : TypeId} {n : Nat} {ys : List AV} {i : TI} (hi : ti P e = some i) (h : zerosA P e n = some ys) :
    ∃ news : List Value, (Builtin.zeroCells i.zero.cells n).toList = news ∧ 0 < i.size ∧ i.zero.cells.size = i.size ∧ news.length = n * i.size ∧ ys.length = n * i.size ∧ (∀ (j : Nat) x b, news[j]? = some x → ys[j]? = some b → AVR G w x b) ∧ (∀ u ∈ news, u.oneCell' = true) := by
  unfold zerosA at h
  rw [hi] at h
  split at h
  case h_2 => cases h
  rename_i i' z hii hz
  cases hii
  split at h
  case isFalse => cases h
  rename_i hc
  obtain ⟨hpos, hl, hall⟩ := hc
  cases h
  have hzv : AVR G w i.zero z := by
    unfold zeroA at hz
    rw [hi] at hz
    exact ofValue_sound hz
  obtain ⟨hce, hcr⟩ := hzv.cells_eq
  have hcs : i.zero.cells.size = i.size := by rw [hce, hl]
  have key : ∀ (j : Nat) x, (Builtin.zeroCells i.zero.cells n).toList[j]? = some x → j < n * i.size ∧ i.zero.cells[j % i.size]? = some x := by
    intro j x hx
    have hj : j < n * i.size := by
      have := (List.getElem?_eq_some_iff.1 hx).1
      simpa [Builtin.zeroCells, hcs] using this
    have hm : j % i.zero.cells.size < i.zero.cells.size := Nat.mod_lt _ (by omega)
    refine ⟨hj, ?_⟩; simp [Builtin.zeroCells, hcs, hj] at hx
    rw [hcs] at hm
    rw [← hx, getElem!_pos i.zero.cells (j % i.size) (by omega)]
    exact Array.getElem?_eq_getElem _
  refine ⟨_, rfl, hpos, hcs, by simp [Builtin.zeroCells, hcs], by simp, fun j x b hx hb => ?_, fun u hu => ?_⟩
  · obtain ⟨hj, hx2⟩ := key j x hx
    refine hcr (j % i.size) _ _ hx2 ?_; simp [hj] at hb
    rw [getD_mod z.cells j i.size hl hpos, ← hb]
    simp [List.getD]
  · obtain ⟨j, hj, rfl⟩ := List.getElem_of_mem hu
    obtain ⟨hj2, hx2⟩ := key j _ (List.getElem?_eq_getElem hj)
    have hm : j % i.size < z.cells.length := by rw [hl]; exact Nat.mod_lt _ hpos
    exact (hcr (j % i.size) _ _ hx2 (List.getElem?_eq_getElem hm)).oneCell (List.all_eq_true.1 hall _ (List.getElem_mem hm))

theorem run_appendZ {m : Nat} {t u ty e : TypeId} {i : TypeInfo} {ku kx : IntKind} {z : Value} (ht : P.underlying t = some (.slice e)) (hu : P.underlying u = some (.int ku)) (hi : P.info? e = some i) (hz : i.zero = some z) (hzs : z.cells.size = i.size) (hpos : 0 < i.size) (hz1 : ∀ v ∈ (Builtin.zeroCells z.cells m).toList, v.oneCell' = true)
    (a : Option Addr) (n c : Nat) (hnc : n ≤ c) (h63 : ((n + m : Nat) : Int) ≤ 9223372036854775807) (hb : (n + m) * i.bytes ≤ roomA) (hm63 : (m : Int) ≤ 9223372036854775807) :
    (n + m ≤ c → m = 0 → (Builtin.append_ #[t, u] ty #[.slice a n c, .int kx m]).run P w = .ok (.slice a n c) w) ∧
    (n + m ≤ c → 0 < m → ∀ b o cur el, a = some ⟨b, o, none⟩ → w.heap[b]? = some (.cells cur el (0, 0)) → o + n * i.size + (Builtin.zeroCells z.cells m).toList.length ≤ cur.size →
      (Builtin.append_ #[t, u] ty #[.slice a n c, .int kx m]).run P w = .ok (.slice (some ⟨b, o, none⟩) (n + m) c) (w.setRow b (cur.toList.take (o + n * i.size) ++ (Builtin.zeroCells z.cells m).toList ++ cur.toList.drop (o + n * i.size + (Builtin.zeroCells z.cells m).toList.length)).toArray)) ∧
    (c < n + m → (a = none → n = 0) → ∀ olds : List Value, olds.length = n * i.size → (∀ j v, olds[j]? = some v → ∃ b o, a = some ⟨b, o, none⟩ ∧ w.cell? ⟨b, o + j, none⟩ = some v) →
      (Builtin.append_ #[t, u] ty #[.slice a n c, .int kx m]).run P w = .ok (.slice (some ⟨w.heap.size, 0, none⟩) (n + m) (grownCap w (n + m) c e)) (w.drew.alloc (.cells (olds.toArray ++ (Builtin.zeroCells z.cells m).toList.toArray ++ Builtin.zeroCells z.cells (grownCap w (n + m) c e - (n + m))) e))) := by
  have hw : IntKind.i64.wrap (m : Int) = m := by rw [IntKind.wrap_i64]; omega
  have hneg : ¬ ((m : Int) < 0) := by omega
  have hmb : m * i.bytes ≤ 140737488355328 := Nat.le_trans (Nat.mul_le_mul_right _ (Nat.le_add_left m n)) hb
  have h48i : ¬ (281474976710656 < (m : Int) * (i.bytes : Int)) := by
    rw [← Int.natCast_mul]; omega
  refine ⟨fun hroom hm0 => ?_, fun hroom hm0 b o cur el ha hbk hfit => ?_, fun hgr hn0 olds hol hold => ?_⟩
  · subst hm0
    have hroom' : n ≤ c := hnc
    cases a <;> simp [Builtin.append_, run_underlying ht, run_underlying hu, sizeOf, typeInfo, zeroValue, hi, hz, asInt, asIntOf, hw, hneg, h48i, hroom', storeCells, IntKind.wrap_i64]
  · subst ha
    have hns : ¬ (m * i.size = 0) := Nat.mul_ne_zero (by omega) (by omega)
    have hst := run_storeCells_at P b (o + n * i.size) el (Builtin.zeroCells z.cells m).toList 0 cur w hbk (by simpa using hfit) hz1
    simp only [Nat.add_zero] at hst
    simp [Builtin.append_, run_underlying ht, run_underlying hu, sizeOf, typeInfo, zeroValue, hi, hz, asInt, asIntOf, hw, hneg, h48i, hroom, hns, add_at, hst]
  · have hns : ¬ (m * i.size = 0) := Nat.mul_ne_zero (by omega) (by omega)
    have hng : ¬ (n + m ≤ c) := by omega
    have h63' : ¬ (9223372036854775807 < ((n : Int) + (m : Int))) := by omega
    have hfit : Builtin.nextslicecap (n + m) c * i.bytes ≤ 281474976710656 := growslice_fits hgr hb
    have h48' : ¬ (281474976710656 < Builtin.nextslicecap (n + m) c * i.bytes) := by omega
    cases a with
    | none =>
      have := hn0 rfl
      subst this
      have hols : olds = [] := List.eq_nil_of_length_eq_zero (by simpa using hol)
      subst hols
      have hng0 : ¬ (m ≤ c) := by omega
      have h630 : ¬ (9223372036854775807 < (m : Int)) := by omega
      have h480 : ¬ (281474976710656 < Builtin.nextslicecap m c * i.bytes) := by simpa using h48'
      simp [Builtin.append_, run_underlying ht, run_underlying hu, sizeOf, typeInfo, zeroValue, hi, hz, asInt, asIntOf, hw, hneg, h48i, hng0, hns, h630, h480, Question.forced, run_firstCells_none, newRow, grownCap]
    | some b0 =>
      have hfo := run_firstCells_some (P := P) w.drew i.size n b0 n c olds hol (fun j v hj => by
        obtain ⟨b, o, e1, e2⟩ := hold j v hj
        cases e1
        rw [add_at]; simpa using e2)
      simp [Builtin.append_, run_underlying ht, run_underlying hu, sizeOf, typeInfo, zeroValue, hi, hz, asInt, asIntOf, hw, hneg, h48i, hng, hns, h63', h48', Question.forced, hfo, newRow, grownCap]

theorem row_slice {x : Value} {k g off sz n : Nat} (hx : AVR G w x (.row k g off sz n)) : ∃ a c, x = .slice a n c ∧ n ≤ c ∧ (c ≠ 0 → ∃ b' o', a = some ⟨b', o', none⟩) := by
  cases hx with
  | row _ _ hn ha _ => exact ⟨_, _, rfl, hn, ha⟩

theorem appendZA_sound {σ' : St} {t u ty : TypeId} {ku : IntKind} {x y : Value} {s a av : AV} (hS : RelS G w σ) (hx : AVR G w x s) (hy : AVR G w y a) (hu : intT P u = some ku) (h : appendZA P t s a σ = some (av, σ')) :
    ∃ v w' G', (Builtin.append_ #[t, u] ty #[x, y]).run P w = .ok v w' ∧ Ext G w G' w' ∧ RelS G' w' σ' ∧ AVR G' w' v av := by
  unfold appendZA at h
  split at h
  case h_2 => cases h
  rename_i k g off sz n mi hmi
  split at h
  case h_2 => cases h
  rename_i e he
  split at h
  case h_2 => cases h
  rename_i i ys hi hys
  split at h
  case isFalse => cases h
  rename_i hc
  obtain ⟨h0, hsz, hpos, hbytes, hmax, hm63, hzc⟩ := hc
  have ht := elemT_some he
  obtain ⟨d, j, hd, hj, hz, hag, hsize, hby⟩ := ti_some hi
  obtain ⟨news, hnews, _, hzs, hnl, hyl, hnr, hn1⟩ := zeros_sound (G := G) (w := w) hi hys
  obtain ⟨kx, rfl⟩ := intA_sound hy hmi
  obtain ⟨m, rfl⟩ : ∃ m : Nat, mi = m := ⟨mi.toNat, by omega⟩
  simp only [Int.toNat_natCast] at *
  obtain ⟨ax, c, rfl, hnc, ha⟩ := row_slice hx
  have hzc2 := hzc
  simp only [zeroCell, Bool.and_eq_true, beq_iff_eq, List.all_eq_true] at hzc2
  subst hsz
  obtain ⟨r1, r2, r3⟩ := run_appendZ (P := P) (w := w) (m := m) (ty := ty) (kx := kx) ht (intT_some hu) hj hz (by rw [hzs, hsize]) (by rw [← hsize]; exact hpos) (by rw [hnews]; exact hn1) ax n c hnc (by simp only [maxLen] at hmax; omega) (by rw [← hby]; exact hbytes) hm63
  refine rowApp_sound (e := e) (zc := i.zero.cells) (news := news) hS hx hpos hyl (by rw [hnl, hyl]) hnr hn1 hzs hzc2.2 r1 (fun hr hm b o cur el hax hb hfit => ?_) (fun hgr olds hol hold => ⟨_, grownCap_ge w (n + m) c e, ?_⟩) h
  · have := r2 hr hm b o cur el hax hb (by rw [hnews, ← hsize]; exact hfit)
    rw [hnews, ← hsize] at this
    exact this
  · have := r3 hgr (fun hax => by
      apply Classical.byContradiction
      intro hn0
      obtain ⟨_, _, e⟩ := ha (by omega)
      rw [hax] at e; cases e) olds (by rw [← hsize]; exact hol) hold
    rw [hnews] at this
    exact this

theorem sl_empty_full {x : Value} {sz n : Nat} (hx : AVR G w x (.sl sz [] n .full)) : ∃ a c, x = .slice a n c ∧ c = n := by
  cases hx with
  | sl0 ht => exact ⟨_, _, rfl, ht⟩
  | sl xs hl hn hc hs hxx h ht => exact ⟨_, _, rfl, ht⟩

theorem makeA_sound {σ' : St} {t : TypeId} {x y : Value} {l c av : AV} (hS : RelS G w σ) (hx : AVR G w x l) (hy : AVR G w y c) (h : makeA P t l c σ = some (av, σ')) :
    ∃ v w' G', (Instr.makeSlice t x y).run P w = .ok v w' ∧ Ext G w G' w' ∧ RelS G' w' σ' ∧ AVR G' w' v av := by
  unfold makeA at h
  split at h
  case h_2 => cases h
  rename_i e li ci he hli hci
  split at h
  case h_2 => cases h
  rename_i i ys hi hys
  split at h
  case isFalse => cases h
  rename_i hc
  obtain ⟨h0, rfl, h63, hbytes⟩ := hc
  cases h
  have ht := elemT_some he
  obtain ⟨d, j, hd, hj, hz, hag, hsize, hby⟩ := ti_some hi
  obtain ⟨kx, rfl⟩ := intA_sound hx hli
  obtain ⟨ky, rfl⟩ := intA_sound hy hci
  obtain ⟨m, rfl⟩ : ∃ m : Nat, li = m := ⟨li.toNat, by omega⟩
  simp only [Int.toNat_natCast] at *
  obtain ⟨news, hnews, hpos, hzs, hnl, hyl, hnr, hn1⟩ := zeros_sound (G := G) (w := w) hi hys
  have hb2 : (j.bytes : Int) * (m : Int) ≤ 281474976710656 := by
    rw [← hby, Int.mul_comm, ← Int.natCast_mul]
    unfold roomA at hbytes; omega
  have hrun := run_make (P := P) w t e j i.zero ht hj hz kx ky m m h0 (Int.le_refl _) hb2 h63
  simp only [Int.toNat_natCast] at hrun
  have hmade : madeCells i.zero.cells (m * j.size) = news.toArray := by
    rw [← hnews, ← hsize]
    simp only [madeCells, Builtin.zeroCells, hzs, Array.toArray_toList]
  rw [hmade] at hrun
  obtain ⟨G', f1, f2, f3⟩ := row_push hS e news.toArray ys (some 0) (by simp [hnl, hyl]) (fun s e => by cases e; simp [hnl, hyl]) (fun q x hx => hn1 x (List.mem_of_getElem? (by simpa using hx))) (fun j x a2 hx ha2 => hnr j x a2 (by simpa using hx) ha2)
  refine ⟨_, _, G', hrun, f1, f2, .row f3 (Nat.le_refl _) (Nat.le_refl _) (fun _ => ⟨_, _, rfl⟩) (fun _ => ⟨by simp [hnl], fun _ => rfl⟩)⟩

theorem row_look {x : Value} {k g off sz n : Nat} {r : RowSt} (hS : RelS G w σ) (hx : AVR G w x (.row k g off sz n)) (hr : σ.rows[k]? = some r) (hg : r.gen = g) :
    ∃ a c b o C, x = .slice a n c ∧ n ≤ c ∧ G.rw k = some (g, b, o, C) ∧ off + c * sz = C ∧ (c ≠ 0 → a = some ⟨b, o + off, none⟩) ∧ r.cells.length ≤ C ∧ (∀ s, r.spare = some s → r.cells.length + s = C) ∧
      (0 < C → ∃ cur e, w.heap[b]? = some (.cells cur e (0, 0)) ∧ o + C ≤ cur.size ∧ (∀ j, j < C → G.tag b (o + j) = .row k) ∧ (∀ (j : Nat) x, j < C → cur[o + j]? = some x → x.oneCell' = true) ∧
        ∀ (j : Nat) x a, cur[o + j]? = some x → r.cells[j]? = some a → AVR G w x a) := by
  cases hx with
  | row hk hgc hn ha hc =>
    rename_i c gc b o C a
    obtain ⟨r', h1, h2, h3, h4, h5⟩ := hS.row _ _ _ _ _ hk
    rw [hr] at h1; cases h1
    obtain rfl : g = gc := by omega
    obtain ⟨hc1, hc2⟩ := hc rfl
    exact ⟨a, c, b, o, C, rfl, hn, hk, hc1, hc2, h3, h4, h5⟩

theorem row_write {k g off sz n : Nat} {r : RowSt} {x : Value} (hS : RelS G w σ) (hx : AVR G w x (.row k g off sz n)) (hr : σ.rows[k]? = some r) (hg : r.gen = g) (vs : List AV) (news : List Value) (hl : news.length = vs.length) (hfit : off + vs.length ≤ r.cells.length)
    (hvn : vs.length ≤ n * sz) (hnr : ∀ (j : Nat) x b, news[j]? = some x → vs[j]? = some b → AVR G w x b) (hn1 : ∀ u ∈ news, u.oneCell' = true) :
    ∃ a c w', x = .slice a n c ∧ (vs ≠ [] → ∃ b o, a = some ⟨b, o, none⟩) ∧ (vs = [] → w' = w) ∧ (∀ b o, a = some ⟨b, o, none⟩ → (storeCells ⟨b, o, none⟩ news).run P w = .ok () w') ∧ Ext G w G w' ∧ RelS G w' { σ with rows := σ.rows.set k { r with cells := splice r.cells off vs } } := by
  obtain ⟨a, c, b, o, C, rfl, hnc, hk, hc1, hc2, h3, h4, h5⟩ := row_look hS hx hr hg
  by_cases h0 : vs = []
  · subst h0
    have hn0 : news = [] := List.eq_nil_of_length_eq_zero (by simpa using hl)
    subst hn0
    have hsp : splice r.cells off [] = r.cells := by simp [splice]
    have hset : ({ σ with rows := σ.rows.set k { r with cells := splice r.cells off [] } } : St) = σ := by
      rw [hsp]
      have : σ.rows.set k r = σ.rows := by
        apply List.ext_getElem?
        intro q
        by_cases hq : k = q
        · subst hq; rw [List.getElem?_set_self (List.getElem?_eq_some_iff.1 hr).1, hr]
        · rw [List.getElem?_set_ne hq]
      show ({ σ with rows := σ.rows.set k r } : St) = σ
      rw [this]
    rw [hset]
    exact ⟨a, c, w, rfl, fun h => (h rfl).elim, fun _ => rfl, fun b o _ => by simp [storeCells], .refl _ _, hS⟩
  · have hlv : 0 < vs.length := List.length_pos_iff.2 h0
    have hmul : n * sz ≤ c * sz := Nat.mul_le_mul_right _ hnc
    have hc0 : c ≠ 0 := by
      intro e; subst e; simp at hmul
      omega
    obtain ⟨cur, el, g1, g2, g3, g4, g5⟩ := h5 (by omega)
    have hax := hc2 hc0
    subst hax
    have hst := run_storeCells_at P b (o + off) el news 0 cur w g1 (by omega) hn1
    simp only [Nat.add_zero] at hst
    have hget : ∀ q : Nat, ((cur.toList.take (o + off) ++ news ++ cur.toList.drop (o + off + news.length)).toArray)[q]? = if o + off ≤ q ∧ q < o + off + news.length then news[q - (o + off)]? else cur[q]? := by
      intro q
      have := splice_get cur.toList (o + off) news (by simp [hl]; omega) q
      simpa using this
    have hsz2 : ((cur.toList.take (o + off) ++ news ++ cur.toList.drop (o + off + news.length)).toArray).size = cur.size := by
      simp [hl]; omega
    generalize ((cur.toList.take (o + off) ++ news ++ cur.toList.drop (o + off + news.length)).toArray) = cur' at hst hget hsz2
    have hlen := splice_length r.cells off vs hfit
    have hrt := row_turn hS (w' := w.setRow b cur') (r' := { r with cells := splice r.cells off vs }) hk (.inl ⟨rfl, rfl, rfl⟩) (Nat.le_refl _) (Nat.le_refl _) hg (by simp only [hlen]; omega) (fun s hs => by simp only [hlen]; exact h4 s hs)
      (.inr ⟨cur, cur', el, rfl, g1, hsz2, fun q hq => by rw [hget q, if_neg (by omega)], fun q x h6 h7 hx => by
        rw [hget q] at hx
        split at hx
        · exact hn1 x (List.mem_of_getElem? hx)
        · exact g4 (q - o) x (by omega) (by rw [← hx]; congr 1; omega), fun q x a hx ha => by
        rw [hget] at hx
        simp only at ha
        unfold splice at ha
        rw [splice_get r.cells off vs hfit q] at ha
        by_cases hin : off ≤ q ∧ q < off + vs.length
        · rw [if_pos hin] at ha
          rw [if_pos (by omega)] at hx
          exact hnr _ _ _ (by rw [← hx]; congr 1; omega) ha
        · rw [if_neg hin] at ha
          rw [if_neg (by omega)] at hx
          exact g5 _ _ _ hx ha⟩)
    rw [turnRow_self hk] at hrt
    exact ⟨_, c, _, rfl, fun _ => ⟨_, _, rfl⟩, fun h => (h0 h).elim, fun b2 o2 e => by cases e; exact hst, hrt.1, hrt.2⟩

theorem copyA_sound {σ' : St} {t u ty : TypeId} {x y : Value} {s a av : AV} (hS : RelS G w σ) (hx : AVR G w x s) (hy : AVR G w y a) (h : copyA P t s a σ = some (av, σ')) :
    ∃ v w' G', (Builtin.copy_ #[t, u] ty #[x, y]).run P w = .ok v w' ∧ Ext G w G' w' ∧ RelS G' w' σ' ∧ AVR G' w' v av := by
  unfold copyA at h
  split at h
  case h_2 => cases h
  rename_i k g off sz n sy ys m hread
  split at h
  case h_2 => cases h
  rename_i e he
  split at h
  case h_2 => cases h
  rename_i i r hi hr
  split at h
  case isFalse => cases h
  rename_i hc
  obtain ⟨rfl, hsy, hpos, hg, hfit, hmax⟩ := hc
  cases h
  have ht := elemT_some he
  obtain ⟨d, j, hd, hj, hz, hag, hsize, hby⟩ := ti_some hi
  obtain ⟨ay, cy, news, rfl, hmcy, hyl, hnl, hnr, hn1, hnc⟩ := read_cells hS hy hread
  have hyl' : ys.length = m * i.size := by
    rcases hsy with e | e
    · rw [← e]; exact hyl
    · subst e; simpa using hyl
  have hq1 : min m n * i.size ≤ m * i.size := Nat.mul_le_mul_right _ (Nat.min_le_left _ _)
  have hq2 : min m n * i.size ≤ n * i.size := Nat.mul_le_mul_right _ (Nat.min_le_right _ _)
  have hlt : (ys.take (min m n * i.size)).length = min m n * i.size := by simp; omega
  obtain ⟨ax, c, w', rfl, hbase, hsame, hst, hE, hS'⟩ := row_write (P := P) hS hx hr hg (ys.take (min m n * i.size)) (news.take (min m n * i.size)) (by simp [hnl]) (by rw [hlt]; omega) (by rw [hlt]; exact hq2) (fun q x b hx hb => by
      rw [List.getElem?_take] at hx hb
      split at hx
      · rename_i hq
        rw [if_pos hq] at hb
        exact hnr q x b hx hb
      · cases hx) (fun u hu => hn1 u (List.mem_of_mem_take hu))
  have hld : (Builtin.firstCells j.size (Nat.min m n) (.slice ay m cy)).run P w = .ok (news.take (min m n * i.size)).toArray w := by
    cases ay with
    | none =>
      have hys : ys = [] := by
        apply Classical.byContradiction
        intro hne
        obtain ⟨_, _, e, _⟩ := hnc hne
        cases e
      have hn0 : news = [] := List.eq_nil_of_length_eq_zero (by rw [hnl, hys]; rfl)
      rw [hn0]
      simp [run_firstCells_none]
    | some b0 =>
      refine run_firstCells_some (P := P) w j.size (Nat.min m n) b0 m cy (news.take (min m n * i.size)) (by simp only [List.length_take, hnl, hyl', ← hsize]; exact Nat.min_eq_left hq1) (fun q v hq => ?_)
      rw [List.getElem?_take] at hq
      split at hq
      · have hne : ys ≠ [] := fun e => by rw [e] at hnl; have := List.eq_nil_of_length_eq_zero hnl; subst this; simp at hq
        obtain ⟨b, o, e, hcell⟩ := hnc hne
        cases e
        rw [add_at]; exact hcell q v hq
      · cases hq
  refine ⟨.int .i64 (min m n : Nat), w', G, ?_, hE, hS', .v rfl⟩
  cases ax with
  | none =>
    have h0 : ys.take (min m n * i.size) = [] := by
      apply Classical.byContradiction
      intro hne
      obtain ⟨_, _, e⟩ := hbase hne
      cases e
    rw [hsame h0]
    simp [Builtin.copy_, run_underlying ht, Builtin.lenOf, sizeOf, typeInfo, hj, hld, goInt]
  | some b0 =>
    by_cases h0 : ys.take (min m n * i.size) = []
    · have hw := hsame h0
      subst hw
      have hnt : news.take (min m n * i.size) = [] := List.eq_nil_of_length_eq_zero (by
        have : (ys.take (min m n * i.size)).length = 0 := by rw [h0]; rfl
        simp only [List.length_take] at this ⊢
        rw [hnl]; exact this)
      rw [hnt] at hld
      simp [Builtin.copy_, run_underlying ht, Builtin.lenOf, sizeOf, typeInfo, hj, hld, goInt, storeCells]
    · obtain ⟨b, o, e⟩ := hbase h0
      cases e
      have := hst b o rfl
      simp [Builtin.copy_, run_underlying ht, Builtin.lenOf, sizeOf, typeInfo, hj, hld, goInt, this]

theorem clearA_sound {σ' : St} {t ty : TypeId} {x : Value} {s av : AV} (hS : RelS G w σ) (hx : AVR G w x s) (h : clearA P t s σ = some (av, σ')) :
    ∃ v w' G', (Builtin.clear_ #[t] ty #[x]).run P w = .ok v w' ∧ Ext G w G' w' ∧ RelS G' w' σ' ∧ AVR G' w' v av := by
  unfold clearA at h
  split at h
  case h_2 => cases h
  rename_i k g off sz n
  split at h
  case h_2 => cases h
  rename_i e he
  split at h
  case h_2 => cases h
  rename_i i ys r hi hys hr
  split at h
  case isFalse => cases h
  rename_i hc
  obtain ⟨rfl, hpos, hg, hfit⟩ := hc
  cases h
  have ht := elemT_some he
  obtain ⟨d, j, hd, hj, hz, hag, hsize, hby⟩ := ti_some hi
  obtain ⟨news, hnews, _, hzs, hnl, hyl, hnr, hn1⟩ := zeros_sound (G := G) (w := w) hi hys
  obtain ⟨ax, c, w', rfl, hbase, hsame, hst, hE, hS'⟩ := row_write (P := P) hS hx hr hg ys news (by rw [hnl, hyl]) (by rw [hyl]; exact hfit) (by rw [hyl]; exact Nat.le_refl _) hnr hn1
  refine ⟨.tuple #[], w', G, ?_, hE, hS', .v rfl⟩
  by_cases h0 : n = 0
  · subst h0
    have : ys = [] := List.eq_nil_of_length_eq_zero (by simpa using hyl)
    rw [hsame this]
    cases ax <;> simp [Builtin.clear_, run_underlying ht]
  · have hne : ys ≠ [] := fun e => by
      rw [e] at hyl
      have : n * i.size = 0 := by simpa using hyl.symm
      rcases Nat.mul_eq_zero.1 this with h | h <;> omega
    obtain ⟨b, o, rfl⟩ := hbase hne
    have := hst b o rfl
    obtain ⟨n', rfl⟩ : ∃ n', n = n' + 1 := ⟨n - 1, by omega⟩
    simp [Builtin.clear_, run_underlying ht, zeroValue, typeInfo, hj, hz, hnews, this]

theorem capA_sound {t ty : TypeId} {x : Value} {s av : AV} (hS : RelS G w σ) (hx : AVR G w x s) (h : capA P t s σ = some av) :
    ∃ v, (Builtin.cap_ #[t] ty #[x]).run P w = .ok v w ∧ AVR G w v av := by
  unfold capA at h
  split at h
  case h_2 => cases h
  rename_i k g off sz n
  split at h
  case h_2 => cases h
  rename_i e r he hr
  split at h
  case h_2 => cases h
  rename_i sp hsp
  split at h
  case isFalse => cases h
  rename_i hc
  obtain ⟨hg, hpos, hmod⟩ := hc
  cases h
  obtain ⟨a, c, b, o, C, rfl, hnc, hk, hc1, hc2, h3, h4, h5⟩ := row_look hS hx hr hg
  have hC := h4 _ hsp
  have : (r.cells.length + sp - off) / sz = c := by
    rw [hC, ← hc1, Nat.add_sub_cancel_left, Nat.mul_div_cancel _ hpos]
  rw [this]
  exact ⟨.int .i64 c, by simp [Builtin.cap_, run_underlying (elemT_some he), goInt], .v rfl⟩

end Go.Vm

/-
  Slices of slices; and all operations under one word.
-/
namespace Go.Vm
set_option linter.unnecessarySimpa false
set_option linter.unusedSimpArgs false
set_option linter.unusedVariables false
open Go
section
variable {P : Program} {G : Gh} {w : World} {σ : St} {a : Act} {ρ : Nat → AV}

def OptR (G : Gh) (w : World) (x : Option Value) (b : Option AV) : Prop :=
  match x, b with
  | none, none => True
  | some v, some a => AVR G w v a
  | _, _ => False

theorem bound_none {d l : Nat} (h : boundA none d = some l) : l = d := by simp [boundA] at h; exact h.symm

theorem bound_some {x : Value} {av : AV} {d l y : Nat} {code : BoundsCode} (hx : AVR G w x av) (h : boundA (some av) d = some l) (hle : l ≤ y) : (Instr.sliceBound x y code).run P w = .ok l w := by
  unfold boundA at h
  simp only at h
  split at h
  · rename_i i hi
    split at h
    · rename_i h0
      cases h
      obtain ⟨k, rfl⟩ := intA_sound hx hi
      simp only [Instr.sliceBound, asIntOf, Sem.run_bind, Sem.run_pure, Result.andThen_ok]
      rw [if_pos ⟨h0, by omega⟩]
      rfl
    · cases h
  · cases h

theorem run_boundsC {isS : Bool} {n c l h : Nat} {lo hi : Option Value} {loA hiA : Option AV} (h1 : OptR G w lo loA) (h2 : OptR G w hi hiA) (hl : boundA loA 0 = some l) (hh : boundA hiA n = some h) (hlh : l ≤ h) (hhc : h ≤ c) :
    (Instr.sliceBounds isS n c lo hi none).run P w = .ok (l, h, c) w := by
  have e1 : ∀ code1 code2, (match hi with | some v => Instr.sliceBound v c (if isS then code1 else code2) | none => (pure n : Sem Nat)).run P w = .ok h w := by
    intro c1 c2
    cases hi with
    | none => cases hiA with
      | none => rw [bound_none hh]; rfl
      | some _ => exact h2.elim
    | some v => cases hiA with
      | none => exact h2.elim
      | some av => exact bound_some h2 hh (by omega)
  have e2 : (match lo with | some v => Instr.sliceBound v h .sliceB | none => (pure 0 : Sem Nat)).run P w = .ok l w := by
    cases lo with
    | none => cases loA with
      | none => rw [bound_none hl]; rfl
      | some _ => exact h1.elim
    | some v => cases loA with
      | none => exact h1.elim
      | some av => exact bound_some h1 hl hlh
  unfold Instr.sliceBounds
  cases hi with
  | none =>
    have e1' := e1 .sliceAcap .sliceAlen
    simp only [Sem.run_pure, Result.ok.injEq, and_true] at e1'
    subst e1'
    cases lo with
    | none => simp only [Sem.run_bind, Sem.run_pure, Result.andThen_ok] at e2 ⊢; cases e2; rfl
    | some v => simp only [Sem.run_bind, Sem.run_pure, Result.andThen_ok, Option.isSome_none, Bool.false_eq_true, if_false] at e2 ⊢; rw [e2]; rfl
  | some u =>
    have e1' := e1 .sliceAcap .sliceAlen
    simp only at e1'
    cases lo with
    | none => simp only [Sem.run_bind, Sem.run_pure, Result.andThen_ok, e1'] at e2 ⊢; cases e2; rfl
    | some v => simp only [Sem.run_bind, Sem.run_pure, Result.andThen_ok, e1', Option.isSome_none, Bool.false_eq_true, if_false] at e2 ⊢; rw [e2]; rfl

theorem run_bounds {isS : Bool} {n c l h : Nat} {lo hi : Option Value} {loA hiA : Option AV} (h1 : OptR G w lo loA) (h2 : OptR G w hi hiA) (hl : boundA loA 0 = some l) (hh : boundA hiA n = some h) (hlh : l ≤ h) (hhn : h ≤ n) (hnc : n ≤ c) :
    (Instr.sliceBounds isS n c lo hi none).run P w = .ok (l, h, c) w := run_boundsC h1 h2 hl hh hlh (by omega)

theorem run_bounds3 {isS : Bool} {n c l h : Nat} {lo hi mx : Option Value} {loA hiA : Option AV} {m : AV} (h1 : OptR G w lo loA) (h2 : OptR G w hi hiA) (h3 : OptR G w mx (some m)) (hl : boundA loA 0 = some l) (hh : boundA hiA n = some h) (hs : hiA.isSome = true)
    (hm : intA m = some (h : Int)) (hlh : l ≤ h) (hhn : h ≤ n) (hnc : n ≤ c) : (Instr.sliceBounds isS n c lo hi mx).run P w = .ok (l, h, h) w := by
  cases mx with
  | none => exact h3.elim
  | some mv =>
  cases hiA with
  | none => cases hs
  | some ha =>
  cases hi with
  | none => exact h2.elim
  | some hv =>
  have e0 : ∀ code, (Instr.sliceBound mv c code).run P w = .ok h w := by
    intro code
    refine bound_some (av := m) h3 (d := 0) ?_ (by omega)
    simp [boundA, hm]
  have e1 : ∀ code, (Instr.sliceBound hv h code).run P w = .ok h w := fun code => bound_some h2 hh (Nat.le_refl _)
  unfold Instr.sliceBounds
  cases lo with
  | none => cases loA with
    | none => rw [bound_none hl]; simp only [Sem.run_bind, Sem.run_pure, Result.andThen_ok, e0, e1]
    | some _ => exact h1.elim
  | some v => cases loA with
    | none => exact h1.elim
    | some av =>
      have e2 : ∀ code, (Instr.sliceBound v h code).run P w = .ok l w := fun code => bound_some h1 hl hlh
      simp only [Sem.run_bind, Sem.run_pure, Result.andThen_ok, e0, e1, e2]

theorem run_bounds3C {isS : Bool} {n c l h mi : Nat} {lo hi mx : Option Value} {loA hiA : Option AV} {m : AV} (h1 : OptR G w lo loA) (h2 : OptR G w hi hiA) (h3 : OptR G w mx (some m)) (hl : boundA loA 0 = some l) (hh : boundA hiA n = some h) (hs : hiA.isSome = true)
    (hm : intA m = some (mi : Int)) (hlh : l ≤ h) (hhm : h ≤ mi) (hmc : mi ≤ c) : (Instr.sliceBounds isS n c lo hi mx).run P w = .ok (l, h, mi) w := by
  cases mx with
  | none => exact h3.elim
  | some mv =>
  cases hiA with
  | none => cases hs
  | some ha =>
  cases hi with
  | none => exact h2.elim
  | some hv =>
  have e0 : ∀ code, (Instr.sliceBound mv c code).run P w = .ok mi w := by
    intro code
    refine bound_some (av := m) h3 (d := 0) ?_ (by omega)
    simp [boundA, hm]
  have e1 : ∀ code, (Instr.sliceBound hv mi code).run P w = .ok h w := fun code => bound_some h2 hh hhm
  unfold Instr.sliceBounds
  cases lo with
  | none => cases loA with
    | none => rw [bound_none hl]; simp only [Sem.run_bind, Sem.run_pure, Result.andThen_ok, e0, e1]
    | some _ => exact h1.elim
  | some v => cases loA with
    | none => exact h1.elim
    | some av =>
      have e2 : ∀ code, (Instr.sliceBound v h code).run P w = .ok l w := fun code => bound_some h1 hl hlh
      simp only [Sem.run_bind, Sem.run_pure, Result.andThen_ok, e0, e1, e2]

theorem sl_part {sz n c l h m : Nat} {cs : List AV} {tl : Tail} {ax : Option Addr} (hx : AVR G w (.slice ax n c) (.sl sz cs n tl)) (hpos : 0 < sz) (hlh : l ≤ h) (hhn : h ≤ n) (hhm : h ≤ m) (t' : Tail) (ht : t' = .shut ∨ t' = .full ∧ m = h) :
    AVR G w (.slice (if m = l then ax else ax.map (·.add (l * sz))) (h - l) (m - l)) (.sl sz ((cs.drop (l * sz)).take ((h - l) * sz)) (h - l) t') := by
  have htl : ∀ q, TailOk G t' q (h - l) (m - l) sz := by
    intro q
    rcases ht with rfl | ⟨rfl, rfl⟩
    · trivial
    · show m - l = m - l; rfl
  by_cases h0 : h = l
  · subst h0
    simp only [Nat.sub_self, Nat.zero_mul, List.take_zero] at htl ⊢
    exact .sl0 (htl _)
  · obtain ⟨ax', cx, xs, he, hnc, _, hcl, hol, hor, ho1, hoc⟩ := sl_cells hx
    cases he
    have hmul : (h - l) * sz + l * sz = h * sz := by rw [← Nat.add_mul]; congr 1; omega
    have hmul2 : h * sz ≤ n * sz := Nat.mul_le_mul_right _ hhn
    have hpos2 : 0 < (h - l) * sz := Nat.mul_pos (by omega) hpos
    have hne : cs ≠ [] := by
      intro e; subst e
      simp at hcl
      omega
    obtain ⟨b, o, rfl, hs, hcell⟩ := hoc hne
    rw [if_neg (by omega)]
    simp only [Option.map_some, add_at]
    refine .sl ((xs.drop (l * sz)).take ((h - l) * sz)) (by simp [hol]) (by simp; omega) (by omega) (fun j hj => ?_) (fun j x hj => ?_) (fun j x av hj ha => ?_) (htl _)
    · simp at hj
      rw [Nat.add_assoc]; exact hs _ (by omega)
    · rw [List.getElem?_take] at hj
      split at hj
      · rw [List.getElem?_drop] at hj
        rw [Nat.add_assoc]
        exact ⟨hcell _ _ hj, ho1 _ (List.mem_of_getElem? hj)⟩
      · cases hj
    · rw [List.getElem?_take] at hj ha
      split at hj
      · rename_i hq
        rw [if_pos hq] at ha
        rw [List.getElem?_drop] at hj ha
        exact hor _ _ _ hj ha
      · cases hj

theorem sliceA_sound {t : TypeId} {x : Value} {lo hi mx : Option Value} {p av : AV} {loA hiA mxA : Option AV} (hx : AVR G w x p) (h1 : OptR G w lo loA) (h2 : OptR G w hi hiA) (h3 : OptR G w mx mxA) (h : sliceA P t p loA hiA mxA = some av) :
    ∃ v, (Instr.sliceAt t x lo hi mx).run P w = .ok v w ∧ AVR G w v av := by
  unfold sliceA at h
  split at h
  · rename_i sz cs n tl
    split at h
    case h_2 => cases h
    rename_i e l hh he hl hhh
    have ht := elemT_some he
    split at h
    case h_2 => cases h
    rename_i ei hei
    obtain ⟨_, j, _, hj, _, _, hsz, _⟩ := ti_some hei
    split at h
    case isFalse => cases h
    rename_i hcond
    obtain ⟨hs1, hlh, hhn, hpos⟩ := hcond
    obtain ⟨ax, cx, xs, rfl, hnc, htl0, _⟩ := sl_cells hx
    have hx' : n = 0 ∨ sz = ei.size := by omega
    have hrun : ∀ m, (Instr.sliceBounds true n cx lo hi mx).run P w = .ok (l, hh, m) w → (Instr.sliceAt t (.slice ax n cx) lo hi mx).run P w = .ok (.slice (if m = l then ax else ax.map (·.add (l * ei.size))) (hh - l) (m - l)) w := by
      intro m hb
      simp [Instr.sliceAt, run_underlying ht, Instr.slice, hb, run_sizeOf w hj, hsz]
    have hpart : ∀ m, hh ≤ m → ∀ t', (t' = .shut ∨ t' = .full ∧ m = hh) → AVR G w (.slice (if m = l then ax else ax.map (·.add (l * ei.size))) (hh - l) (m - l)) (.sl ei.size ((cs.drop (l * ei.size)).take ((hh - l) * ei.size)) (hh - l) t') := by
      intro m hm t' ht'
      rcases hx' with h0 | h0
      · subst h0
        have e1 : hh = 0 := by omega
        have e2 : l = 0 := by omega
        subst e1; subst e2
        simp only [Nat.sub_self, Nat.zero_mul, List.take_zero]
        refine .sl0 ?_
        rcases ht' with rfl | ⟨rfl, rfl⟩
        · trivial
        · rfl
      · subst h0
        exact sl_part hx hpos hlh hhn hm t' ht'
    split at h
    · cases mx with
      | some _ => exact h3.elim
      | none =>
        have hb := run_bounds (P := P) (isS := true) h1 h2 hl hhh hlh hhn hnc
        split at h
        · rename_i hc
          simp only [Bool.and_eq_true, Option.isNone_iff_eq_none] at hc
          obtain ⟨hc1, hc2⟩ := hc
          subst hc1; subst hc2
          obtain rfl := bound_none hl; obtain rfl := bound_none hhh
          cases h
          refine ⟨_, hrun cx hb, ?_⟩
          have : (if cx = 0 then ax else ax.map (·.add (0 * ei.size))) = ax := by
            split
            · rfl
            · cases ax <;> simp [Addr.add]
          rw [this, Nat.sub_zero, Nat.sub_zero]
          exact hx
        · cases h
          exact ⟨_, hrun cx hb, hpart cx (by omega) .shut (.inl rfl)⟩
    · rename_i m
      split at h
      case isFalse => cases h
      rename_i his
      split at h
      case h_2 => cases h
      rename_i mi hmi
      split at h
      case isFalse => cases h
      rename_i hmh
      subst hmh
      cases h
      have hb := run_bounds3 (P := P) (isS := true) h1 h2 h3 hl hhh his hmi hlh hhn hnc
      exact ⟨_, hrun hh hb, hpart hh (Nat.le_refl _) .full (.inr ⟨rfl, rfl⟩)⟩
  · rename_i id off
    split at h
    case h_2 => cases h
    rename_i n e l ha hl
    have ht := arrT_some ha
    split at h
    case h_2 => cases h
    rename_i hh ei hhh hei
    obtain ⟨_, j, _, hj, _, _, hsz, _⟩ := ti_some hei
    split at h
    case isFalse => cases h
    rename_i hcond
    obtain ⟨hlh, hhn, hpos, hln⟩ := hcond
    cases h
    cases mx with
    | some _ => exact h3.elim
    | none =>
      have hb := run_bounds (P := P) (isS := false) h1 h2 hl hhh hlh hhn (Nat.le_refl n)
      cases hx with
      | ptr hp =>
      rename_i b
      refine ⟨.slice (some (if n = l then ⟨b, off, none⟩ else (⟨b, off, none⟩ : Addr).add (l * ei.size))) (hh - l) (n - l), by simp [Instr.sliceAt, run_underlying ht, Instr.sureAddr, hb, run_sizeOf w hj, hsz], ?_⟩
      rw [if_neg (by omega), add_at]
      exact .bs hp (by omega)
  · cases h

theorem sliceRowA_sound {σ' : St} {t : TypeId} {x : Value} {lo hi mx : Option Value} {p av : AV} {loA hiA mxA : Option AV} (hS : RelS G w σ) (hx : AVR G w x p) (h1 : OptR G w lo loA) (h2 : OptR G w hi hiA) (h3 : OptR G w mx mxA) (h : sliceRowA P t p loA hiA mxA σ = some (av, σ')) :
    ∃ v, (Instr.sliceAt t x lo hi mx).run P w = .ok v w ∧ ∃ G', Ext G w G' w ∧ RelS G' w σ' ∧ AVR G' w v av := by
  unfold sliceRowA at h
  split at h
  case h_2 => cases h
  rename_i k g off sz n
  split at h
  case h_2 => cases h
  rename_i e l hh he hl hhh
  have ht := elemT_some he
  split at h
  case h_2 => cases h
  rename_i ei hei
  obtain ⟨_, j, _, hj, _, _, hsz, _⟩ := ti_some hei
  split at h
  case isFalse => cases h
  rename_i hcond
  obtain ⟨rfl, hlh, hpos⟩ := hcond
  obtain ⟨ax, cx, rfl, hnc, ha⟩ := row_slice hx
  have hrun : ∀ m, (Instr.sliceBounds true n cx lo hi mx).run P w = .ok (l, hh, m) w → (Instr.sliceAt t (.slice ax n cx) lo hi mx).run P w = .ok (.slice (if m = l then ax else ax.map (·.add (l * ei.size))) (hh - l) (m - l)) w := by
    intro m hb
    simp [Instr.sliceAt, run_underlying ht, Instr.slice, hb, run_sizeOf w hj, hsz]
  -- a part of it
  have part : ∀ {G' : Gh}, AVR G' w (.slice ax n cx) (.row k g off ei.size n) → hh ≤ cx → AVR G' w (.slice (if cx = l then ax else ax.map (·.add (l * ei.size))) (hh - l) (cx - l)) (.row k g (off + l * ei.size) ei.size (hh - l)) := by
    intro G' hx' hhc
    cases hx' with
    | row hk hg hn ha hc =>
      rename_i gc b o C
      have hm : (cx - l) * ei.size = cx * ei.size - l * ei.size := Nat.sub_mul ..
      have hle : l * ei.size ≤ cx * ei.size := Nat.mul_le_mul_right _ (by omega)
      refine .row hk hg (by omega) (fun h0 => ?_) (fun eg => ⟨?_, fun h0 => ?_⟩)
      · obtain ⟨b', o', rfl⟩ := ha (by omega)
        rw [if_neg (by omega)]
        exact ⟨b', o' + l * ei.size, by simp [add_at]⟩
      · have := (hc eg).1
        omega
      · have := (hc eg).2 (by omega)
        subst this
        rw [if_neg (by omega)]
        simp [add_at, Nat.add_assoc]
  split at h
  · cases mx with
    | some _ => exact h3.elim
    | none =>
    split at h
    · rename_i hhn
      cases h
      have hb := run_boundsC (P := P) (isS := true) (c := cx) h1 h2 hl hhh hlh (by omega)
      exact ⟨_, hrun _ hb, G, .refl _ _, hS, part hx (by omega)⟩
    · rename_i hhn
      split at h
      case h_2 => cases h
      rename_i r hr
      split at h
      case h_2 => cases h
      rename_i s hs
      split at h
      case isFalse => cases h
      rename_i hc2
      obtain ⟨hg, hle1, hle2⟩ := hc2
      cases h
      obtain ⟨a, c, b, o, C, he', _, hk, hc1, hc3, h4, h5, h6⟩ := row_look hS hx hr hg
      obtain ⟨rfl, rfl⟩ : ax = a ∧ cx = c := by
        injection he' with e1 _ e3
        exact ⟨e1, e3⟩
      have hC := h5 _ hs
      have hhc : hh ≤ cx := by
        have : hh * ei.size ≤ cx * ei.size := by omega
        exact Nat.le_of_mul_le_mul_right this hpos
      have hb := run_boundsC (P := P) (isS := true) (c := cx) h1 h2 hl hhh hlh hhc
      refine ⟨_, hrun _ hb, ?_⟩
      have hrt := row_turn hS (w' := w) (r' := ⟨g, r.cells ++ List.replicate (off + hh * ei.size - r.cells.length) .any, some (r.cells.length + s - (off + hh * ei.size))⟩) hk (.inl ⟨rfl, rfl, rfl⟩) (Nat.le_refl _) (Nat.le_refl _) rfl (by simp; omega) (fun s2 hs2 => by cases hs2; simp; omega)
        (.inl ⟨rfl, fun hC0 c0 e0 hb0 q x a2 hx2 ha2 => by
          obtain ⟨cur, el, g1, g2, g3, g4, g5⟩ := h6 hC0
          rw [hb0] at g1; cases g1
          simp only at ha2
          by_cases hq : q < r.cells.length
          · rw [List.getElem?_append_left hq] at ha2
            exact g5 q x a2 hx2 ha2
          · rw [List.getElem?_append_right (by omega)] at ha2
            have hlt := (List.getElem?_eq_some_iff.1 ha2).1
            simp at hlt
            have : a2 = .any := List.eq_of_mem_replicate (List.mem_of_getElem? ha2)
            rw [this]
            exact .any (g4 q x (by omega) hx2)⟩)
      exact ⟨_, hrt.1, hrt.2, part (hx.mono hrt.1) hhc⟩
  · rename_i m
    split at h
    case isFalse => cases h
    rename_i his
    split at h
    case h_2 => cases h
    rename_i mi hmi
    split at h
    case isFalse => cases h
    rename_i hc2
    obtain ⟨hm1, hm2⟩ := hc2
    obtain ⟨mn, rfl⟩ : ∃ mn : Nat, mi = mn := ⟨mi.toNat, by omega⟩
    have hb := run_bounds3C (P := P) (isS := true) (c := cx) (n := n) h1 h2 h3 hl hhh his hmi hlh (by omega) (by omega)
    refine ⟨_, hrun _ hb, G, .refl _ _, ?_⟩
    split at h
    · rename_i hml
      cases h
      have : mn = l := by omega
      subst this
      have e1 : hh - mn = 0 := by omega
      rw [e1, Nat.sub_self]
      exact ⟨hS, .sl0 rfl⟩
    · cases h
      exact ⟨hS, .any rfl⟩

def Answers (nx : Next) (v : Value) : Prop := nx = .value v ∨ nx = .skip ∧ v = undef

theorem optR {x : Option Operand} {b : Option AV} (hS : RelS G w σ) (henv : ∀ i, AVR G w (a.tmps.getD i undef) (ρ i)) (h : evalOpt ρ σ x = some b) : OptR G w (x.map a.eval) b := by
  cases x with
  | none => simp [evalOpt] at h; subst h; trivial
  | some o =>
    simp only [evalOpt] at h
    cases ho : evalA ρ σ o with
    | none => simp [ho] at h
    | some av => simp [ho] at h; subst h; exact evalA_sound hS henv ho

theorem pick_sound {t : Bool} {x y : Value} {p q : AV} (hx : AVR G w x p) (hy : AVR G w y q) : AVR G w (if t then x else y) (pickA t p q) := by
  have gen : AVR G w (if t then x else y) (if t then p else q) := by
    cases t
    · exact hy
    · exact hx
  cases p with
  | v xv =>
    cases q with
    | v yv =>
      cases xv with
      | bool b =>
        cases yv with
        | bool c =>
          rw [hx.v_eq, hy.v_eq]
          cases t <;> exact .v rfl
        | _ => exact gen
      | _ => exact gen
    | _ => cases xv <;> exact gen
  | _ => exact gen

theorem map_some {α β : Type} {f : α → β} {o : Option α} {b : β} (h : o.map f = some b) : ∃ c, o = some c ∧ f c = b := by
  cases o with
  | none => simp at h
  | some c => exact ⟨c, rfl, by simpa using h⟩

theorem builtin_sound {b : Builtin} {ts : List TypeId} {as9 : List AV} {av : AV} {σ' : St} {ty : TypeId} (hS : RelS G w σ) (h : builtinA P b ts as9 σ = some (av, σ')) (xs : Array Value) (hl : xs.size = as9.length)
    (hr : ∀ (j : Nat) x b, xs[j]? = some x → as9[j]? = some b → AVR G w x b) : ∃ v w' G', (∀ consts, (builtin b ts.toArray ty consts xs).run P w = .ok (.value v) w') ∧ Ext G w G' w' ∧ RelS G' w' σ' ∧ AVR G' w' v av := by
  unfold builtinA at h
  split at h
  · obtain ⟨b, hb, e⟩ := map_some h
    cases e
    rename_i t a1
    obtain ⟨x, rfl⟩ : ∃ x, xs = #[x] := by
      match xs, hl with
      | ⟨[x]⟩, _ => exact ⟨x, rfl⟩
    obtain ⟨v, hv, hav⟩ := lenA_sound (P := P) (ty := ty) (hr 0 x a1 rfl rfl) hb
    refine ⟨v, w, G, fun _ => ?_, .refl _ _, hS, hav⟩; simp only [builtin, Sem.run_bind, hv, Result.andThen_ok, Sem.run_pure]
  · split at h
    · rename_i t u a1 a2 htu
      subst htu
      obtain ⟨x, y, rfl⟩ : ∃ x y, xs = #[x, y] := by
        match xs, hl with
        | ⟨[x, y]⟩, _ => exact ⟨x, y, rfl⟩
      obtain ⟨v, w', G', hv, h1, h2, h3⟩ := appendA_sound (P := P) (ty := ty) hS (hr 0 x a1 rfl rfl) (hr 1 y a2 rfl rfl) h
      refine ⟨v, w', G', fun _ => ?_, h1, h2, h3⟩; simp only [builtin, Sem.run_bind, hv, Result.andThen_ok, Sem.run_pure]
    · rename_i t u a1 a2 htu
      obtain ⟨x, y, rfl⟩ : ∃ x y, xs = #[x, y] := by
        match xs, hl with
        | ⟨[x, y]⟩, _ => exact ⟨x, y, rfl⟩
      split at h
      case h_2 => cases h
      rename_i ku hku
      obtain ⟨v, w', G', hv, h1, h2, h3⟩ := appendZA_sound (P := P) (ty := ty) hS (hr 0 x a1 rfl rfl) (hr 1 y a2 rfl rfl) hku h
      refine ⟨v, w', G', fun _ => ?_, h1, h2, h3⟩; simp only [builtin, Sem.run_bind, hv, Result.andThen_ok, Sem.run_pure]
  · obtain ⟨b, hb, e⟩ := map_some h
    cases e
    rename_i t a1
    obtain ⟨x, rfl⟩ : ∃ x, xs = #[x] := by
      match xs, hl with
      | ⟨[x]⟩, _ => exact ⟨x, rfl⟩
    obtain ⟨v, hv, hav⟩ := capA_sound (P := P) (ty := ty) hS (hr 0 x a1 rfl rfl) hb
    refine ⟨v, w, G, fun _ => ?_, .refl _ _, hS, hav⟩; simp only [builtin, Sem.run_bind, hv, Result.andThen_ok, Sem.run_pure]
  · rename_i t u a1 a2
    obtain ⟨x, y, rfl⟩ : ∃ x y, xs = #[x, y] := by
      match xs, hl with
      | ⟨[x, y]⟩, _ => exact ⟨x, y, rfl⟩
    obtain ⟨v, w', G', hv, h1, h2, h3⟩ := copyA_sound (P := P) (ty := ty) (u := u) hS (hr 0 x a1 rfl rfl) (hr 1 y a2 rfl rfl) h
    refine ⟨v, w', G', fun _ => ?_, h1, h2, h3⟩; simp only [builtin, Sem.run_bind, hv, Result.andThen_ok, Sem.run_pure]
  · rename_i t a1
    obtain ⟨x, rfl⟩ : ∃ x, xs = #[x] := by
      match xs, hl with
      | ⟨[x]⟩, _ => exact ⟨x, rfl⟩
    obtain ⟨v, w', G', hv, h1, h2, h3⟩ := clearA_sound (P := P) (ty := ty) hS (hr 0 x a1 rfl rfl) h
    refine ⟨v, w', G', fun _ => ?_, h1, h2, h3⟩; simp only [builtin, Sem.run_bind, hv, Result.andThen_ok, Sem.run_pure]
  · cases h

theorem op_sound {o : Oper} {av : AV} {σ' : St} (hS : RelS G w σ) (henv : ∀ i, AVR G w (a.tmps.getD i undef) (ρ i)) (h : opA P ρ σ o.op = some (av, σ')) :
    ∃ nx v w' G', (execOp a.eval o).run P w = .ok nx w' ∧ Answers nx v ∧ Ext G w G' w' ∧ RelS G' w' σ' ∧ AVR G' w' v av := by
  have E : ∀ {x : Operand} {b : AV}, evalA ρ σ x = some b → AVR G w (a.eval x) b := fun h => evalA_sound hS henv h
  have pure1 : ∀ {s : Sem Value} {v : Value} {b : AV}, σ' = σ → b = av → s.run P w = .ok v w → AVR G w v b → (execOp a.eval o = do pure (.value (← s))) → ∃ nx v w' G', (execOp a.eval o).run P w = .ok nx w' ∧ Answers nx v ∧ Ext G w G' w' ∧ RelS G' w' σ' ∧ AVR G' w' v av := by
    intro s v b e1 e2 hr hv he
    subst e1; subst e2
    refine ⟨.value v, v, w, G, ?_, .inl rfl, .refl _ _, hS, hv⟩
    rw [he]
    simp only [Sem.run_bind, hr, Result.andThen_ok, Sem.run_pure]
  have hx : ∀ op, o.op = op → execOp a.eval o = execOp a.eval { o with op := op } := fun op e => by rw [← e]
  cases hop : o.op with
  | move x =>
    rw [hop] at h
    obtain ⟨b, hb, e⟩ := map_some h
    cases e
    exact ⟨.value (a.eval x), _, w, G, by rw [hx _ hop]; rfl, .inl rfl, .refl _ _, hS, E hb⟩
  | assign x =>
    rw [hop] at h
    obtain ⟨b, hb, e⟩ := map_some h
    cases e
    exact ⟨.value (a.eval x), _, w, G, by rw [hx _ hop]; rfl, .inl rfl, .refl _ _, hS, E hb⟩
  | pick c x y =>
    rw [hop] at h
    simp only [opA] at h
    split at h
    · rename_i t p q hc hp hq
      cases h
      refine ⟨.value (if t then a.eval x else a.eval y), _, w, G, ?_, .inl rfl, .refl _ _, hS, pick_sound (E hp) (E hq)⟩
      rw [hx _ hop]
      have := (E hc).v_eq
      simp only [execOp, this, asBool, Sem.run_bind, Sem.run_pure, Result.andThen_ok]
    · cases h
  | alloc t =>
    rw [hop] at h
    obtain ⟨z, hz, e⟩ := map_some h
    cases e
    obtain ⟨zv, hzr, hzv⟩ := zeroA_sound (G := G) (w := w) hz
    obtain ⟨hl, hr⟩ := hzv.cells_eq
    obtain ⟨G', hE, hS', hpl⟩ := newObj_sound hS t zv.cells z.cells hl hr
    refine ⟨.value (.pointer (some ⟨w.heap.size, 0, none⟩)), _, _, G', ?_, .inl rfl, hE, hS', .ptr hpl⟩
    rw [hx _ hop]
    simp only [execOp, Instr.alloc, Sem.run_bind, hzr, Result.andThen_ok, newVar, newRow, Sem.run_pure, run_newObj]
    rfl
  | box t x =>
    rw [hop] at h
    obtain ⟨z, hz, e⟩ := map_some h
    cases e
    obtain ⟨hl, hr⟩ := (E hz).cells_eq
    obtain ⟨G', hE, hS', hpl⟩ := newObj_sound hS t (a.eval x).cells z.cells hl hr
    refine ⟨.value (.pointer (some ⟨w.heap.size, 0, none⟩)), _, _, G', ?_, .inl rfl, hE, hS', .ptr hpl⟩
    rw [hx _ hop]
    simp only [execOp, Instr.box, Sem.run_bind, Result.andThen_ok, newVar, newRow, Sem.run_pure, run_newObj]
    rfl
  | build t parts =>
    rw [hop] at h
    simp only [opA] at h
    split at h
    · rename_i ps hps
      obtain ⟨b, hb, e⟩ := map_some h
      cases e
      obtain ⟨v, hv, hav⟩ := build_sound (P := P) (evalsA_sound hS henv hps) hb
      refine pure1 rfl rfl hv hav ?_
      rw [hx _ hop]
      simp only [execOp]
      congr 2
      apply Array.ext'
      simp
    · cases h
  | buildSlice t len parts =>
    rw [hop] at h
    simp only [opA] at h
    split at h
    · rename_i ps hps
      obtain ⟨b, hb, e⟩ := map_some h
      cases e
      obtain ⟨v, w', G', hv, hE, hS', hav⟩ := buildSlice_sound (P := P) hS (evalsA_sound hS henv hps) hb
      refine ⟨.value v, v, w', G', ?_, .inl rfl, hE, hS', hav⟩
      rw [hx _ hop]
      have hm : (parts.map fun (p : Nat × Operand) => (p.1, a.eval p.2)) = (List.map (fun p => (p.1, a.eval p.2)) parts.toList).toArray := by
        apply Array.ext'; simp
      have : (fun (x : Nat × Operand) => match x with | (i, y) => (i, a.eval y)) = fun p => (p.1, a.eval p.2) := by funext ⟨_, _⟩; rfl
      simp only [execOp, this, hm, Sem.run_bind, hv, Result.andThen_ok, Sem.run_pure]
    · cases h
  | load t x =>
    rw [hop] at h
    simp only [opA] at h
    split at h
    · rename_i p hp
      obtain ⟨b, hb, e⟩ := map_some h
      cases e
      obtain ⟨v, hv, hav⟩ := loadA_sound (P := P) hS (E hp) hb
      exact pure1 rfl rfl hv hav (hx _ hop)
    · cases h
  | store t x y =>
    rw [hop] at h
    simp only [opA] at h
    split at h
    · rename_i p q hp hq
      obtain ⟨b, hb, e⟩ := map_some h
      cases e
      obtain ⟨w', hr, hE, hS'⟩ := storeA_sound (P := P) hS (E hp) (E hq) hb
      refine ⟨.skip, undef, w', G, ?_, .inr ⟨rfl, rfl⟩, hE, hS', .v rfl⟩
      rw [hx _ hop]
      simp only [execOp, Sem.run_bind, hr, Result.andThen_ok, Sem.run_pure]
    · cases h
  | nilCheck x =>
    rw [hop] at h
    simp only [opA] at h
    split at h
    · rename_i id off hp
      cases h
      have := E hp
      cases hv : a.eval x with
      | pointer q =>
        rw [hv] at this
        cases this
        exact ⟨.value (a.eval x), _, w, G, by rw [hx _ hop, hv]; simp [execOp, hv], .inl rfl, .refl _ _, hS, E hp⟩
      | _ => rw [hv] at this; cases this
    · rename_i k g off hp
      cases h
      have := E hp
      cases hv : a.eval x with
      | pointer q =>
        rw [hv] at this
        cases this
        exact ⟨.value (a.eval x), _, w, G, by rw [hx _ hop, hv]; simp [execOp, hv], .inl rfl, .refl _ _, hS, E hp⟩
      | _ => rw [hv] at this; cases this
    · rename_i cs hp
      cases h
      obtain ⟨b, o', he, _⟩ := view_ep (E hp)
      exact ⟨.value (a.eval x), _, w, G, by rw [hx _ hop, he]; simp [execOp, he], .inl rfl, .refl _ _, hS, E hp⟩
    · rename_i f cs hp
      cases h
      have := E hp
      cases hv : a.eval x with
      | func fn first caps =>
        rw [hv] at this
        cases this
        exact ⟨.value (a.eval x), _, w, G, by rw [hx _ hop, hv]; simp [execOp, hv], .inl rfl, .refl _ _, hS, E hp⟩
      | _ => rw [hv] at this; cases this
    · cases h
  | binOp op t x y yt =>
    rw [hop] at h
    simp only [opA] at h
    split at h
    · rename_i p q hp hq
      obtain ⟨b, hb, e⟩ := map_some h
      cases e
      obtain ⟨v, hv, hav⟩ := binA_sound (P := P) (E hp) (E hq) hb
      exact pure1 rfl rfl hv hav (hx _ hop)
    · cases h
  | unOp op t x =>
    rw [hop] at h
    simp only [opA] at h
    split at h
    · rename_i p hp
      obtain ⟨b, hb, e⟩ := map_some h
      cases e
      obtain ⟨v, hv, hav⟩ := unA_sound (P := P) (E hp) hb
      exact pure1 rfl rfl hv hav (hx _ hop)
    · cases h
  | convert s d x =>
    rw [hop] at h
    simp only [opA] at h
    split at h
    · rename_i p hp
      obtain ⟨b, hb, e⟩ := map_some h
      cases e
      obtain ⟨v, hv, hav⟩ := convA_sound (P := P) (E hp) hb
      exact pure1 rfl rfl hv hav (hx _ hop)
    · cases h
  | sliceToArrayPointer t x =>
    rw [hop] at h
    simp only [opA] at h
    split at h
    · rename_i id off sz n m e hp hm
      split at h
      · rename_i hle
        cases h
        have hb := E hp
        generalize hv : a.eval x = v at hb
        cases hb with
        | bs hpl hc =>
          rename_i b c
          have hrun : (Instr.arrayAt t (a.eval x)).run P w = .ok (.pointer (some ⟨b, off, none⟩)) w := by
            have hlt : ¬ n < m := by omega
            simp [Instr.arrayAt, run_underlying (arrT_some hm), hv, hlt]
          exact pure1 rfl rfl hrun (.ptr hpl) (hx _ hop)
      · cases h
    · cases h
  | slice t x lo hi mx =>
    rw [hop] at h
    simp only [opA] at h
    split at h
    · rename_i p l h' m hp hl hh hm
      split at h
      · obtain ⟨v, hv, G', hE, hS', hav⟩ := sliceRowA_sound (P := P) hS (E hp) (optR hS henv hl) (optR hS henv hh) (optR hS henv hm) h
        refine ⟨.value v, v, w, G', ?_, .inl rfl, hE, hS', hav⟩
        rw [hx _ hop]
        have he : execOp a.eval { o with op := .slice t x lo hi mx } = (do pure (.value (← Instr.sliceAt t (a.eval x) (lo.map a.eval) (hi.map a.eval) (mx.map a.eval))) : Sem Next) := rfl
        rw [he]
        simp only [Sem.run_bind, hv, Result.andThen_ok, Sem.run_pure]
      obtain ⟨b, hb, e⟩ := map_some h
      cases e
      obtain ⟨v, hv, hav⟩ := sliceA_sound (P := P) (E hp) (optR hS henv hl) (optR hS henv hh) (optR hS henv hm) hb
      exact pure1 rfl rfl hv hav (hx _ hop)
    · cases h
  | makeSlice t x y =>
    rw [hop] at h
    simp only [opA] at h
    split at h
    · rename_i p q hp hq
      obtain ⟨v, w', G', hv, hE, hS', hav⟩ := makeA_sound (P := P) hS (E hp) (E hq) h
      refine ⟨.value v, v, w', G', ?_, .inl rfl, hE, hS', hav⟩
      rw [hx _ hop]
      have he : execOp a.eval { o with op := .makeSlice t x y } = (do pure (.value (← Instr.makeSlice t (a.eval x) (a.eval y))) : Sem Next) := rfl
      rw [he]
      simp only [Sem.run_bind, hv, Result.andThen_ok, Sem.run_pure]
    · cases h
  | fieldAddr t x f =>
    rw [hop] at h
    simp only [opA] at h
    split at h
    · rename_i p hp
      obtain ⟨b, hb, e⟩ := map_some h
      cases e
      obtain ⟨v, hv, hav⟩ := fieldAddrA_sound (P := P) (E hp) hb
      exact pure1 rfl rfl hv hav (hx _ hop)
    · cases h
  | field t x f =>
    rw [hop] at h
    simp only [opA] at h
    split at h
    · rename_i p hp
      obtain ⟨b, hb, e⟩ := map_some h
      cases e
      obtain ⟨v, hv, hav⟩ := fieldA_sound (P := P) (E hp) hb
      exact pure1 rfl rfl hv hav (hx _ hop)
    · cases h
  | indexAddr t x y =>
    rw [hop] at h
    simp only [opA] at h
    split at h
    · rename_i p q hp hq
      obtain ⟨b, hb, e⟩ := map_some h
      cases e
      obtain ⟨v, hv, hav⟩ := indexAddrA_sound (P := P) (E hp) (E hq) hb
      exact pure1 rfl rfl hv hav (hx _ hop)
    · cases h
  | index t x y =>
    rw [hop] at h
    simp only [opA] at h
    split at h
    · rename_i p q hp hq
      obtain ⟨b, hb, e⟩ := map_some h
      cases e
      obtain ⟨v, hv, hav⟩ := indexA_sound (P := P) (E hp) (E hq) hb
      exact pure1 rfl rfl hv hav (hx _ hop)
    · cases h
  | extract x i =>
    rw [hop] at h
    simp only [opA] at h
    split at h
    · rename_i vs hp
      obtain ⟨b, hb, e⟩ := map_some h
      cases e
      have hp' := E hp
      cases hv : a.eval x with
      | tuple us =>
        rw [hv] at hp'
        cases hp' with
        | tup hl hr =>
        have hlt : i < us.size := by rw [hl]; exact (List.getElem?_eq_some_iff.1 hb).1
        refine pure1 (s := Instr.extract (a.eval x) i) rfl rfl ?_ (hr i us[i] _ (by simp [hlt]) hb) (hx _ hop)
        rw [hv]
        simp [Instr.extract, hlt]
      | _ => rw [hv] at hp'; cases hp'
    · cases h
  | makeFunc fn first caps =>
    rw [hop] at h
    cases fn with
    | func f =>
      simp only [opA] at h
      split at h
      · rename_i h0
        have e1 : first = #[] := Array.eq_empty_of_size_eq_zero h0
        subst e1
        obtain ⟨b, hb, e⟩ := map_some h
        cases e
        obtain ⟨hl, hr⟩ := forall2_get (evalAll_sound hS henv hb)
        refine pure1 (s := Instr.makeFunc (.func f) (#[].map a.eval) (caps.map a.eval)) (v := .func (.func f) #[] (caps.map a.eval)) rfl rfl (by simp [Instr.makeFunc]) (.fn (by simpa using hl) (fun j x av hj ha => hr j x av ?_ ha)) (hx _ hop)
        have : (caps.map a.eval).toList[j]? = some x := by simpa using hj
        simpa using this
      · cases h
    | _ => simp [opA] at h
  | call c =>
    rw [hop] at h
    simp only [opA] at h
    split at h
    · rename_i bi hbi
      split at h
      · rename_i as9 has
        obtain ⟨hl, hr⟩ := forall2_get (evalAll_sound hS henv has)
        obtain ⟨v, w', G', hr, h1, h2, h3⟩ := builtin_sound (ty := o.type) hS h (c.args.map a.eval) (by simpa using hl) (fun j x b hj hb => hr j x b (by
          have : (c.args.map a.eval).toList[j]? = some x := by simpa using hj
          simpa using this) hb)
        refine ⟨.value v, v, w', G', ?_, .inl rfl, h1, h2, h3⟩
        rw [hx _ hop]
        simp only [execOp, resolve, hbi, Sem.run_bind, Sem.run_pure, Result.andThen_ok, invoke]
        exact hr _
      · cases h
    · cases h
  | _ => rw [hop] at h; simp [opA] at h

end
end Go.Vm
