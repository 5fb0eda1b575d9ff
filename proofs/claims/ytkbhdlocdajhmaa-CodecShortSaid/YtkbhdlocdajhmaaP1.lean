import Derived.Test.YtkbhdlocdajhmaaD5
import Derived.Test.YtkbhdlocdajhmaaW1
/-
  What was read of a list of coins is what writing it again lays: the plain law.
-/
namespace Go.Proofs.Ytkbhdlocdajhmaa
set_option linter.unnecessarySimpa false
open Go Go.Vm
set_option linter.unusedVariables false

theorem be_cons_pos {b : UInt8} {l : List UInt8} (h : b ≠ 0) : 0 < be (b :: l) := by
  induction l using snoc_ind with
  | h0 =>
    have : b.toNat ≠ 0 := fun e => h (UInt8.toNat_inj.1 e)
    simp [be]; omega
  | hs l c ih =>
    rw [← List.cons_append, be_snoc]; omega

theorem natBytes_be {b : UInt8} {l : List UInt8} (h : b ≠ 0) : natBytes (be (b :: l)) = b :: l := by
  induction l using snoc_ind with
  | h0 =>
    have hb : b.toNat ≠ 0 := fun e => h (UInt8.toNat_inj.1 e)
    have hlt := b.toNat_lt
    have e : be [b] = b.toNat := by simp [be]
    rw [e, natBytes_pos (by omega), show b.toNat / 256 = 0 by omega, natBytes_zero, show b.toNat % 256 = b.toNat by omega]
    simp
  | hs l c ih =>
    have hp := be_cons_pos (l := l) h
    have hc := c.toNat_lt
    rw [← List.cons_append, be_snoc, natBytes_pos (by omega), show (be (b :: l) * 256 + c.toNat) / 256 = be (b :: l) by omega, show (be (b :: l) * 256 + c.toNat) % 256 = c.toNat by omega, ih]
    simp

theorem natBytes_numOf {p : List UInt8} (h : numOk p = true) : natBytes (numOf p) = p := by
  simp only [numOf, h, if_true]
  cases p with
  | nil => simp [be, natBytes_zero]
  | cons b l =>
    refine natBytes_be ?_
    simp [numOk] at h
    exact h.2

theorem takeS_split {n : Nat} {p q : List UInt8} (h : takeS n (some p) = some q) : p = takeB n (some p) ++ q ∧ (takeB n (some p)).length = n := by
  unfold takeS at h
  unfold takeB
  by_cases hn : n ≤ p.length
  · simp only [hn, if_true] at h ⊢
    cases h
    simp; omega
  · simp [hn] at h

theorem byte_split {p q : List UInt8} (h : takeS 1 (some p) = some q) : p = byteS (some p) :: q := by
  obtain ⟨h1, h2⟩ := takeS_split h
  unfold byteS
  match hb : takeB 1 (some p), h2 with
  | [b], _ =>
    rw [hb] at h1
    simpa using h1

theorem num_split {p q : List UInt8} (h : numS (some p) = some q) : p = encN (numOf (numB (some p))) ++ q := by
  unfold numS at h
  split at h
  · rename_i hok
    cases h1 : takeS 1 (some p) with
    | none => rw [h1] at h; simp [takeS] at h
    | some p1 =>
      have e1 := byte_split h1
      rw [h1] at h
      obtain ⟨e2, e3⟩ := takeS_split h
      have e4 : numB (some p) = takeB (be (takeB 1 (some p))) (some p1) := by rw [numB, h1]
      rw [← e4] at e2 e3
      rw [encN, natBytes_numOf hok, e3, be_byteS]
      have : UInt8.ofNat (byteS (some p)).toNat = byteS (some p) := by simp
      rw [this, List.cons_append, ← e2]
      exact e1
  · cases h

theorem coin_split {p q : List UInt8} (h : numS (takeS 1 (some p)) = some q) : p = encC (coinS (some p)) ++ q := by
  cases h1 : takeS 1 (some p) with
  | none => rw [h1] at h; simp [numS, takeS] at h
  | some p1 =>
    have e1 := byte_split h1
    rw [h1] at h
    have e2 := num_split h
    unfold encC coinS
    rw [h1]
    show p = byteS (some p) :: (encN (numOf (numB (some p1))) ++ q)
    rw [← e2]; exact e1

theorem coinsGo_split : ∀ (m : Nat) (p : List UInt8) (l L : List Coin) (q : List UInt8), coinsGo m (some p) l = (L, some q) → ∃ L2, L = l ++ L2 ∧ L2.length = m ∧ p = encCs L2 ++ q
  | 0, p, l, L, q, h => by
    simp [coinsGo] at h
    exact ⟨[], by simp [h.1], rfl, by simp [encCs, h.2]⟩
  | m + 1, p, l, L, q, h => by
    simp only [coinsGo] at h
    cases h1 : numS (takeS 1 (some p)) with
    | none =>
      rw [h1, coinsGo_stop (.inr rfl)] at h
      cases h
    | some p2 =>
      rw [h1] at h
      obtain ⟨L2, e1, e2, e3⟩ := coinsGo_split m p2 _ L q h
      refine ⟨coinS (some p) :: L2, by rw [e1]; simp, by simp [e2], ?_⟩
      have e4 := coin_split h1
      have e5 : encCs (coinS (some p) :: L2) = encC (coinS (some p)) ++ encCs L2 := by simp [encCs]
      rw [e5, List.append_assoc, ← e3]
      exact e4

theorem coins_split {p q : List UInt8} (h : coinsS (some p) = some q) : p = encL (coinsL (some p)) ++ q := by
  have hl : coinsL (some p) = (coinsR (some p)).1 := by unfold coinsL; rw [h]; simp
  have hr : (coinsR (some p)).2 = some q := by
    unfold coinsS at h
    split at h
    · exact h
    · cases h
  cases h1 : takeS 1 (some p) with
  | none =>
    unfold coinsR at hr
    rw [h1, coinsGo_stop (.inr rfl)] at hr
    cases hr
  | some p1 =>
    have e1 := byte_split h1
    have e0 : coinsR (some p) = coinsGo (be (takeB 1 (some p))) (some p1) [] := by unfold coinsR; rw [h1]
    obtain ⟨L2, g1, g2, g3⟩ := coinsGo_split (be (takeB 1 (some p))) p1 [] (coinsR (some p)).1 q (by rw [← e0, ← hr])
    rw [hl, g1, List.nil_append, encL, g2, be_byteS]
    have : UInt8.ofNat (byteS (some p)).toNat = byteS (some p) := by simp
    rw [this, List.cons_append, ← g3]
    exact e1

end Go.Proofs.Ytkbhdlocdajhmaa
