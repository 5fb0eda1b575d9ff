import Derived.Test.YtkbhdlocdajhmaaP1
import Derived.Test.YtkbhdlocdajhmaaD7
import Derived.Test.YtkbhdlocdajhmaaE4
/-
  What was laid of a part reads back, and what was cut does not: the plain law.
-/
namespace Go.Proofs.Ytkbhdlocdajhmaa
set_option linter.unnecessarySimpa false
set_option linter.unusedSimpArgs false
open Go Go.Vm
set_option linter.unusedVariables false

theorem takeS_app {E q : List UInt8} {n : Nat} (h : E.length = n) : takeS n (some (E ++ q)) = some q ∧ takeB n (some (E ++ q)) = E := by
  subst h
  simp [takeS, takeB]
theorem take_cut {p : List UInt8} {n : Nat} (h : p.length < n) : takeS n (some p) = none ∧ takeB n (some p) = [] := by
  have h1 : ¬ n ≤ p.length := by omega
  simp [takeS, takeB, h1]

theorem byte_app (b : UInt8) (q : List UInt8) : takeS 1 (some (b :: q)) = some q ∧ takeB 1 (some (b :: q)) = [b] := takeS_app (E := [b]) rfl

theorem be_natBytes (x : Nat) : be (natBytes x) = x := by
  induction x using Nat.strongRecOn with
  | _ x ih =>
    by_cases h : x = 0
    · subst h; simp [natBytes_zero, be]
    · rw [natBytes_pos (by omega), be_snoc, ih (x / 256) (by omega), toNat_ofNat (by omega)]
      omega

theorem natBytes_head (x : Nat) : (natBytes x).headD 1 ≠ 0 := by
  induction x using Nat.strongRecOn with
  | _ x ih =>
    by_cases h : x = 0
    · subst h; simp [natBytes_zero]
    · rw [natBytes_pos (by omega)]
      by_cases h2 : x / 256 = 0
      · rw [h2, natBytes_zero]
        simp only [List.nil_append, List.headD_cons]
        intro e
        have := congrArg UInt8.toNat e
        rw [toNat_ofNat (by omega)] at this
        simp at this; omega
      · have h3 := ih (x / 256) (by omega)
        cases h4 : natBytes (x / 256) with
        | nil => exact absurd (natBytes_nil.1 h4) h2
        | cons b l => rw [h4] at h3; simpa using h3

theorem natBytes_le {x : Nat} (hx : x < 2 ^ 256) : (natBytes x).length ≤ 32 := natBytes_len x 32 (by simpa using hx)

theorem natBytes_ok {x : Nat} (hx : x < 2 ^ 256) : numOk (natBytes x) = true := by
  have h1 := natBytes_le hx
  have h2 := natBytes_head x
  simp only [numOk, Bool.and_eq_true, decide_eq_true_eq, bne_iff_ne]
  exact ⟨h1, h2⟩

theorem num_app {x : Nat} (hx : x < 2 ^ 256) (q : List UInt8) : numS (some (encN x ++ q)) = some q ∧ numOf (numB (some (encN x ++ q))) = x := by
  have hle := natBytes_le hx
  obtain ⟨h1, h2⟩ := byte_app (UInt8.ofNat (natBytes x).length) (natBytes x ++ q)
  have h3 : be [UInt8.ofNat (natBytes x).length] = (natBytes x).length := by
    have : (UInt8.ofNat (natBytes x).length).toNat = (natBytes x).length := toNat_ofNat (by omega)
    simp only [be, List.foldl_cons, List.foldl_nil]
    omega
  obtain ⟨h4, h5⟩ := takeS_app (E := natBytes x) (q := q) rfl
  have hb : numB (some (encN x ++ q)) = natBytes x := by
    show takeB (be (takeB 1 (some (UInt8.ofNat (natBytes x).length :: (natBytes x ++ q))))) (takeS 1 (some (UInt8.ofNat (natBytes x).length :: (natBytes x ++ q)))) = _
    rw [h1, h2, h3, h5]
  have hok := natBytes_ok hx
  refine ⟨?_, by rw [hb, numOf, hok]; simpa using be_natBytes x⟩
  unfold numS
  rw [hb, hok]
  show (if true = true then takeS (be (takeB 1 (some (UInt8.ofNat (natBytes x).length :: (natBytes x ++ q))))) (takeS 1 (some (UInt8.ofNat (natBytes x).length :: (natBytes x ++ q)))) else none) = _
  rw [h1, h2, h3, h4]
  rfl

theorem num_cut {x j : Nat} (hx : x < 2 ^ 256) (hj : j < (encN x).length) : numS (some ((encN x).take j)) = none := by
  have hle := natBytes_le hx
  cases j with
  | zero => simp [numS, takeS]
  | succ j =>
    have hj : j < (natBytes x).length := by simpa [encN] using hj
    obtain ⟨h1, h2⟩ := byte_app (UInt8.ofNat (natBytes x).length) ((natBytes x).take j)
    have h3 : be [UInt8.ofNat (natBytes x).length] = (natBytes x).length := by
      have : (UInt8.ofNat (natBytes x).length).toNat = (natBytes x).length := toNat_ofNat (by omega)
      simp only [be, List.foldl_cons, List.foldl_nil]
      omega
    unfold numS
    rw [show (encN x).take (j + 1) = UInt8.ofNat (natBytes x).length :: (natBytes x).take j by simp [encN], h1, h2, h3, (take_cut (by simp; omega)).1]
    simp

theorem coin_app (c : Coin) (q : List UInt8) : numS (takeS 1 (some (encC c ++ q))) = some q ∧ coinS (some (encC c ++ q)) = c := by
  obtain ⟨h1, h2⟩ := byte_app c.d (encN c.n.v ++ q)
  obtain ⟨h3, h4⟩ := num_app c.n.h q
  have e : encC c ++ q = c.d :: (encN c.n.v ++ q) := by simp [encC]
  rw [e, h1]
  refine ⟨h3, ?_⟩
  unfold coinS
  rw [h1]
  refine Coin.ext ?_ (Num.ext h4)
  show byteS (some (c.d :: (encN c.n.v ++ q))) = c.d
  unfold byteS
  rw [h2]; rfl

theorem coin_cut {c : Coin} {j : Nat} (hj : j < (encC c).length) : numS (takeS 1 (some ((encC c).take j))) = none := by
  cases j with
  | zero => simp [numS, takeS]
  | succ j =>
    have hj : j < (encN c.n.v).length := by simpa [encC] using hj
    rw [show (encC c).take (j + 1) = c.d :: (encN c.n.v).take j by simp [encC], (byte_app _ _).1]
    exact num_cut c.n.h hj

theorem coinsGo_app : ∀ (L : List Coin) (q : List UInt8) (l : List Coin), coinsGo L.length (some (encCs L ++ q)) l = (l ++ L, some q)
  | [], q, l => by simp [coinsGo, encCs]
  | c :: L, q, l => by
    have e : encCs (c :: L) ++ q = encC c ++ (encCs L ++ q) := by simp [encCs]
    obtain ⟨h1, h2⟩ := coin_app c (encCs L ++ q)
    rw [e]
    simp only [List.length_cons, coinsGo]
    rw [h1, h2, coinsGo_app L q]
    simp

theorem coinsGo_cut : ∀ (L : List Coin) (j : Nat) (l : List Coin), j < (encCs L).length → (coinsGo L.length (some ((encCs L).take j)) l).2 = none
  | [], j, l, h => by simp [encCs] at h
  | c :: L, j, l, h => by
    have e : encCs (c :: L) = encC c ++ encCs L := by simp [encCs]
    rw [e] at h ⊢
    simp only [List.length_cons, coinsGo]
    by_cases hj : j < (encC c).length
    · rw [List.take_append_of_le_length (by omega), coin_cut hj, coinsGo_stop (.inr rfl)]
    · have e2 : (encC c ++ encCs L).take j = encC c ++ (encCs L).take (j - (encC c).length) := by
        rw [List.take_append, List.take_of_length_le (by omega)]
      rw [e2, (coin_app c _).1]
      exact coinsGo_cut L _ _ (by simp at h; omega)

theorem len_byte {L : List Coin} (hL : L.length ≤ 255) : be [UInt8.ofNat L.length] = L.length := by
  have : (UInt8.ofNat L.length).toNat = L.length := toNat_ofNat (by omega)
  simp only [be, List.foldl_cons, List.foldl_nil]
  omega

theorem coins_app {L : List Coin} (hL : L.length ≤ 255) (hR : Right L) (q : List UInt8) : coinsS (some (encL L ++ q)) = some q := by
  obtain ⟨h1, h2⟩ := byte_app (UInt8.ofNat L.length) (encCs L ++ q)
  have e : coinsR (some (encL L ++ q)) = (L, some q) := by
    show coinsGo (be (takeB 1 (some (UInt8.ofNat L.length :: (encCs L ++ q))))) (takeS 1 (some (UInt8.ofNat L.length :: (encCs L ++ q)))) [] = _
    rw [h1, h2, len_byte hL, coinsGo_app]; simp
  unfold coinsS
  rw [e, if_pos hR]

theorem coins_cut {L : List Coin} {j : Nat} (hL : L.length ≤ 255) (hj : j < (encL L).length) : coinsS (some ((encL L).take j)) = none := by
  have e : (coinsR (some ((encL L).take j))).2 = none := by
    unfold coinsR
    cases j with
    | zero => simp [takeS]; exact congrArg Prod.snd (coinsGo_stop (.inr rfl))
    | succ j =>
      have hj : j < (encCs L).length := by simpa [encL] using hj
      rw [show (encL L).take (j + 1) = UInt8.ofNat L.length :: (encCs L).take j by simp [encL], (byte_app _ _).1, (byte_app _ _).2, len_byte hL]
      exact coinsGo_cut L j [] hj
  unfold coinsS
  split
  · exact e
  · rfl

theorem lstP_right (P : List Num) : ∀ d, d ≤ 8 → Right (lstP P d) ∧ ∀ c ∈ lstP P d, c.d.toNat < d
  | 0, _ => by simp [lstP, Right]
  | d + 1, h => by
    obtain ⟨h1, h2⟩ := lstP_right P d (by omega)
    have hk : ∀ c ∈ lstP P d, c.d.toNat < d + 1 := fun c hc => by have := h2 c hc; omega
    simp only [lstP]
    split
    · rename_i n hn
      split
      · simpa using ⟨h1, hk⟩
      · rename_i hz
        have e : (UInt8.ofNat d).toNat = d := toNat_ofNat (by omega)
        refine ⟨right_snoc.2 ⟨h1, ⟨by rw [e]; omega, hz⟩, fun b hb => by rw [e]; exact h2 b hb⟩, fun c hc => ?_⟩
        rcases List.mem_append.1 hc with hc | hc
        · exact hk c hc
        · simp at hc; subst hc; simp; omega
    · simpa using ⟨h1, hk⟩

theorem read_enc (x : PartP) (q : List UInt8) : readS x.k.toNat (some (encP x ++ q)) = some q := by
  unfold readS encP
  split
  · exact (byte_app _ _).1
  split
  · unfold flagS
    rw [show ([if limb x.n.v 0 % 2 = 1 then (1 : UInt8) else 0] ++ q) = (if limb x.n.v 0 % 2 = 1 then (1 : UInt8) else 0) :: q from rfl, (byte_app _ _).1, (byte_app _ _).2]
    split <;> simp [be]
  split
  · exact (takeS_app (nBytes_len _ _)).1
  split
  · exact (takeS_app (nBytes_len _ _)).1
  split
  · exact (num_app x.n.h q).1
  · exact coins_app (by have := lstP_len (ofP x.l) 8; omega) (lstP_right _ 8 (by omega)).1 q

theorem read_cut (x : PartP) (j : Nat) (hj : j < (encP x).length) : readS x.k.toNat (some ((encP x).take j)) = none := by
  unfold readS
  unfold encP at hj ⊢
  by_cases h0 : x.k.toNat % 6 = 0
  · simp only [h0, if_true] at hj ⊢
    exact (take_cut (by simp at hj ⊢; omega)).1
  simp only [h0, if_false] at hj ⊢
  by_cases h1 : x.k.toNat % 6 = 1
  · simp only [h1, if_true] at hj ⊢
    have hj0 : j = 0 := by simpa using hj
    subst hj0
    simp [flagS, takeS]
  simp only [h1, if_false] at hj ⊢
  by_cases h2 : x.k.toNat % 6 = 2
  · simp only [h2, if_true] at hj ⊢
    rw [nBytes_len] at hj
    exact (take_cut (by rw [List.length_take, nBytes_len]; omega)).1
  simp only [h2, if_false] at hj ⊢
  by_cases h3 : x.k.toNat % 6 = 3
  · simp only [h3, if_true] at hj ⊢
    rw [nBytes_len] at hj
    exact (take_cut (by rw [List.length_take, nBytes_len]; omega)).1
  simp only [h3, if_false] at hj ⊢
  by_cases h4 : x.k.toNat % 6 = 4
  · simp only [h4, if_true] at hj ⊢
    exact num_cut x.n.h hj
  simp only [h4, if_false] at hj ⊢
  exact coins_cut (by have := lstP_len (ofP x.l) 8; omega) hj

theorem read_none (k : Nat) : readS k none = none := by
  have h1 : takeB 1 none = [] := rfl
  have hb : be [] = 0 := rfl
  have hn : numS none = none := by simp [numS, takeS]
  have hc : coinsS none = none := by
    have e : (coinsR none).2 = none := by
      unfold coinsR
      rw [show takeS 1 none = none from rfl, coinsGo_stop (.inr rfl)]
    unfold coinsS
    split
    · exact e
    · rfl
  unfold readS
  rw [hn, hc]
  simp [takeS, flagS, h1, hb]

def encsP (l : List PartP) : List UInt8 := l.flatMap encP
def readsS (l : List PartP) (s : Option (List UInt8)) : Option (List UInt8) := l.foldl (fun s x => readS x.k.toNat s) s
theorem readsS_none : ∀ l : List PartP, readsS l none = none
  | [] => rfl
  | x :: l => by
    show readsS l (readS x.k.toNat none) = none
    rw [read_none]; exact readsS_none l
theorem readsS_cut : ∀ (l : List PartP) (j : Nat), j < (encsP l).length → readsS l (some ((encsP l).take j)) = none
  | [], j, h => by simp [encsP] at h
  | x :: l, j, h => by
    have e : encsP (x :: l) = encP x ++ encsP l := by simp [encsP]
    rw [e] at h ⊢
    show readsS l (readS x.k.toNat _) = none
    by_cases hj : j < (encP x).length
    · rw [List.take_append_of_le_length (by omega), read_cut x j hj]; exact readsS_none l
    · have e2 : (encP x ++ encsP l).take j = encP x ++ (encsP l).take (j - (encP x).length) := by
        rw [List.take_append, List.take_of_length_le (by omega)]
      rw [e2, read_enc]
      exact readsS_cut l _ (by simp at h; omega)

end Go.Proofs.Ytkbhdlocdajhmaa
