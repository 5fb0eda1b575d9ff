import Derived.Test.YtmponlabfccjaaaZ7
import Derived.Test.YtmponlabfccjaaaZ14
import Derived.Test.YtmponlabfccjaaaZ10
/-
  A bank in a store: sent, minted, burnt.
-/
namespace Go.Proofs.Ytmponlabfccjaaa
set_option linter.unnecessarySimpa false
set_option maxRecDepth 100000
open Go Go.Vm
set_option linter.unusedSimpArgs false
set_option linter.unusedVariables false
attribute [local simp] evalL wantedA isCall opA evalA evalAll evalsA evalOpt ofValue ofCell plain binA_eql_pn binA_neq_pn binA_gtr binA_lss binA_geq binA_leq binA_add binA_sub binA_eql binA_neq binA_orI binA_shl binA_shr binA_mul binA_quo binA_rem binA_agg_eql binA_agg_neq convA_int unA_not fieldAddrA loadA partA pickA_true pickA_false pickA_bb lenA builtinA storeA splice AV.cells AV.isCell sliceA boundA intA callOf indexAddrA newObjA buildA fillA zeroA ofCells buildSliceA indexA fieldA set_appN get_appN take_appN List.getElem?_cons_zero List.getElem?_cons_succ get_sa0 get_sa1 get_sa2 get_sa3 set_sa0 set_sa1 set_sa2 set_sa3 sliceRowA binA_eqn binA_neqn drop_mr

theorem cRest_zero {a b : List Coin} : (cRest a b).length = 0 ↔ cWith a b := by
  constructor
  · intro h d hd
    have e := amt_cRest a b hd
    rw [List.eq_nil_of_length_eq_zero h] at e
    have e0 : amt [] d = 0 := rfl
    omega
  · intro h
    refine Classical.byContradiction fun q => ?_
    have hR := right_cRest a b
    obtain ⟨c, hc⟩ := List.exists_mem_of_length_pos (Nat.pos_of_ne_zero q)
    have hd := (hR.1 c hc).1
    have hne := (hR.1 c hc).2
    rw [← amt_mem hR.2 hc, amt_cRest a b hd] at hne
    generalize c.d.toNat = d at hd hne
    have := h d hd
    omega
set_option maxHeartbeats 1600000 in
attribute [local simp] undefA List.getElem?_cons_zero List.getElem?_cons_succ in
theorem cwith_ok {σ : St} {a b : List Coin} (ha : a.length ≤ 9223372036854775807) (hb : b.length ≤ 9223372036854775807) :
    CallsA Try.prog 61 [.sl 5 (coinsC a) a.length .shut, .sl 5 (coinsC b) b.length .shut] σ (fun av σ' => av = .v (.bool (decide (cWith a b))) ∧ σ = σ') := by
  have hr := crest_ok (σ := σ) (ta := .shut) (tb := .shut) ha hb
  have hd : decide ((cRest a b).length = 0) = decide (cWith a b) := decide_eq_decide.2 cRest_zero
  have hdi : (((cRest a b).length : Int) == 0) = decide (cWith a b) := by rw [← hd, Bool.eq_iff_iff]; simp
  obtain ⟨R, hR⟩ : ∃ R, R = cRest a b := ⟨_, rfl⟩
  obtain ⟨B, hB⟩ : ∃ B, B = decide (cWith a b) := ⟨_, rfl⟩
  simp only [← hR] at hr hd hdi
  rw [← hB] at hd hdi ⊢
  have F := And.intro hd (And.intro hdi (True.intro))
  refine callsA_body Try.func61 rfl rfl rfl ?_; refine sr fun _ hJ2 => ?_; refine hJ2 _ _ ?_; refine sr fun _ hJ4 => ?_; refine ca (c := hr) (k := ?_); rintro _ _ ⟨rfl, rfl⟩; (repeat (first | simp [F] | simp (disch := omega) only [wC, if_pos, if_neg])); refine hJ4 _ _ ?_; refine ra ?_; exact ⟨by simp [hdi], rfl⟩

def sumTo (f : UInt8 → Nat) : Nat → Nat
  | 0 => 0
  | n + 1 => sumTo f n + f (UInt8.ofNat n)
theorem sumTo_upd {f g : UInt8 → Nat} {a : UInt8} (h : ∀ x, x ≠ a → g x = f x) : ∀ n, n ≤ 256 → sumTo g n + (if a.toNat < n then f a else 0) = sumTo f n + (if a.toNat < n then g a else 0)
  | 0, _ => rfl
  | n + 1, hn => by
    have ih := sumTo_upd h n (by omega)
    have ht : (UInt8.ofNat n).toNat = n := toNat_ofNat (by omega)
    simp only [sumTo]
    by_cases e : UInt8.ofNat n = a
    · have ea : a.toNat = n := by rw [← e, ht]
      rw [e, if_pos (by omega), if_pos (by omega)]
      rw [if_neg (by omega), if_neg (by omega)] at ih
      omega
    · have ea : a.toNat ≠ n := fun q => e (by rw [← q]; exact UInt8.toNat_inj.1 (toNat_ofNat a.toNat_lt))
      rw [h _ e]
      by_cases hlt : a.toNat < n
      · rw [if_pos hlt, if_pos hlt] at ih; rw [if_pos (by omega), if_pos (by omega)]; omega
      · rw [if_neg hlt, if_neg hlt] at ih; rw [if_neg (by omega), if_neg (by omega)]; omega
theorem sumTo_le {f : UInt8 → Nat} {a : UInt8} : ∀ n, n ≤ 256 → a.toNat < n → f a ≤ sumTo f n
  | 0, _, h => by omega
  | n + 1, hn, h => by
    simp only [sumTo]
    by_cases e : a.toNat = n
    · have : UInt8.ofNat n = a := by rw [← e]; exact UInt8.toNat_inj.1 (toNat_ofNat a.toNat_lt)
      rw [this]; omega
    · have := sumTo_le (f := f) n (by omega) (by omega : a.toNat < n)
      omega
def sumB (T : Tb) (d : Nat) : Nat := sumTo (fun a => amt (T (some a)) d) 256
theorem sumB_upd (T : Tb) (a : UInt8) (L : List Coin) (d : Nat) : sumB (upd T (some a) L) d + amt (T (some a)) d = sumB T d + amt L d := by
  have h := sumTo_upd (f := fun x => amt (T (some x)) d) (g := fun x => amt (upd T (some a) L (some x)) d) (a := a) (fun x hx => by
    show amt (upd T (some a) L (some x)) d = _
    rw [upd_ne _ _ (fun e => hx (Option.some.inj e))]) 256 (Nat.le_refl _)
  rw [if_pos a.toNat_lt, if_pos a.toNat_lt] at h
  simp only [upd_self] at h
  exact h
theorem sumB_none (T : Tb) (L : List Coin) (d : Nat) : sumB (upd T none L) d = sumB T d := by
  have : (fun x => amt (upd T none L (some x)) d) = fun x => amt (T (some x)) d := funext fun x => by rw [upd_ne _ _ (by simp)]
  unfold sumB; rw [this]
theorem sumB_le (T : Tb) (a : UInt8) (d : Nat) : amt (T (some a)) d ≤ sumB T d := sumTo_le (f := fun x => amt (T (some x)) d) 256 (Nat.le_refl _) a.toNat_lt
def SumT (T : Tb) : Prop := ∀ d, d < 8 → sumB T d = amt (T none) d

theorem upd_sn (U : Tb) (b : UInt8) (L : List Coin) : upd U (some b) L none = U none := upd_ne _ _ (by simp)
structure BR where
  T : Tb
  e : Nat
def sendB (T : Tb) (a b : UInt8) (l : List Coin) : BR :=
  if ¬ (isB a = true ∧ isB b = true ∧ Right l) then ⟨T, 1⟩ else if ¬ cWith l (T (some a)) then ⟨T, 3⟩ else
  ⟨upd (upd T (some a) (cRest (T (some a)) l)) (some b) (addC (upd T (some a) (cRest (T (some a)) l) (some b)) l), 0⟩
def mintB (T : Tb) (b : UInt8) (l : List Coin) : BR :=
  if ¬ (isB b = true ∧ Right l) then ⟨T, 1⟩ else if ¬ cAddE (T none) l = 0 then ⟨T, 2⟩ else
  ⟨upd (upd T none (addC (T none) l)) (some b) (addC (T (some b)) l), 0⟩
def burnB (T : Tb) (a : UInt8) (l : List Coin) : BR :=
  if ¬ (isB a = true ∧ Right l) then ⟨T, 1⟩ else if ¬ cWith l (T (some a)) then ⟨T, 3⟩ else
  ⟨upd (upd T (some a) (cRest (T (some a)) l)) none (cRest (T none) l), 0⟩
theorem send_room {T : Tb} {a b : UInt8} {l : List Coin} (hs : SumT T) (hw : cWith l (T (some a))) : ∀ d, d < 8 → amt (upd T (some a) (cRest (T (some a)) l) (some b)) d + amt l d < 2 ^ 256 := fun d hd => by
  have h1 := sumB_upd T a (cRest (T (some a)) l) d
  have h2 := sumB_le (upd T (some a) (cRest (T (some a)) l)) b d
  have h3 := amt_cRest (T (some a)) l hd
  have h4 := hw d hd
  have h5 := hs d hd
  have h6 := amt_lt (T none) d
  omega
theorem mint_room {T : Tb} {b : UInt8} {l : List Coin} (hs : SumT T) (hw : cAddE (T none) l = 0) : ∀ d, d < 8 → amt (T (some b)) d + amt l d < 2 ^ 256 := fun d hd => by
  have h2 := sumB_le T b d
  have h4 := cAddE_zero.1 hw d hd
  have h5 := hs d hd
  omega
theorem sumT_send {T : Tb} {a b : UInt8} {l : List Coin} (hs : SumT T) : SumT (sendB T a b l).T := by
  unfold sendB
  split
  · exact hs
  · split
    · exact hs
    · rename_i h1 h2
      have hw : cWith l (T (some a)) := Classical.not_not.1 h2
      intro d hd
      have hr := send_room (b := b) hs hw
      have e1 := sumB_upd T a (cRest (T (some a)) l) d
      have e2 := sumB_upd (upd T (some a) (cRest (T (some a)) l)) b (addC (upd T (some a) (cRest (T (some a)) l) (some b)) l) d
      have e3 := addC_amt hr hd
      have e4 := amt_cRest (T (some a)) l hd
      have e5 := hw d hd
      have e6 := hs d hd
      dsimp only
      rw [upd_sn, upd_sn]
      omega
theorem sumT_mint {T : Tb} {b : UInt8} {l : List Coin} (hs : SumT T) : SumT (mintB T b l).T := by
  unfold mintB
  split
  · exact hs
  · split
    · exact hs
    · rename_i h1 h2
      have hw : cAddE (T none) l = 0 := Classical.not_not.1 h2
      intro d hd
      have e2 := sumB_upd (upd T none (addC (T none) l)) b (addC (T (some b)) l) d
      rw [sumB_none, upd_ne T _ (by simp : some b ≠ none)] at e2
      have e3 := addC_amt (mint_room (b := b) hs hw) hd
      have e4 := addC_amt (cAddE_zero.1 hw) hd
      have e6 := hs d hd
      dsimp only
      rw [upd_sn, upd_self]
      omega
theorem sumT_burn {T : Tb} {a : UInt8} {l : List Coin} (hs : SumT T) : SumT (burnB T a l).T := by
  unfold burnB
  split
  · exact hs
  · split
    · exact hs
    · rename_i h1 h2
      have hw : cWith l (T (some a)) := Classical.not_not.1 h2
      intro d hd
      have e2 := sumB_upd T a (cRest (T (some a)) l) d
      have e4 := amt_cRest (T (some a)) l hd
      have e5 := hw d hd
      have e6 := hs d hd
      have e7 := amt_cRest (T none) l hd
      dsimp only
      rw [upd_self, sumB_none]
      omega
theorem SumT.nil : SumT tb0 := fun d hd => by
  have : ∀ n, sumTo (fun a => amt (tb0 (some a)) d) n = 0 := fun n => by
    induction n with
    | zero => rfl
    | succ n ih => simp only [sumTo, ih]; rfl
  exact this 256

set_option maxHeartbeats 1600000 in
attribute [local simp] undefA List.getElem?_cons_zero List.getElem?_cons_succ in
theorem send_ok2 {σ : St} {o k n : Nat} {G : Sg} {T : Tb} {a b : UInt8} {l : List Coin} (h : HasS σ o k G) (hi : BankS G.s T n) (hs : SumT T) (hn : n ≤ 900) (hl : l.length ≤ 9223372036854775807) :
    CallsA Try.prog 34 [.ptr o 0, .v (.int .u8 a.toNat), .v (.int .u8 b.toNat), .sl 5 (coinsC l) l.length .shut] σ (fun av σ' => ∃ G', BankS G'.s (sendB T a b l).T (n + 16) ∧ av = .v (.int .i64 ((sendB T a b l).e : Nat)) ∧ σ' = putS σ o k G') := by
  obtain ⟨⟨PT, PE⟩, hP⟩ : ∃ P, P = sendB T a b l := ⟨_, rfl⟩
  rw [← hP]
  simp only
  have hmy := may2_ok (σ := σ) (o := o) (a := a) (b := b) hl
  have hco := coinsB_ok (a := a) h hi (by omega)
  have hRa := right_len (hi.rt (some a))
  have hwi := cwith_ok (σ := σ) (a := l) (b := T (some a)) hl (by omega)
  have hself := putS_self h
  have htk : Right l → CallsA Try.prog 62 [.ptr o 0, .sl 5 (coinsC l) l.length .shut, .sl 1 [.v (.int .u8 98), .v (.int .u8 a.toNat)] 2 .full] σ (fun av σ' => ∃ G', BankS G'.s (upd T (some a) (cRest (T (some a)) l)) (n + 8) ∧ av = .tup [] ∧ σ' = putS σ o k G') := fun hR => take_ok2 (O := some a) h hi (by omega) hR
  have had : Right l → cWith l (T (some a)) → ∀ G1, BankS G1.s (upd T (some a) (cRest (T (some a)) l)) (n + 8) → CallsA Try.prog 63 [.ptr o 0, .sl 5 (coinsC l) l.length .shut, .sl 1 [.v (.int .u8 98), .v (.int .u8 b.toNat)] 2 .full] (putS σ o k G1) (fun av σ' => ∃ G', BankS G'.s (upd (upd T (some a) (cRest (T (some a)) l)) (some b) (addC (upd T (some a) (cRest (T (some a)) l) (some b)) l)) (n + 8 + 8) ∧ av = .tup [] ∧ σ' = putS σ o k G') := fun hR hw G1 h1 =>
    callsA_mono (add_ok2 (O := some b) (h.put G1) h1 (by omega) hR (send_room hs hw)) (fun av σ' ⟨G', e1, e2, e3⟩ => ⟨G', e1, e2, by rw [e3, putS_put]⟩)
  have F := True.intro
  refine callsA_body Try.func34 rfl rfl rfl ?_; refine sr fun _ hJ2 => ?_; refine hJ2 _ _ ?_; refine sq fun K3 hK3 => ?_; refine run_block_k ?_; refine sr fun _ hJ5 => ?_; refine ca (c := hmy) (k := ?_); rintro _ _ ⟨rfl, rfl⟩; (repeat (first | simp [F] | simp (disch := omega) only [wC, if_pos, if_neg])); refine hJ5 _ _ ?_; refine cs (fun c9 => ?_) (fun c9 => ?_)
  · (try exact nope c9); all_goals have c9p := c9; try simp [F] at c9p
    all_goals
     replace F := aF c9 F; try replace F := aF c9p F
     have hR : ¬ (isB a = true ∧ isB b = true ∧ Right l) := by have h := c9; simp at h; intro q; simp [q.1, q.2.1, q.2.2] at h
     obtain ⟨rfl, rfl⟩ : PT = T ∧ PE = 1 := by rw [sendB, if_pos hR] at hP; simpa using hP
     refine sr fun _ hJ7 => ?_; refine hJ7 _ _ ?_; refine ra ?_; exact ⟨G, hi.mono (by omega), rfl, hself.symm⟩
  (try exact nope c9); all_goals have c9p := c9; try simp [F] at c9p
  all_goals
   replace F := aF c9 F; try replace F := aF c9p F
   have hR : isB a = true ∧ isB b = true ∧ Right l := by have h := c9; simp at h; exact ⟨h.1.1, h.1.2, h.2⟩
   refine sr fun _ hJ9 => ?_; refine ca (c := hco) (k := ?_); rintro _ _ ⟨rfl, rfl⟩; (repeat (first | simp [F] | simp (disch := omega) only [wC, if_pos, if_neg])); refine ca (c := hwi) (k := ?_); rintro _ _ ⟨rfl, rfl⟩; (repeat (first | simp [F] | simp (disch := omega) only [wC, if_pos, if_neg])); refine hJ9 _ _ ?_; refine cs (fun c17 => ?_) (fun c17 => ?_)
   · (try exact nope c17); all_goals have c17p := c17; try simp [F] at c17p
     all_goals
      replace F := aF c17 F; try replace F := aF c17p F
      have hw : ¬ cWith l (T (some a)) := by have h := c17; simpa using h
      obtain ⟨rfl, rfl⟩ : PT = T ∧ PE = 3 := by rw [sendB, if_neg (Classical.not_not.2 hR), if_pos hw] at hP; simpa using hP
      refine sr fun _ hJ11 => ?_; refine hJ11 _ _ ?_; refine ra ?_; exact ⟨G, hi.mono (by omega), rfl, hself.symm⟩
   (try exact nope c17); all_goals have c17p := c17; try simp [F] at c17p
   all_goals
    replace F := aF c17 F; try replace F := aF c17p F
    have hw : cWith l (T (some a)) := by have h := c17; simpa using h
    obtain ⟨hPT, rfl⟩ : PT = upd (upd T (some a) (cRest (T (some a)) l)) (some b) (addC (upd T (some a) (cRest (T (some a)) l) (some b)) l) ∧ PE = 0 := by rw [sendB, if_neg (Classical.not_not.2 hR), if_neg (Classical.not_not.2 hw)] at hP; simpa using hP
    refine run_skip ?_; refine hK3 _ _ ?_; refine sr fun _ hJ13 => ?_; refine ca (c := htk hR.2.2) (k := ?_); rintro _ _ ⟨G1, e1, rfl, rfl⟩; (repeat (first | simp [F] | simp (disch := omega) only [wC, if_pos, if_neg])); refine hJ13 _ _ ?_; refine sr fun _ hJ15 => ?_; refine ca (c := had hR.2.2 hw G1 e1) (k := ?_); rintro _ _ ⟨G2, e2, rfl, rfl⟩; (repeat (first | simp [F] | simp (disch := omega) only [wC, if_pos, if_neg])); refine hJ15 _ _ ?_; refine sr fun _ hJ17 => ?_; refine hJ17 _ _ ?_; refine ra ?_; exact ⟨G2, by rw [hPT]; exact e2, rfl, rfl⟩

set_option maxHeartbeats 1600000 in
attribute [local simp] undefA List.getElem?_cons_zero List.getElem?_cons_succ in
theorem mint_ok2 {σ : St} {o k n : Nat} {G : Sg} {T : Tb} {b : UInt8} {l : List Coin} (h : HasS σ o k G) (hi : BankS G.s T n) (hs : SumT T) (hn : n ≤ 900) (hl : l.length ≤ 9223372036854775807) :
    CallsA Try.prog 35 [.ptr o 0, .v (.int .u8 b.toNat), .sl 5 (coinsC l) l.length .shut] σ (fun av σ' => ∃ G', BankS G'.s (mintB T b l).T (n + 16) ∧ av = .v (.int .i64 ((mintB T b l).e : Nat)) ∧ σ' = putS σ o k G') := by
  obtain ⟨⟨PT, PE⟩, hP⟩ : ∃ P, P = mintB T b l := ⟨_, rfl⟩
  rw [← hP]
  simp only
  have hmy := may1_ok (σ := σ) (o := o) (a := b) hl
  have hsu := supply_ok h hi (by omega)
  have hRn := right_len (hi.rt none)
  have hcd := cadd_ok (σ := σ) (a := T none) (b := l) (ta := .shut) (tb := .shut) (by omega) hl
  have hself := putS_self h
  have hev := cAddE_val (T none) l
  obtain ⟨E, hE⟩ : ∃ E, E = cAddE (T none) l := ⟨_, rfl⟩
  obtain ⟨AL, hAL⟩ : ∃ AL, AL = cAddL (T none) l := ⟨_, rfl⟩
  rw [← hE] at hev
  simp only [← hE, ← hAL] at hcd
  have ha1 : Right l → E = 0 → CallsA Try.prog 63 [.ptr o 0, .sl 5 (coinsC l) l.length .shut, .sl 1 [.v (.int .u8 115)] 1 .full] σ (fun av σ' => ∃ G', BankS G'.s (upd T none (addC (T none) l)) (n + 8) ∧ av = .tup [] ∧ σ' = putS σ o k G') := fun hR hw => add_ok2 (O := none) h hi (by omega) hR (cAddE_zero.1 (hE ▸ hw))
  have ha2 : Right l → E = 0 → ∀ G1, BankS G1.s (upd T none (addC (T none) l)) (n + 8) → CallsA Try.prog 63 [.ptr o 0, .sl 5 (coinsC l) l.length .shut, .sl 1 [.v (.int .u8 98), .v (.int .u8 b.toNat)] 2 .full] (putS σ o k G1) (fun av σ' => ∃ G', BankS G'.s (upd (upd T none (addC (T none) l)) (some b) (addC (T (some b)) l)) (n + 8 + 8) ∧ av = .tup [] ∧ σ' = putS σ o k G') := fun hR hw G1 h1 => by
    have e0 : upd T none (addC (T none) l) (some b) = T (some b) := upd_ne _ _ (by simp)
    have := add_ok2 (O := some b) (h.put G1) h1 (by omega) hR (by rw [e0]; exact mint_room hs (hE ▸ hw))
    rw [e0] at this
    exact callsA_mono this (fun av σ' ⟨G', e1, e2, e3⟩ => ⟨G', e1, e2, by rw [e3, putS_put]⟩)
  have F := True.intro
  refine callsA_body Try.func35 rfl rfl rfl ?_; refine sr fun _ hJ2 => ?_; refine hJ2 _ _ ?_; refine sq fun K3 hK3 => ?_; refine sr fun _ hJ5 => ?_; refine ca (c := hmy) (k := ?_); rintro _ _ ⟨rfl, rfl⟩; (repeat (first | simp [F] | simp (disch := omega) only [wC, if_pos, if_neg])); refine hJ5 _ _ ?_; refine cs (fun c14 => ?_) (fun c14 => ?_)
  · (try exact nope c14); all_goals have c14p := c14; try simp [F] at c14p
    all_goals
     replace F := aF c14 F; try replace F := aF c14p F
     have hR : ¬ (isB b = true ∧ Right l) := by have h := c14; simp at h; intro q; simp [q.1, q.2] at h
     obtain ⟨rfl, rfl⟩ : PT = T ∧ PE = 1 := by rw [mintB, if_pos hR] at hP; simpa using hP
     refine sr fun _ hJ7 => ?_; refine hJ7 _ _ ?_; refine ra ?_; exact ⟨G, hi.mono (by omega), rfl, hself.symm⟩
  (try exact nope c14); all_goals have c14p := c14; try simp [F] at c14p
  all_goals
   replace F := aF c14 F; try replace F := aF c14p F
   have hR : isB b = true ∧ Right l := by have h := c14; simp at h; exact h
   refine run_skip ?_; refine hK3 _ _ ?_; refine sq fun K8 hK8 => ?_; refine sr fun _ hJ10 => ?_; refine ca (c := hsu) (k := ?_); rintro _ _ ⟨rfl, rfl⟩; (repeat (first | simp [F] | simp (disch := omega) only [wC, if_pos, if_neg])); refine ca (c := hcd) (k := ?_); rintro _ _ ⟨rfl, rfl⟩; (repeat (first | simp [F] | simp (disch := omega) only [wC, if_pos, if_neg])); refine hJ10 _ _ ?_; refine sr fun _ hJ12 => ?_; refine hJ12 _ _ ?_; refine cs (fun c23 => ?_) (fun c23 => ?_)
   · (try exact nope c23); all_goals have c23p := c23; try simp [F] at c23p
     all_goals
      replace F := aF c23 F; try replace F := aF c23p F
      have hw : ¬ E = 0 := by have h := c23; simpa using h
      obtain ⟨rfl, rfl⟩ : PT = T ∧ PE = 2 := by rw [mintB, if_neg (Classical.not_not.2 hR), if_pos (hE ▸ hw)] at hP; simpa using hP
      have hE2 : E = 2 := by omega
      replace F := aF hE2 F; refine sr fun _ hJ14 => ?_; refine hJ14 _ _ ?_; refine ra ?_; exact ⟨G, hi.mono (by omega), by simp [F], hself.symm⟩
   (try exact nope c23); all_goals have c23p := c23; try simp [F] at c23p
   all_goals
    replace F := aF c23 F; try replace F := aF c23p F
    have hw : E = 0 := by have h := c23; simpa using h
    obtain ⟨hPT, rfl⟩ : PT = upd (upd T none (addC (T none) l)) (some b) (addC (T (some b)) l) ∧ PE = 0 := by rw [mintB, if_neg (Classical.not_not.2 hR), if_neg (Classical.not_not.2 (hE ▸ hw))] at hP; simpa using hP
    refine run_skip ?_; refine hK8 _ _ ?_; refine sr fun _ hJ16 => ?_; refine ca (c := ha1 hR.2 hw) (k := ?_); rintro _ _ ⟨G1, e1, rfl, rfl⟩; (repeat (first | simp [F] | simp (disch := omega) only [wC, if_pos, if_neg])); refine hJ16 _ _ ?_; refine sr fun _ hJ18 => ?_; refine ca (c := ha2 hR.2 hw G1 e1) (k := ?_); rintro _ _ ⟨G2, e2, rfl, rfl⟩; (repeat (first | simp [F] | simp (disch := omega) only [wC, if_pos, if_neg])); refine hJ18 _ _ ?_; refine sr fun _ hJ20 => ?_; refine hJ20 _ _ ?_; refine ra ?_; exact ⟨G2, by rw [hPT]; exact e2, rfl, rfl⟩

set_option maxHeartbeats 1600000 in
attribute [local simp] undefA List.getElem?_cons_zero List.getElem?_cons_succ in
theorem burn_ok2 {σ : St} {o k n : Nat} {G : Sg} {T : Tb} {a : UInt8} {l : List Coin} (h : HasS σ o k G) (hi : BankS G.s T n) (hn : n ≤ 900) (hl : l.length ≤ 9223372036854775807) :
    CallsA Try.prog 36 [.ptr o 0, .v (.int .u8 a.toNat), .sl 5 (coinsC l) l.length .shut] σ (fun av σ' => ∃ G', BankS G'.s (burnB T a l).T (n + 16) ∧ av = .v (.int .i64 ((burnB T a l).e : Nat)) ∧ σ' = putS σ o k G') := by
  obtain ⟨⟨PT, PE⟩, hP⟩ : ∃ P, P = burnB T a l := ⟨_, rfl⟩
  rw [← hP]
  simp only
  have hmy := may1_ok (σ := σ) (o := o) (a := a) hl
  have hco := coinsB_ok (a := a) h hi (by omega)
  have hRa := right_len (hi.rt (some a))
  have hwi := cwith_ok (σ := σ) (a := l) (b := T (some a)) hl (by omega)
  have hself := putS_self h
  have htk : Right l → CallsA Try.prog 62 [.ptr o 0, .sl 5 (coinsC l) l.length .shut, .sl 1 [.v (.int .u8 98), .v (.int .u8 a.toNat)] 2 .full] σ (fun av σ' => ∃ G', BankS G'.s (upd T (some a) (cRest (T (some a)) l)) (n + 8) ∧ av = .tup [] ∧ σ' = putS σ o k G') := fun hR => take_ok2 (O := some a) h hi (by omega) hR
  have had : Right l → ∀ G1, BankS G1.s (upd T (some a) (cRest (T (some a)) l)) (n + 8) → CallsA Try.prog 62 [.ptr o 0, .sl 5 (coinsC l) l.length .shut, .sl 1 [.v (.int .u8 115)] 1 .full] (putS σ o k G1) (fun av σ' => ∃ G', BankS G'.s (upd (upd T (some a) (cRest (T (some a)) l)) none (cRest (T none) l)) (n + 8 + 8) ∧ av = .tup [] ∧ σ' = putS σ o k G') := fun hR G1 h1 => by
    have e0 : upd T (some a) (cRest (T (some a)) l) none = T none := upd_ne _ _ (by simp)
    have := take_ok2 (O := none) (h.put G1) h1 (by omega) hR
    rw [e0] at this
    exact callsA_mono this (fun av σ' ⟨G', e1, e2, e3⟩ => ⟨G', e1, e2, by rw [e3, putS_put]⟩)
  have F := True.intro
  refine callsA_body Try.func36 rfl rfl rfl ?_; refine sr fun _ hJ2 => ?_; refine hJ2 _ _ ?_; refine sq fun K3 hK3 => ?_; refine run_block_k ?_; refine sr fun _ hJ5 => ?_; refine ca (c := hmy) (k := ?_); rintro _ _ ⟨rfl, rfl⟩; (repeat (first | simp [F] | simp (disch := omega) only [wC, if_pos, if_neg])); refine hJ5 _ _ ?_; refine cs (fun c7 => ?_) (fun c7 => ?_)
  · (try exact nope c7); all_goals have c7p := c7; try simp [F] at c7p
    all_goals
     replace F := aF c7 F; try replace F := aF c7p F
     have hR : ¬ (isB a = true ∧ Right l) := by have h := c7; simp at h; intro q; simp [q.1, q.2] at h
     obtain ⟨rfl, rfl⟩ : PT = T ∧ PE = 1 := by rw [burnB, if_pos hR] at hP; simpa using hP
     refine sr fun _ hJ7 => ?_; refine hJ7 _ _ ?_; refine ra ?_; exact ⟨G, hi.mono (by omega), rfl, hself.symm⟩
  (try exact nope c7); all_goals have c7p := c7; try simp [F] at c7p
  all_goals
   replace F := aF c7 F; try replace F := aF c7p F
   have hR : isB a = true ∧ Right l := by have h := c7; simp at h; exact h
   refine sr fun _ hJ9 => ?_; refine ca (c := hco) (k := ?_); rintro _ _ ⟨rfl, rfl⟩; (repeat (first | simp [F] | simp (disch := omega) only [wC, if_pos, if_neg])); refine ca (c := hwi) (k := ?_); rintro _ _ ⟨rfl, rfl⟩; (repeat (first | simp [F] | simp (disch := omega) only [wC, if_pos, if_neg])); refine hJ9 _ _ ?_; refine cs (fun c14 => ?_) (fun c14 => ?_)
   · (try exact nope c14); all_goals have c14p := c14; try simp [F] at c14p
     all_goals
      replace F := aF c14 F; try replace F := aF c14p F
      have hw : ¬ cWith l (T (some a)) := by have h := c14; simpa using h
      obtain ⟨rfl, rfl⟩ : PT = T ∧ PE = 3 := by rw [burnB, if_neg (Classical.not_not.2 hR), if_pos hw] at hP; simpa using hP
      refine sr fun _ hJ11 => ?_; refine hJ11 _ _ ?_; refine ra ?_; exact ⟨G, hi.mono (by omega), rfl, hself.symm⟩
   (try exact nope c14); all_goals have c14p := c14; try simp [F] at c14p
   all_goals
    replace F := aF c14 F; try replace F := aF c14p F
    have hw : cWith l (T (some a)) := by have h := c14; simpa using h
    obtain ⟨hPT, rfl⟩ : PT = upd (upd T (some a) (cRest (T (some a)) l)) none (cRest (T none) l) ∧ PE = 0 := by rw [burnB, if_neg (Classical.not_not.2 hR), if_neg (Classical.not_not.2 hw)] at hP; simpa using hP
    refine run_skip ?_; refine hK3 _ _ ?_; refine sr fun _ hJ13 => ?_; refine ca (c := htk hR.2) (k := ?_); rintro _ _ ⟨G1, e1, rfl, rfl⟩; (repeat (first | simp [F] | simp (disch := omega) only [wC, if_pos, if_neg])); refine hJ13 _ _ ?_; refine sr fun _ hJ15 => ?_; refine ca (c := had hR.2 G1 e1) (k := ?_); rintro _ _ ⟨G2, e2, rfl, rfl⟩; (repeat (first | simp [F] | simp (disch := omega) only [wC, if_pos, if_neg])); refine hJ15 _ _ ?_; refine sr fun _ hJ17 => ?_; refine hJ17 _ _ ?_; refine ra ?_; exact ⟨G2, by rw [hPT]; exact e2, rfl, rfl⟩

def Sp (σ : St) (G : Sg) (l : List (List AV)) : St := { σ with objs := σ.objs ++ stC σ.rows.length G :: l, rows := σ.rows ++ [stR1 G, stR2 G, stR3 G] }
theorem Sp.has (σ : St) (G : Sg) (l : List (List AV)) : HasS (Sp σ G l) σ.objs.length σ.rows.length G := ⟨by simp [Sp], by simp [Sp], by simp [Sp], by simp [Sp]⟩
theorem Sp.put (σ : St) (G G' : Sg) (l : List (List AV)) : putS (Sp σ G l) σ.objs.length σ.rows.length G' = Sp σ G' l := by simp [Sp, putS]
theorem newSp_ok {σ : St} : CallsA Try.prog 16 [] σ (fun av σ' => av = .ptr σ.objs.length 0 ∧ σ' = Sp σ newSg []) := new_st_ok
set_option maxHeartbeats 1600000 in
attribute [local simp] undefA List.getElem?_cons_zero List.getElem?_cons_succ in
theorem may1N_ok {σ : St} {x : AV} {a : UInt8} :
    CallsA Try.prog 60 [.v (.pointer none), x, .sl 1 [.v (.int .u8 a.toNat)] 1 .full] σ (fun av σ' => av = .v (.bool false) ∧ σ = σ') := by
  have hz := is_ok (σ := σ) (a := a)
  have F := True.intro
  refine callsA_body Try.func60 rfl rfl rfl ?_; refine sr fun _ hJ2 => ?_; refine hJ2 _ _ ?_; refine sq fun K3 hK3 => ?_; refine sr fun _ hJ5 => ?_; refine hJ5 _ _ ?_; refine run_block_k ?_; refine run_loopF (X := Nat) [0, 1, 9, 10] (fun j ρ σ1 => (j ≤ 1) ∧ (ρ 11 = .v (.int .i64 j)) ∧ (σ1 = σ)) (fun j => 1 - j) (0) ?st1 ?rd1
  case st1 =>
   refine ⟨lp, lp, lp⟩
  case rd1 =>
   rintro j ρ1 σ1 hF1 ⟨h1, h3, hσ⟩; obtain rfl := hσ.symm
   have f1 := keepL hF1
   (try simp [KeepL, F] at f1); replace F := aF h3 F; (try replace F := aF f1 F); refine sr fun _ hJ7 => ?_; refine hJ7 _ _ ?_; refine sq fun K8 hK8 => ?_; refine cs (fun c12 => ?_) (fun c12 => ?_)
   · (try exact nope c12); all_goals have c12p := c12; try simp [F] at c12p
     all_goals
      replace F := aF c12 F; try replace F := aF c12p F
      have hj : j = 0 := by have h := c12; simp at h; omega
      subst hj
      refine run_skip ?_; refine hK8 _ _ ?_; refine sq fun K9 hK9 => ?_; refine run_block_k ?_; refine sr fun _ hJ11 => ?_; refine hJ11 _ _ ?_; refine sr fun _ hJ13 => ?_; refine ca (c := hz) (k := ?_); rintro _ _ ⟨rfl, rfl⟩; (repeat (first | simp [F] | simp (disch := omega) only [wC, if_pos, if_neg])); refine hJ13 _ _ ?_; refine cs (fun c17 => ?_) (fun c17 => ?_)
      · (try exact nope c17); all_goals have c17p := c17; try simp [F] at c17p
        all_goals
         replace F := aF c17 F; (try replace F := aF c17p F); refine sr fun _ hJ15 => ?_; refine hJ15 _ _ ?_; refine ra ?_; exact rt
      (try exact nope c17); all_goals have c17p := c17; try simp [F] at c17p
      all_goals
       replace F := aF c17 F; (try replace F := aF c17p F); refine run_skip ?_; refine hK9 _ _ ?_; refine rg' (h := fun J16 hJ16 => ?_); refine hJ16 _ _ ?_; refine ⟨(1), ⟨kp, lp, lp, lp⟩, lp⟩
   (try exact nope c12); all_goals have c12p := c12; try simp [F] at c12p
   all_goals
    replace F := aF c12 F; (try replace F := aF c12p F); refine run_exit ?_; refine hK3 _ _ ?_; refine sr fun _ hJ18 => ?_; (iterate 2 refine no2 (k := ?_)); refine hJ18 _ _ ?_; refine ra ?_; exact rt
set_option maxHeartbeats 1600000 in
attribute [local simp] undefA List.getElem?_cons_zero List.getElem?_cons_succ in
theorem may2N_ok {σ : St} {x : AV} {a b : UInt8} :
    CallsA Try.prog 60 [.v (.pointer none), x, .sl 1 [.v (.int .u8 a.toNat), .v (.int .u8 b.toNat)] 2 .full] σ (fun av σ' => av = .v (.bool false) ∧ σ = σ') := by
  obtain ⟨A, hA⟩ : ∃ A : Nat → UInt8, A = fun j => if j = 0 then a else b := ⟨_, rfl⟩
  have hz := fun j => is_ok (σ := σ) (a := A j)
  have hAat : ∀ j, j < 2 → ∀ h2 : j < [AV.v (.int .u8 a.toNat), AV.v (.int .u8 b.toNat)].length, [AV.v (.int .u8 a.toNat), AV.v (.int .u8 b.toNat)][j]'h2 = .v (.int .u8 ((A j).toNat : Nat)) := fun j hj h2 => by
    rcases (by omega : j = 0 ∨ j = 1) with rfl | rfl <;> (rw [hA]; rfl)
  obtain ⟨C, hC⟩ : ∃ C, C = [AV.v (.int .u8 a.toNat), AV.v (.int .u8 b.toNat)] := ⟨_, rfl⟩
  have hCl : C.length = 2 := by rw [hC]; rfl
  rw [← hC] at hAat ⊢
  have F := And.intro hCl (True.intro)
  refine callsA_body Try.func60 rfl rfl rfl ?_; refine sr fun _ hJ2 => ?_; refine hJ2 _ _ ?_; refine sq fun K3 hK3 => ?_; refine sr fun _ hJ5 => ?_; refine hJ5 _ _ ?_; refine run_block_k ?_; refine run_loopF (X := Nat) [0, 1, 9, 10] (fun j ρ σ1 => (j ≤ 2) ∧ (ρ 11 = .v (.int .i64 j)) ∧ (σ1 = σ)) (fun j => 2 - j) (0) ?st1 ?rd1
  case st1 =>
   refine ⟨lp, lp, lp⟩
  case rd1 =>
   rintro j ρ1 σ1 hF1 ⟨h1, h3, hσ⟩; obtain rfl := hσ.symm
   have f1 := keepL hF1
   (try simp [KeepL, F] at f1); replace F := aF h3 F; (try replace F := aF f1 F); refine sr fun _ hJ7 => ?_; refine hJ7 _ _ ?_; refine sq fun K8 hK8 => ?_; refine cs (fun c12 => ?_) (fun c12 => ?_)
   · (try exact nope c12); all_goals have c12p := c12; try simp [F] at c12p
     all_goals
      replace F := aF c12 F; try replace F := aF c12p F
      have hj : j < 2 := by have h := c12; simp at h; omega
      have e1 := hAat j hj
      have hj1 : j + 1 ≤ 2 := hj
      have hwi : IntKind.i64.wrap ((j : Int) + 1) = (j : Int) + 1 := wrap_i64 _ (by omega) (by omega)
      replace F := aF hj (And.intro e1 (And.intro hj1 (And.intro hwi F))); refine run_skip ?_; refine hK8 _ _ ?_; refine sq fun K9 hK9 => ?_; refine run_block_k ?_; refine sr fun _ hJ11 => ?_; refine hJ11 _ _ ?_; refine sr fun _ hJ13 => ?_; refine ca (c := hz j) (k := ?_); rintro _ _ ⟨rfl, rfl⟩; (repeat (first | simp [F] | simp (disch := omega) only [wC, if_pos, if_neg])); refine hJ13 _ _ ?_; refine cs (fun c17 => ?_) (fun c17 => ?_)
      · (try exact nope c17); all_goals have c17p := c17; try simp [F] at c17p
        all_goals
         replace F := aF c17 F; (try replace F := aF c17p F); refine sr fun _ hJ15 => ?_; refine hJ15 _ _ ?_; refine ra ?_; exact rt
      (try exact nope c17); all_goals have c17p := c17; try simp [F] at c17p
      all_goals
       replace F := aF c17 F; (try replace F := aF c17p F); refine run_skip ?_; refine hK9 _ _ ?_; refine rg' (h := fun J16 hJ16 => ?_); refine hJ16 _ _ ?_; refine ⟨(j + 1), ⟨kp, lp, lp, lp⟩, lp⟩
   (try exact nope c12); all_goals have c12p := c12; try simp [F] at c12p
   all_goals
    replace F := aF c12 F; (try replace F := aF c12p F); refine run_exit ?_; refine hK3 _ _ ?_; refine sr fun _ hJ18 => ?_; (iterate 2 refine no2 (k := ?_)); refine hJ18 _ _ ?_; refine ra ?_; exact rt
set_option maxHeartbeats 1600000 in
attribute [local simp] undefA List.getElem?_cons_zero List.getElem?_cons_succ in
theorem sendN_ok {σ : St} {x : AV} {a b : UInt8} :
    CallsA Try.prog 34 [.v (.pointer none), .v (.int .u8 a.toNat), .v (.int .u8 b.toNat), x] σ (fun av σ' => av = .v (.int .i64 1) ∧ σ = σ') := by
  have F := True.intro
  refine callsA_body Try.func34 rfl rfl rfl ?_; refine sr fun _ hJ2 => ?_; refine hJ2 _ _ ?_; refine sq fun K3 hK3 => ?_; refine run_block_k ?_; refine sr fun _ hJ5 => ?_; refine ca (c := may2N_ok) (k := ?_); rintro _ _ ⟨rfl, rfl⟩; (repeat (first | simp [F] | simp (disch := omega) only [wC, if_pos, if_neg])); refine hJ5 _ _ ?_; refine ct ?_; refine sr fun _ hJ7 => ?_; refine hJ7 _ _ ?_; refine ra ?_; exact rt
set_option maxHeartbeats 1600000 in
attribute [local simp] undefA List.getElem?_cons_zero List.getElem?_cons_succ in
theorem mintN_ok {σ : St} {x : AV} {a : UInt8} :
    CallsA Try.prog 35 [.v (.pointer none), .v (.int .u8 a.toNat), x] σ (fun av σ' => av = .v (.int .i64 1) ∧ σ = σ') := by
  have F := True.intro
  refine callsA_body Try.func35 rfl rfl rfl ?_; refine sr fun _ hJ2 => ?_; refine hJ2 _ _ ?_; refine sq fun K3 hK3 => ?_; refine sr fun _ hJ5 => ?_; refine ca (c := may1N_ok) (k := ?_); rintro _ _ ⟨rfl, rfl⟩; (repeat (first | simp [F] | simp (disch := omega) only [wC, if_pos, if_neg])); refine hJ5 _ _ ?_; refine ct ?_; refine sr fun _ hJ7 => ?_; refine hJ7 _ _ ?_; refine ra ?_; exact rt
set_option maxHeartbeats 1600000 in
attribute [local simp] undefA List.getElem?_cons_zero List.getElem?_cons_succ in
theorem burnN_ok {σ : St} {x : AV} {a : UInt8} :
    CallsA Try.prog 36 [.v (.pointer none), .v (.int .u8 a.toNat), x] σ (fun av σ' => av = .v (.int .i64 1) ∧ σ = σ') := by
  have F := True.intro
  refine callsA_body Try.func36 rfl rfl rfl ?_; refine sr fun _ hJ2 => ?_; refine hJ2 _ _ ?_; refine sq fun K3 hK3 => ?_; refine run_block_k ?_; refine sr fun _ hJ5 => ?_; refine ca (c := may1N_ok) (k := ?_); rintro _ _ ⟨rfl, rfl⟩; (repeat (first | simp [F] | simp (disch := omega) only [wC, if_pos, if_neg])); refine hJ5 _ _ ?_; refine ct ?_; refine sr fun _ hJ7 => ?_; refine hJ7 _ _ ?_; refine ra ?_; exact rt
set_option maxHeartbeats 1600000 in
attribute [local simp] undefA List.getElem?_cons_zero List.getElem?_cons_succ in
theorem allBN_ok {σ : St} : CallsA Try.prog 29 [.v (.pointer none)] σ (fun av σ' => av = .sl 2 [] 0 .shut ∧ σ = σ') := by
  refine callsA_gcS ?_ rfl
  have F := True.intro
  refine callsA_body Try.func29 rfl rfl rfl ?_; refine sr fun _ hJ2 => ?_; refine hJ2 _ _ ?_; refine sr fun _ hJ4 => ?_; refine hJ4 _ _ ?_; refine sq fun K5 hK5 => ?_; refine sr fun _ hJ7 => ?_; refine ca (c := keysN_ok) (k := ?_); rintro _ _ ⟨rfl, rfl⟩; (repeat (first | simp [F] | simp (disch := omega) only [wC, if_pos, if_neg])); refine hJ7 _ _ ?_; refine run_block_k ?_; refine run_loopF (X := Nat) [0, 2, 10, 11] (fun j ρ σ1 => (ρ 12 = .v (.int .i64 0)) ∧ (ρ 3 = .sl 0 [] 0 .full) ∧ (σ1 = σ)) (fun j => 0) (0) ?st1 ?rd1
  case st1 =>
   refine ⟨lp, lp, lp⟩
  case rd1 =>
   rintro j ρ1 σ1 hF1 ⟨h16, h7, hσ⟩; obtain rfl := hσ.symm
   have f1 := keepL hF1
   (try simp [KeepL, F] at f1); replace F := aF h16 F; replace F := aF h7 F; (try replace F := aF f1 F); refine sr fun _ hJ9 => ?_; refine hJ9 _ _ ?_; refine sq fun K10 hK10 => ?_; refine cf ?_; refine run_exit ?_; refine hK5 _ _ ?_; refine sr fun _ hJ12 => ?_; refine hJ12 _ _ ?_; refine ra ?_; exact gcr

def nn (x : Nat) (h : x < 2 ^ 256 := by decide) : Num := ⟨x, h⟩
def b1T : Tb := (mintB tb0 1 [⟨0, nn 5⟩]).T
def b2T : Tb := (sendB b1T 1 3 [⟨0, nn 2⟩]).T
def b3T : Tb := (burnB b2T 3 [⟨0, nn 1⟩]).T
theorem b1e : (mintB tb0 1 [⟨0, nn 5⟩]).e = 0 := by kernel_rfl
theorem b2e : (sendB b1T 1 3 [⟨0, nn 2⟩]).e = 0 := by kernel_rfl
theorem b3e : (burnB b2T 3 [⟨0, nn 1⟩]).e = 0 := by kernel_rfl
theorem b3s : b3T none = [⟨0, nn 4⟩] := by kernel_rfl
theorem b3b : amt (b3T (some 1)) 0 = 3 := by kernel_rfl
theorem oneC (x : Nat) (hx : x < 2 ^ 64) (h : x < 2 ^ 256) : coinsC [⟨0, nn x h⟩] = [.v (.int .u8 0), .v (.int .u64 x), .v (.int .u64 0), .v (.int .u64 0), .v (.int .u64 0)] := by
  have e0 : limb x 0 = x := by unfold limb; simp; omega
  have e1 : limb x 1 = 0 := by unfold limb; simp; omega
  have e2 : limb x 2 = 0 := by unfold limb; simp; omega
  have e3 : limb x 3 = 0 := by unfold limb; simp; omega
  simp [coinsC, coinC, nn, numA, e0, e1, e2, e3]
set_option maxHeartbeats 1600000 in
attribute [local simp] undefA List.getElem?_cons_zero List.getElem?_cons_succ in
theorem sends_ok {σ : St} : CallsA Try.prog 14 [] σ (fun av σ' => av = .v (.bool true) ∧ σ = σ') := by
  refine callsA_gcS ?_ rfl
  have s1 : SumT b1T := sumT_mint SumT.nil
  have s2 : SumT b2T := sumT_send s1
  have c1 : CallsA Try.prog 35 [.ptr σ.objs.length 0, .v (.int .u8 1), .sl 5 [.v (.int .u8 0), .v (.int .u64 5), .v (.int .u64 0), .v (.int .u64 0), .v (.int .u64 0)] 1 .full] (Sp σ newSg []) (fun av σ' => ∃ G', BankS G'.s b1T 16 ∧ av = .v (.int .i64 0) ∧ σ' = Sp σ G' []) := by
    have := mint_ok2 (b := 1) (l := [⟨0, nn 5⟩]) (Sp.has σ newSg []) BankS.nil SumT.nil (by omega) (by simp)
    rw [b1e, oneC 5 (by decide)] at this
    refine callsA_wk (.cons (Wk.refl _) (.cons (Wk.refl _) (.cons (Wk.shut _ _ _ _) .nil))) (callsA_mono this (fun av σ' ⟨G', e1, e2, e3⟩ => ⟨G', e1, e2, by rw [e3, Sp.put]⟩))
  have c2 : ∀ G, BankS G.s b1T 16 → CallsA Try.prog 34 [.ptr σ.objs.length 0, .v (.int .u8 1), .v (.int .u8 3), .sl 5 [.v (.int .u8 0), .v (.int .u64 2), .v (.int .u64 0), .v (.int .u64 0), .v (.int .u64 0)] 1 .full] (Sp σ G []) (fun av σ' => ∃ G', BankS G'.s b2T 32 ∧ av = .v (.int .i64 0) ∧ σ' = Sp σ G' []) := fun G hG => by
    have := send_ok2 (a := 1) (b := 3) (l := [⟨0, nn 2⟩]) (Sp.has σ G []) hG s1 (by omega) (by simp)
    rw [b2e, oneC 2 (by decide)] at this
    refine callsA_wk (.cons (Wk.refl _) (.cons (Wk.refl _) (.cons (Wk.refl _) (.cons (Wk.shut _ _ _ _) .nil)))) (callsA_mono this (fun av σ' ⟨G', e1, e2, e3⟩ => ⟨G', e1, e2, by rw [e3, Sp.put]⟩))
  have c3 : ∀ G, BankS G.s b2T 32 → CallsA Try.prog 36 [.ptr σ.objs.length 0, .v (.int .u8 3), .sl 5 [.v (.int .u8 0), .v (.int .u64 1), .v (.int .u64 0), .v (.int .u64 0), .v (.int .u64 0)] 1 .full] (Sp σ G []) (fun av σ' => ∃ G', BankS G'.s b3T 48 ∧ av = .v (.int .i64 0) ∧ σ' = Sp σ G' []) := fun G hG => by
    have := burn_ok2 (a := 3) (l := [⟨0, nn 1⟩]) (Sp.has σ G []) hG (by omega) (by simp)
    rw [b3e, oneC 1 (by decide)] at this
    refine callsA_wk (.cons (Wk.refl _) (.cons (Wk.refl _) (.cons (Wk.shut _ _ _ _) .nil))) (callsA_mono this (fun av σ' ⟨G', e1, e2, e3⟩ => ⟨G', e1, e2, by rw [e3, Sp.put]⟩))
  have c4 : ∀ G, BankS G.s b3T 48 → CallsA Try.prog 31 [.ptr σ.objs.length 0] (Sp σ G []) (fun av σ' => av = .sl 5 [.v (.int .u8 0), .v (.int .u64 4), .v (.int .u64 0), .v (.int .u64 0), .v (.int .u64 0)] 1 .shut ∧ Sp σ G [] = σ') := fun G hG => by
    have := supply_ok (Sp.has σ G []) hG (by omega)
    rw [b3s, oneC 4 (by decide)] at this
    exact this
  have c5 : ∀ G, BankS G.s b3T 48 → CallsA Try.prog 18 [.ptr σ.objs.length 0, .v (.int .u8 1), .v (.int .u8 0)] (Sp σ G []) (fun av σ' => av = .agg [.v (.int .u64 3), .v (.int .u64 0), .v (.int .u64 0), .v (.int .u64 0)] ∧ Sp σ G [] = σ') := fun G hG => by
    have := balance_ok (a := 1) (d := 0) (Sp.has σ G []) hG (by omega)
    rw [show (0 : UInt8).toNat = 0 from rfl, b3b] at this
    have e : numA 3 = [.v (.int .u64 3), .v (.int .u64 0), .v (.int .u64 0), .v (.int .u64 0)] := by simp [numA, limb]
    rw [e] at this
    exact this
  have s3 : SumT b3T := sumT_burn s2
  have c6 : ∀ G, BankS G.s b3T 48 → CallsA Try.prog 34 [.ptr σ.objs.length 0, .v (.int .u8 1), .v (.int .u8 250), .sl 0 [] 0 .full] (Sp σ G []) (fun av σ' => ∃ G', BankS G'.s b3T 64 ∧ av = .v (.int .i64 1) ∧ σ' = Sp σ G' []) := fun G hG => by
    have := send_ok2 (a := 1) (b := 250) (l := []) (Sp.has σ G []) hG s3 (by omega) (by simp)
    have e : sendB b3T 1 250 [] = ⟨b3T, 1⟩ := by unfold sendB; rw [if_pos (by simp [isB])]
    rw [e] at this
    exact callsA_wk (.cons (Wk.refl _) (.cons (Wk.refl _) (.cons (Wk.refl _) (.cons (Wk.nil _ _ _) .nil)))) (callsA_mono this (fun av σ' ⟨G', e1, e2, e3⟩ => ⟨G', e1, e2, by rw [e3, Sp.put]⟩))
  have F := True.intro
  refine callsA_body Try.func14 rfl rfl rfl ?_; refine sr fun _ hJ2 => ?_; refine hJ2 _ _ ?_; refine sr fun _ hJ4 => ?_; refine ca (c := newSp_ok) (k := ?_); rintro _ _ ⟨rfl, rfl⟩; (repeat (first | simp [F] | simp (disch := omega) only [wC, if_pos, if_neg])); refine hJ4 _ _ ?_; refine sr fun _ hJ6 => ?_; refine hJ6 _ _ ?_; refine sr fun _ hJ8 => ?_; refine hJ8 _ _ ?_; refine sr fun _ hJ10 => ?_; refine hJ10 _ _ ?_; refine sq fun K11 hK11 => ?_; refine sr fun _ hJ13 => ?_; refine ca (c := c1) (k := ?_); rintro _ _ ⟨G1, e1, rfl, rfl⟩; (repeat (first | simp [F] | simp (disch := omega) only [wC, if_pos, if_neg])); (iterate 2 refine go2 (k := ?_)); refine ca (c := c2 G1 e1) (k := ?_); rintro _ _ ⟨G2, e2, rfl, rfl⟩; (repeat (first | simp [F] | simp (disch := omega) only [wC, if_pos, if_neg])); (iterate 3 refine go2 (k := ?_)); refine ca (c := c3 G2 e2) (k := ?_); rintro _ _ ⟨G3, e3, rfl, rfl⟩; (repeat (first | simp [F] | simp (disch := omega) only [wC, if_pos, if_neg])); refine go2 (k := ?_); refine hJ13 _ _ ?_; refine cf ?_; refine run_skip ?_; refine hK11 _ _ ?_; refine sr fun _ hJ15 => ?_; refine ca (c := c4 G3 e3) (k := ?_); rintro _ _ ⟨rfl, rfl⟩; (repeat (first | simp [F] | simp (disch := omega) only [wC, if_pos, if_neg])); refine hJ15 _ _ ?_; refine sr fun _ hJ17 => ?_; (iterate 7 refine go2 (k := ?_)); refine ca (c := c5 G3 e3) (k := ?_); rintro _ _ ⟨rfl, rfl⟩; (repeat (first | simp [F] | simp (disch := omega) only [wC, if_pos, if_neg])); (iterate 3 refine go2 (k := ?_)); refine ca (c := c6 G3 e3) (k := ?_); rintro _ _ ⟨G4, e4, rfl, rfl⟩; (repeat (first | simp [F] | simp (disch := omega) only [wC, if_pos, if_neg])); refine go2 (k := ?_); refine hJ17 _ _ ?_; refine ra ?_; simp only [Sp]
  exact gcr

set_option maxHeartbeats 1600000 in
attribute [local simp] undefA List.getElem?_cons_zero List.getElem?_cons_succ in
theorem bankNil_ok {σ : St} {a b d : UInt8} : CallsA Try.prog 9 [.v (.int .u8 a.toNat), .v (.int .u8 b.toNat), .v (.int .u8 d.toNat)] σ (fun av σ' => av = .v (.bool true) ∧ σ = σ') := by
  have hba := fun τ => balanceN_ok (σ := τ) (a := a) (d := d)
  have e : numA 0 = [.v (.int .u64 0), .v (.int .u64 0), .v (.int .u64 0), .v (.int .u64 0)] := by simp [numA, limb]
  rw [e] at hba
  have F := True.intro
  refine callsA_body Try.func9 rfl rfl rfl ?_; refine sr fun _ hJ2 => ?_; refine hJ2 _ _ ?_; refine sr fun _ hJ4 => ?_; refine ca (c := sends_ok) (k := ?_); rintro _ _ ⟨rfl, rfl⟩; (repeat (first | simp [F] | simp (disch := omega) only [wC, if_pos, if_neg])); refine ca (c := allBN_ok) (k := ?_); rintro _ _ ⟨rfl, rfl⟩; (repeat (first | simp [F] | simp (disch := omega) only [wC, if_pos, if_neg])); refine go2 (k := ?_); refine ca (c := supplyN_ok) (k := ?_); rintro _ _ ⟨rfl, rfl⟩; (repeat (first | simp [F] | simp (disch := omega) only [wC, if_pos, if_neg])); (iterate 3 refine go2 (k := ?_)); refine ca (c := coinsBN_ok) (k := ?_); rintro _ _ ⟨rfl, rfl⟩; (repeat (first | simp [F] | simp (disch := omega) only [wC, if_pos, if_neg])); (iterate 5 refine go2 (k := ?_)); refine ca (c := hba _) (k := ?_); rintro _ _ ⟨rfl, rfl⟩; (repeat (first | simp [F] | simp (disch := omega) only [wC, if_pos, if_neg])); (iterate 4 refine go2 (k := ?_)); refine ca (c := sendN_ok) (k := ?_); rintro _ _ ⟨rfl, rfl⟩; (repeat (first | simp [F] | simp (disch := omega) only [wC, if_pos, if_neg])); (iterate 2 refine go2 (k := ?_)); refine ca (c := mintN_ok) (k := ?_); rintro _ _ ⟨rfl, rfl⟩; (repeat (first | simp [F] | simp (disch := omega) only [wC, if_pos, if_neg])); (iterate 2 refine go2 (k := ?_)); refine ca (c := burnN_ok) (k := ?_); rintro _ _ ⟨rfl, rfl⟩; (repeat (first | simp [F] | simp (disch := omega) only [wC, if_pos, if_neg])); refine go2 (k := ?_); refine hJ4 _ _ ?_; refine ra ?_; exact rt
end Go.Proofs.Ytmponlabfccjaaa

/-
  Plans: what they are, when they are right.
-/
namespace Go.Vm
open Go

structure Per where
  l : Nat
  c : List Coin
deriving DecidableEq

structure Pln where
  k : UInt8
  s : Nat
  e : Nat
  tot : List Coin
  ps : List Per
deriving DecidableEq

def perC (p : Per) : List AV := [.v (.int .u64 p.l), .sl 5 (coinsC p.c) p.c.length .shut]
def persC (l : List Per) : List AV := l.flatMap perC
@[simp] theorem persC_nil : persC [] = [] := rfl
@[simp] theorem persC_len (l : List Per) : (persC l).length = l.length * 2 := flat_length perC 2 (fun _ => rfl) l
structure PerQ where
  i : Nat
  e : Nat
  a : List Coin

section
variable {P : Program} {z : Zone} {N : Nat} {σ : St} {ρ : Nat → AV}
end

end Go.Vm
