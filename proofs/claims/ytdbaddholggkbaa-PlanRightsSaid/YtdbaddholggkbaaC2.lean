import Derived.Test.YtdbaddholggkbaaR
/-
  The codec's reader: what is read.
-/
namespace Go.Proofs.Ytdbaddholggkbaa
set_option linter.unnecessarySimpa false
set_option maxRecDepth 100000
open Go Go.Vm
set_option linter.unusedSimpArgs false
set_option linter.unusedVariables false

attribute [local simp] evalL wantedA isCall opA evalA evalAll evalsA evalOpt ofValue ofCell plain binA_eql_pn binA_neq_pn binA_gtr binA_lss binA_geq binA_leq binA_add binA_sub binA_eql binA_neq binA_or binA_shl binA_mul binA_quo binA_rem convA_int unA_not fieldAddrA loadA partA pickA lenA builtinA storeA splice AV.cells AV.isCell sliceA boundA intA callOf indexAddrA newObjA buildA fillA zeroA ofCells

theorem takeB_len (n : Nat) (s : Option (List UInt8)) : (takeB n s).length ≤ n := by
  cases s with
  | none => simp [takeB]
  | some p => simp only [takeB]; split <;> simp <;> omega

theorem be_lt1 {l : List UInt8} (h : l.length ≤ 1) : be l < 256 := by
  have h1 := be_lt l
  have h2 : 256 ^ l.length ≤ 256 ^ 1 := Nat.pow_le_pow_right (by omega) h
  omega
theorem be_lt2 {l : List UInt8} (h : l.length ≤ 2) : be l < 65536 := by
  have h1 := be_lt l
  have h2 : 256 ^ l.length ≤ 256 ^ 2 := Nat.pow_le_pow_right (by omega) h
  omega

theorem byte_ok {σ : St} {id : Nat} {s : Option (List UInt8)} (h : σ.objs[id]? = some (rd s)) :
    CallsA Try.prog 81 [.ptr id 0] σ (fun av σ' => av = .v (.int .u8 (be (takeB 1 s) : Nat)) ∧ σ' = { σ with objs := σ.objs.set id (rd (takeS 1 s)) }) := by
  have hw : IntKind.u8.wrap ((be (takeB 1 s) : Nat) : Int) = (be (takeB 1 s) : Nat) := by rw [wrap_u8, Nat.mod_eq_of_lt (be_lt1 (takeB_len 1 s))]
  refine callsA_body Try.func81 rfl rfl rfl ?_
  refine run_seq_k fun K1 hK1 => ?_
  refine run_region_k rfl fun J2 hJ2 => ?_
  try simp [hw]
  refine hJ2 _ _ ?_
  refine hK1 _ _ ?_
  refine run_seq_k fun K3 hK3 => ?_
  refine run_region_k rfl fun J4 hJ4 => ?_
  try simp [hw]
  refine runL_call' (b := true) (by first | rfl | (simp [hw, wantedA]; done)) rfl rfl (by first | rfl | (simp [hw, callOf]; done)) (by simp) (number_ok (n := 1) h (by omega)) ?_
  rintro _ _ ⟨rfl, rfl⟩
  try simp [hw]
  refine hJ4 _ _ ?_
  refine hK3 _ _ ?_
  refine run_ret ?_
  try simp only [Then, InBlock, NoGoto]
  refine answer_tmp rfl (.inr rfl) ?_
  simp [hw]

theorem short_ok {σ : St} {id : Nat} {s : Option (List UInt8)} (h : σ.objs[id]? = some (rd s)) :
    CallsA Try.prog 134 [.ptr id 0] σ (fun av σ' => av = .v (.int .u16 (be (takeB 2 s) : Nat)) ∧ σ' = { σ with objs := σ.objs.set id (rd (takeS 2 s)) }) := by
  have hw : IntKind.u16.wrap ((be (takeB 2 s) : Nat) : Int) = (be (takeB 2 s) : Nat) := by rw [wrap_u16, Nat.mod_eq_of_lt (be_lt2 (takeB_len 2 s))]
  refine callsA_body Try.func134 rfl rfl rfl ?_
  refine run_seq_k fun K1 hK1 => ?_
  refine run_region_k rfl fun J2 hJ2 => ?_
  try simp [hw]
  refine hJ2 _ _ ?_
  refine hK1 _ _ ?_
  refine run_seq_k fun K3 hK3 => ?_
  refine run_region_k rfl fun J4 hJ4 => ?_
  try simp [hw]
  refine runL_call' (b := true) (by first | rfl | (simp [hw, wantedA]; done)) rfl rfl (by first | rfl | (simp [hw, callOf]; done)) (by simp) (number_ok (n := 2) h (by omega)) ?_
  rintro _ _ ⟨rfl, rfl⟩
  try simp [hw]
  refine hJ4 _ _ ?_
  refine hK3 _ _ ?_
  refine run_ret ?_
  try simp only [Then, InBlock, NoGoto]
  refine answer_tmp rfl (.inr rfl) ?_
  simp [hw]

theorem long_ok {σ : St} {id : Nat} {s : Option (List UInt8)} (h : σ.objs[id]? = some (rd s)) :
    CallsA Try.prog 46 [.ptr id 0] σ (fun av σ' => av = .v (.int .u64 (be (takeB 8 s) : Nat)) ∧ σ' = { σ with objs := σ.objs.set id (rd (takeS 8 s)) }) := by
  refine callsA_body Try.func46 rfl rfl rfl ?_
  refine run_seq_k fun K1 hK1 => ?_
  refine run_region_k rfl fun J2 hJ2 => ?_
  try simp
  refine hJ2 _ _ ?_
  refine hK1 _ _ ?_
  refine run_seq_k fun K3 hK3 => ?_
  refine run_region_k rfl fun J4 hJ4 => ?_
  try simp
  refine runL_call' (b := true) (by first | rfl | (simp [wantedA]; done)) rfl rfl (by first | rfl | (simp [callOf]; done)) (by simp) (number_ok (n := 8) h (by omega)) ?_
  rintro _ _ ⟨rfl, rfl⟩
  try simp
  refine hJ4 _ _ ?_
  refine hK3 _ _ ?_
  refine run_ret ?_
  try simp only [Then, InBlock, NoGoto]
  refine answer_tmp rfl (.inr rfl) ?_
  simp

def flagS (s : Option (List UInt8)) : Option (List UInt8) := if 1 < be (takeB 1 s) then none else takeS 1 s

theorem flag_ok {σ : St} {id : Nat} {s : Option (List UInt8)} (h : σ.objs[id]? = some (rd s)) :
    CallsA Try.prog 135 [.ptr id 0] σ (fun av σ' => av = .v (.bool (be (takeB 1 s) == 1)) ∧ σ' = { σ with objs := σ.objs.set id (rd (flagS s)) }) := by
  have hs := set_self_of h
  by_cases hb : 1 < be (takeB 1 s)
  · have hi : (1 : Int) < (be (takeB 1 s) : Nat) := by omega
    have hn : ¬ be (takeB 1 s) = 1 := by omega
    have hf : flagS s = none := if_pos hb
    refine callsA_body Try.func135 rfl rfl rfl ?_
    refine run_seq_k fun K1 hK1 => ?_
    refine run_region_k rfl fun J2 hJ2 => ?_
    try simp [hi, hn, hf]
    refine hJ2 _ _ ?_
    refine hK1 _ _ ?_
    refine run_seq_k fun K3 hK3 => ?_
    refine run_region_k rfl fun J4 hJ4 => ?_
    try simp [hi, hn, hf]
    refine runL_call' (b := true) (by first | rfl | (simp [hi, hn, hf, wantedA]; done)) rfl rfl (by first | rfl | (simp [hi, hn, hf, callOf]; done)) (by simp) (byte_ok h) ?_
    rintro _ _ ⟨rfl, rfl⟩
    try simp [hi, hn, hf]
    refine hJ4 _ _ ?_
    refine hK3 _ _ ?_
    refine run_seq_k fun K5 hK5 => ?_
    refine run_seq_k fun K6 hK6 => ?_
    refine run_region_k rfl fun J7 hJ7 => ?_
    try simp [hi, hn, hf]
    refine hJ7 _ _ ?_
    refine hK6 _ _ ?_
    refine run_cond_true (by first | rfl | (simp [hi, hn, hf, evalA]; done)) ?_
    refine run_seq_k fun K8 hK8 => ?_
    refine run_region_k rfl fun J9 hJ9 => ?_
    try simp [hi, hn, hf]
    refine runL_call' (b := true) (by first | rfl | (simp [hi, hn, hf, wantedA]; done)) rfl rfl (by first | rfl | (simp [hi, hn, hf, callOf]; done)) (by simp) (fail_ok (hs _)) ?_
    rintro _ _ ⟨rfl, rfl⟩
    try simp [hi, hn, hf]
    refine hJ9 _ _ ?_
    refine hK8 _ _ ?_
    refine run_seq_k fun K10 hK10 => ?_
    refine run_region_k rfl fun J11 hJ11 => ?_
    try simp [hi, hn, hf]
    refine hJ11 _ _ ?_
    refine hK10 _ _ ?_
    refine run_ret ?_
    try simp only [Then, InBlock, NoGoto]
    refine answer_tmp rfl (.inr rfl) ?_
    simp [hi, hn, hf]
  · have hi : ¬ (1 : Int) < (be (takeB 1 s) : Nat) := by omega
    have hf : flagS s = takeS 1 s := if_neg hb
    have he : ((be (takeB 1 s) : Nat) : Int) == 1 ↔ be (takeB 1 s) == 1 := by simp; omega
    refine callsA_body Try.func135 rfl rfl rfl ?_
    refine run_seq_k fun K1 hK1 => ?_
    refine run_region_k rfl fun J2 hJ2 => ?_
    try simp [hi, hf]
    refine hJ2 _ _ ?_
    refine hK1 _ _ ?_
    refine run_seq_k fun K3 hK3 => ?_
    refine run_region_k rfl fun J4 hJ4 => ?_
    try simp [hi, hf]
    refine runL_call' (b := true) (by first | rfl | (simp [hi, hf, wantedA]; done)) rfl rfl (by first | rfl | (simp [hi, hf, callOf]; done)) (by simp) (byte_ok h) ?_
    rintro _ _ ⟨rfl, rfl⟩
    try simp [hi, hf]
    refine hJ4 _ _ ?_
    refine hK3 _ _ ?_
    refine run_seq_k fun K5 hK5 => ?_
    refine run_seq_k fun K6 hK6 => ?_
    refine run_region_k rfl fun J7 hJ7 => ?_
    try simp [hi, hf]
    refine hJ7 _ _ ?_
    refine hK6 _ _ ?_
    refine run_cond_false (by first | rfl | (simp [hi, hf, evalA]; done)) ?_
    refine run_skip ?_
    refine hK5 _ _ ?_
    refine run_seq_k fun K8 hK8 => ?_
    refine run_region_k rfl fun J9 hJ9 => ?_
    try simp [hi, hf]
    refine hJ9 _ _ ?_
    refine hK8 _ _ ?_
    refine run_ret ?_
    try simp only [Then, InBlock, NoGoto]
    refine answer_tmp rfl (.inr rfl) ?_
    simp [hi, hf]
    rw [Bool.eq_iff_iff]; exact he

def endB (s : Option (List UInt8)) : Bool := s == some []

theorem end_some {σ : St} {id : Nat} {p : List UInt8} (h : σ.objs[id]? = some (rd (some p))) :
    CallsA Try.prog 48 [.ptr id 0] σ (fun av σ' => av = .v (.bool (p.length == 0)) ∧ σ = σ') := by
  refine callsA_body Try.func48 rfl rfl rfl ?_
  refine run_seq_k fun K1 hK1 => ?_
  refine run_region_k rfl fun J2 hJ2 => ?_
  try simp [h, rd]
  refine hJ2 _ _ ?_
  refine hK1 _ _ ?_
  refine run_seq_k fun K3 hK3 => ?_
  refine run_region_k rfl fun J4 hJ4 => ?_
  try simp [h, rd]
  refine runL_call' (b := true) (by first | rfl | (simp [h, rd, wantedA]; done)) rfl rfl (by first | rfl | (simp [h, rd, callOf]; done)) (by simp) (bad_some h) ?_
  rintro _ _ ⟨rfl, rfl⟩
  try simp [h, rd]
  refine runL_go (by first | rfl | (simp [h, rd, wantedA]; done)) rfl ?_
  try simp [h, rd]
  refine runL_go (by first | rfl | (simp [h, rd, wantedA]; done)) rfl ?_
  try simp [h, rd]
  refine runL_go (by first | rfl | (simp [h, rd, wantedA]; done)) rfl ?_
  try simp [h, rd]
  refine runL_go (by first | rfl | (simp [h, rd, wantedA]; done)) rfl ?_
  try simp [h, rd]
  refine runL_go (by first | rfl | (simp [h, rd, wantedA]; done)) rfl ?_
  try simp [h, rd]
  refine runL_go (by first | rfl | (simp [h, rd, wantedA]; done)) rfl ?_
  try simp [h, rd]
  refine hJ4 _ _ ?_
  refine hK3 _ _ ?_
  refine run_ret ?_
  try simp only [Then, InBlock, NoGoto]
  refine answer_tmp rfl (.inr rfl) ?_
  simp [h, rd]
  rw [Bool.eq_iff_iff]; simp

theorem end_none {σ : St} {id : Nat} (h : σ.objs[id]? = some (rd none)) :
    CallsA Try.prog 48 [.ptr id 0] σ (fun av σ' => av = .v (.bool false) ∧ σ = σ') := by
  refine callsA_body Try.func48 rfl rfl rfl ?_
  refine run_seq_k fun K1 hK1 => ?_
  refine run_region_k rfl fun J2 hJ2 => ?_
  try simp [h, rd]
  refine hJ2 _ _ ?_
  refine hK1 _ _ ?_
  refine run_seq_k fun K3 hK3 => ?_
  refine run_region_k rfl fun J4 hJ4 => ?_
  try simp [h, rd]
  refine runL_call' (b := true) (by first | rfl | (simp [h, rd, wantedA]; done)) rfl rfl (by first | rfl | (simp [h, rd, callOf]; done)) (by simp) (bad_none h) ?_
  rintro _ _ ⟨rfl, rfl⟩
  try simp [h, rd]
  refine runL_no (by first | rfl | (simp [h, rd, wantedA]; done)) rfl ?_
  try simp [h, rd]
  refine runL_no (by first | rfl | (simp [h, rd, wantedA]; done)) rfl ?_
  try simp [h, rd]
  refine runL_no (by first | rfl | (simp [h, rd, wantedA]; done)) rfl ?_
  try simp [h, rd]
  refine runL_no (by first | rfl | (simp [h, rd, wantedA]; done)) rfl ?_
  try simp [h, rd]
  refine runL_no (by first | rfl | (simp [h, rd, wantedA]; done)) rfl ?_
  try simp [h, rd]
  refine runL_no (by first | rfl | (simp [h, rd, wantedA]; done)) rfl ?_
  try simp [h, rd]
  refine hJ4 _ _ ?_
  refine hK3 _ _ ?_
  refine run_ret ?_
  try simp only [Then, InBlock, NoGoto]
  refine answer_tmp rfl (.inr rfl) ?_
  simp [h, rd]
  rfl

theorem end_ok {σ : St} {id : Nat} {s : Option (List UInt8)} (h : σ.objs[id]? = some (rd s)) :
    CallsA Try.prog 48 [.ptr id 0] σ (fun av σ' => av = .v (.bool (endB s)) ∧ σ = σ') := by
  cases s with
  | none => exact end_none h
  | some p =>
    have e : endB (some p) = (p.length == 0) := by cases p <;> rfl
    rw [e]; exact end_some h

def leftN (s : Option (List UInt8)) : Nat := (s.getD []).length

theorem left_ok {σ : St} {id : Nat} {s : Option (List UInt8)} (h : σ.objs[id]? = some (rd s)) :
    CallsA Try.prog 37 [.ptr id 0] σ (fun av σ' => av = .v (.int .i64 (leftN s : Nat)) ∧ σ = σ') := by
  cases s with
  | none => exact left_none h
  | some p => exact left_some h

def numB (s : Option (List UInt8)) : List UInt8 := takeB (be (takeB 1 s)) (takeS 1 s)
def numS (s : Option (List UInt8)) : Option (List UInt8) := if numOk (numB s) then takeS (be (takeB 1 s)) (takeS 1 s) else none

theorem num_raw {σ : St} {id : Nat} {s : Option (List UInt8)} (h : σ.objs[id]? = some (rd s)) :
    CallsA Try.prog 128 [.ptr id 0] σ (fun av σ' => av = .agg (numA (numOf (numB s))) ∧ σ' = { σ with objs := σ.objs.set id (rd (numS s)) ++ [numA (numOf (numB s)), numA (numOf (numB s))] }) := by
  have hlt := lt_of_get h
  have hw : IntKind.i64.wrap ((be (takeB 1 s) : Nat) : Int) = (be (takeB 1 s) : Nat) := wrap_i64 _ (by omega) (by have := be_lt1 (takeB_len 1 s); omega)
  have h1 : ∀ r : List AV, (σ.objs ++ [r])[id]? = some (rd s) := fun r => by rw [List.getElem?_append_left hlt]; exact h
  have h2 : ∀ (x r : List AV), (σ.objs.set id x ++ [r])[id]? = some x := fun x r => by rw [List.getElem?_append_left (by simpa using hlt)]; exact set_self_of h x
  have h3 : ∀ (x r r2 : List AV), (σ.objs.set id x ++ [r, r2])[id]? = some x := fun x r r2 => by rw [List.getElem?_append_left (by simpa using hlt)]; exact set_self_of h x
  have ha : ∀ (x r : List AV), (σ.objs ++ [r]).set id x = σ.objs.set id x ++ [r] := fun x r => List.set_append_left _ _ hlt
  have hb : ∀ (x y r : List AV), (σ.objs.set id y ++ [r]).set id x = σ.objs.set id x ++ [r] := fun x y r => by rw [List.set_append_left _ _ (by simpa using hlt), List.set_set]
  have hc : ∀ (x y r r2 : List AV), (σ.objs.set id y ++ [r, r2]).set id x = σ.objs.set id x ++ [r, r2] := fun x y r r2 => by rw [List.set_append_left _ _ (by simpa using hlt), List.set_set]
  cases hn : numOk (numB s) with
  | true =>
    have hS : numS s = takeS (be (takeB 1 s)) (takeS 1 s) := by simp [numS, hn]
    have hn' : numOk (takeB (be (takeB 1 s)) (takeS 1 s)) = true := hn
    rw [hS]
    show CallsA _ _ _ _ (fun av σ' => av = .agg (numA (numOf (takeB (be (takeB 1 s)) (takeS 1 s)))) ∧ _)
    refine callsA_body Try.func128 rfl rfl rfl ?_
    refine run_seq_k fun K1 hK1 => ?_
    refine run_region_k rfl fun J2 hJ2 => ?_
    try simp [hw, ha, hb, hc, hn']
    refine hJ2 _ _ ?_
    refine hK1 _ _ ?_
    refine run_seq_k fun K3 hK3 => ?_
    refine run_region_k rfl fun J4 hJ4 => ?_
    try simp [hw, ha, hb, hc, hn']
    refine runL_call' (b := true) (by first | rfl | (simp [hw, ha, hb, hc, hn', wantedA]; done)) rfl rfl (by first | rfl | (simp [hw, ha, hb, hc, hn', callOf]; done)) (by simp) (byte_ok (h1 _)) ?_
    rintro _ _ ⟨rfl, rfl⟩
    try simp [hw, ha, hb, hc, hn']
    refine runL_call' (b := true) (by first | rfl | (simp [hw, ha, hb, hc, hn', wantedA]; done)) rfl rfl (by first | rfl | (simp [hw, ha, hb, hc, hn', callOf]; done)) (by simp) (take_ok (h2 _ _)) ?_
    rintro _ _ ⟨rfl, rfl⟩
    try simp [hw, ha, hb, hc, hn']
    refine runL_call' (b := true) (by first | rfl | (simp [hw, ha, hb, hc, hn', wantedA]; done)) rfl rfl (by first | rfl | (simp [hw, ha, hb, hc, hn', callOf]; done)) (by simp) (read_num) ?_
    rintro _ _ ⟨rfl, rfl⟩
    try simp [hw, ha, hb, hc, hn']
    refine hJ4 _ _ ?_
    refine hK3 _ _ ?_
    refine run_seq_k fun K5 hK5 => ?_
    refine run_seq_k fun K6 hK6 => ?_
    refine run_region_k rfl fun J7 hJ7 => ?_
    try simp [hw, ha, hb, hc, hn']
    refine hJ7 _ _ ?_
    refine hK6 _ _ ?_
    refine run_cond_false (by first | rfl | (simp [hw, ha, hb, hc, hn', evalA]; done)) ?_
    refine run_skip ?_
    refine hK5 _ _ ?_
    refine run_seq_k fun K8 hK8 => ?_
    refine run_region_k rfl fun J9 hJ9 => ?_
    try simp [hw, ha, hb, hc, hn']
    refine hJ9 _ _ ?_
    refine hK8 _ _ ?_
    refine run_ret ?_
    try simp only [Then, InBlock, NoGoto]
    refine answer_cell rfl (.inr rfl) ?_
    simp [hw, ha, hb, hc, hn']
    rfl
  | false =>
    have hS : numS s = none := by simp [numS, hn]
    have hn' : numOk (takeB (be (takeB 1 s)) (takeS 1 s)) = false := hn
    rw [hS]
    show CallsA _ _ _ _ (fun av σ' => av = .agg (numA (numOf (takeB (be (takeB 1 s)) (takeS 1 s)))) ∧ _)
    refine callsA_body Try.func128 rfl rfl rfl ?_
    refine run_seq_k fun K1 hK1 => ?_
    refine run_region_k rfl fun J2 hJ2 => ?_
    try simp [hw, ha, hb, hc, hn']
    refine hJ2 _ _ ?_
    refine hK1 _ _ ?_
    refine run_seq_k fun K3 hK3 => ?_
    refine run_region_k rfl fun J4 hJ4 => ?_
    try simp [hw, ha, hb, hc, hn']
    refine runL_call' (b := true) (by first | rfl | (simp [hw, ha, hb, hc, hn', wantedA]; done)) rfl rfl (by first | rfl | (simp [hw, ha, hb, hc, hn', callOf]; done)) (by simp) (byte_ok (h1 _)) ?_
    rintro _ _ ⟨rfl, rfl⟩
    try simp [hw, ha, hb, hc, hn']
    refine runL_call' (b := true) (by first | rfl | (simp [hw, ha, hb, hc, hn', wantedA]; done)) rfl rfl (by first | rfl | (simp [hw, ha, hb, hc, hn', callOf]; done)) (by simp) (take_ok (h2 _ _)) ?_
    rintro _ _ ⟨rfl, rfl⟩
    try simp [hw, ha, hb, hc, hn']
    refine runL_call' (b := true) (by first | rfl | (simp [hw, ha, hb, hc, hn', wantedA]; done)) rfl rfl (by first | rfl | (simp [hw, ha, hb, hc, hn', callOf]; done)) (by simp) (read_num) ?_
    rintro _ _ ⟨rfl, rfl⟩
    try simp [hw, ha, hb, hc, hn']
    refine hJ4 _ _ ?_
    refine hK3 _ _ ?_
    refine run_seq_k fun K5 hK5 => ?_
    refine run_seq_k fun K6 hK6 => ?_
    refine run_region_k rfl fun J7 hJ7 => ?_
    try simp [hw, ha, hb, hc, hn']
    refine hJ7 _ _ ?_
    refine hK6 _ _ ?_
    refine run_cond_true (by first | rfl | (simp [hw, ha, hb, hc, hn', evalA]; done)) ?_
    refine run_region_k rfl fun J8 hJ8 => ?_
    try simp [hw, ha, hb, hc, hn']
    refine runL_call' (b := true) (by first | rfl | (simp [hw, ha, hb, hc, hn', wantedA]; done)) rfl rfl (by first | rfl | (simp [hw, ha, hb, hc, hn', callOf]; done)) (by simp) (fail_ok (h3 _ _ _)) ?_
    rintro _ _ ⟨rfl, rfl⟩
    try simp [hw, ha, hb, hc, hn']
    refine hJ8 _ _ ?_
    refine hK5 _ _ ?_
    refine run_seq_k fun K9 hK9 => ?_
    refine run_region_k rfl fun J10 hJ10 => ?_
    try simp [hw, ha, hb, hc, hn']
    refine hJ10 _ _ ?_
    refine hK9 _ _ ?_
    refine run_ret ?_
    try simp only [Then, InBlock, NoGoto]
    refine answer_cell rfl (.inr rfl) ?_
    simp [hw, ha, hb, hc, hn']
    rfl

theorem rd_under (B : Bd) (s : Option (List UInt8)) : underL B (rd s) = true := by
  cases s with
  | none => rfl
  | some p => simp [rd, underL, AV.under, under_bytes]

theorem num_ok {σ : St} {id : Nat} {s : Option (List UInt8)} (h : σ.objs[id]? = some (rd s)) :
    CallsA Try.prog 128 [.ptr id 0] σ (fun av σ' => av = .agg (numA (numOf (numB s))) ∧ σ' = { σ with objs := σ.objs.set id (rd (numS s)) }) :=
  callsA_gc_set (num_raw h) rfl (rd_under _ _)

end Go.Proofs.Ytdbaddholggkbaa
