import Derived.Test.YtlkajgjaidedkaaZ8
import Derived.Test.YtlkajgjaidedkaaZ7
import Derived.Test.YtlkajgjaidedkaaZ6
/-
  The codec's reader, over plain lists.
-/
namespace Go.Proofs.Ytlkajgjaidedkaa
set_option linter.unnecessarySimpa false
set_option maxRecDepth 100000
open Go Go.Vm
set_option linter.unusedSimpArgs false
set_option linter.unusedVariables false
attribute [local simp] evalL wantedA isCall opA evalA evalAll evalsA evalOpt ofValue ofCell plain binA_eql_pn binA_neq_pn binA_gtr binA_lss binA_geq binA_leq binA_add binA_sub binA_eql binA_neq binA_or binA_shl binA_quo binA_rem convA_int unA_not fieldAddrA loadA partA pickA lenA builtinA storeA splice AV.cells AV.isCell sliceA boundA intA callOf indexAddrA newObjA

def rd : Option (List UInt8) → List AV
  | some p => [.sl 1 (bytesA p) p.length .shut, .v (.bool false)]
  | none => [.sl 1 [] 0 .shut, .v (.bool true)]

theorem set_same {α : Type} {l : List α} {i : Nat} {x : α} (h : l[i]? = some x) : l.set i x = l := by
  apply List.ext_getElem?
  intro j
  by_cases hj : i = j
  · subst hj; rw [set_self_of h x, h]
  · rw [List.getElem?_set_ne hj]

theorem St.set_same {σ : St} {i : Nat} {x : List AV} (h : σ.objs[i]? = some x) : { σ with objs := σ.objs.set i x } = σ := by
  rw [Ytlkajgjaidedkaa.set_same h]

theorem bad_some {σ : St} {id : Nat} {p : List UInt8} (h : σ.objs[id]? = some (rd (some p))) : CallsA Try.prog 129 [.ptr id 0] σ (fun av σ' => av = .v (.bool false) ∧ σ = σ') := by
  refine callsA_body Try.func129 rfl rfl rfl ?_; refine run_seq_k fun K1 hK1 => ?_; refine run_region_k rfl fun J2 hJ2 => ?_; (try simp [h, rd]); refine hJ2 _ _ ?_; refine hK1 _ _ ?_; refine run_seq_k fun K3 hK3 => ?_; refine run_region_k rfl fun J4 hJ4 => ?_; try simp [h, rd]
  refine runL_go (by first | rfl | (simp [h, rd, wantedA]; done)) rfl ?_
  try simp [h, rd]
  refine runL_go (by first | rfl | (simp [h, rd, wantedA]; done)) rfl ?_
  try simp [h, rd]
  refine runL_go (by first | rfl | (simp [h, rd, wantedA]; done)) rfl ?_
  try simp [h, rd]
  refine runL_go (by first | rfl | (simp [h, rd, wantedA]; done)) rfl ?_
  (try simp [h, rd]); refine hJ4 _ _ ?_; refine hK3 _ _ ?_; refine ra ?_; simp [h, rd]

theorem bad_none {σ : St} {id : Nat} (h : σ.objs[id]? = some (rd none)) : CallsA Try.prog 129 [.ptr id 0] σ (fun av σ' => av = .v (.bool true) ∧ σ = σ') := by
  refine callsA_body Try.func129 rfl rfl rfl ?_; refine run_seq_k fun K1 hK1 => ?_; refine run_region_k rfl fun J2 hJ2 => ?_; (try simp [h, rd]); refine hJ2 _ _ ?_; refine hK1 _ _ ?_; refine run_seq_k fun K3 hK3 => ?_; refine run_region_k rfl fun J4 hJ4 => ?_; try simp [h, rd]
  refine runL_go (by first | rfl | (simp [h, rd, wantedA]; done)) rfl ?_
  try simp [h, rd]
  refine runL_go (by first | rfl | (simp [h, rd, wantedA]; done)) rfl ?_
  try simp [h, rd]
  refine runL_go (by first | rfl | (simp [h, rd, wantedA]; done)) rfl ?_
  try simp [h, rd]
  refine runL_go (by first | rfl | (simp [h, rd, wantedA]; done)) rfl ?_
  (try simp [h, rd]); refine hJ4 _ _ ?_; refine hK3 _ _ ?_; refine ra ?_; simp [h, rd]

theorem left_some {σ : St} {id : Nat} {p : List UInt8} (h : σ.objs[id]? = some (rd (some p))) : CallsA Try.prog 128 [.ptr id 0] σ (fun av σ' => av = .v (.int .i64 p.length) ∧ σ = σ') := by
  refine callsA_body Try.func128 rfl rfl rfl ?_; refine run_seq_k fun K1 hK1 => ?_; refine run_region_k rfl fun J2 hJ2 => ?_; (try simp [h, rd]); refine hJ2 _ _ ?_; refine hK1 _ _ ?_; refine run_seq_k fun K3 hK3 => ?_; refine run_seq_k fun K4 hK4 => ?_; refine run_region_k rfl fun J5 hJ5 => ?_; try simp [h, rd]
  refine runL_call' (b := true) (by first | rfl | (simp [h, rd, wantedA]; done)) rfl rfl (by first | rfl | (simp [h, rd, callOf]; done)) (by simp) (bad_some h) ?_
  rintro _ _ ⟨rfl, rfl⟩; (try simp [h, rd]); refine hJ5 _ _ ?_; refine hK4 _ _ ?_
  refine run_cond_false (by first | rfl | (simp [h, rd, evalA]; done)) ?_
  refine run_skip ?_; refine hK3 _ _ ?_; refine run_seq_k fun K6 hK6 => ?_; refine run_region_k rfl fun J7 hJ7 => ?_; (try simp [h, rd]); refine hJ7 _ _ ?_; refine hK6 _ _ ?_; refine ra ?_; simp [h, rd]

theorem left_none {σ : St} {id : Nat} (h : σ.objs[id]? = some (rd none)) : CallsA Try.prog 128 [.ptr id 0] σ (fun av σ' => av = .v (.int .i64 0) ∧ σ = σ') := by
  refine callsA_body Try.func128 rfl rfl rfl ?_; refine run_seq_k fun K1 hK1 => ?_; refine run_region_k rfl fun J2 hJ2 => ?_; (try simp [h, rd]); refine hJ2 _ _ ?_; refine hK1 _ _ ?_; refine run_seq_k fun K3 hK3 => ?_; refine run_seq_k fun K4 hK4 => ?_; refine run_region_k rfl fun J5 hJ5 => ?_; try simp [h, rd]
  refine runL_call' (b := true) (by first | rfl | (simp [h, rd, wantedA]; done)) rfl rfl (by first | rfl | (simp [h, rd, callOf]; done)) (by simp) (bad_none h) ?_
  rintro _ _ ⟨rfl, rfl⟩; (try simp [h, rd]); refine hJ5 _ _ ?_; refine hK4 _ _ ?_
  refine run_cond_true (by first | rfl | (simp [h, rd, evalA]; done)) ?_
  refine run_seq_k fun K6 hK6 => ?_; refine run_region_k rfl fun J7 hJ7 => ?_; (try simp [h, rd]); refine hJ7 _ _ ?_; refine hK6 _ _ ?_; refine ra ?_; simp [h, rd]

theorem fail_raw {σ : St} {id : Nat} {x y : AV} (h : σ.objs[id]? = some [x, y]) :
    CallsA Try.prog 126 [.ptr id 0] σ (fun av σ' => av = .tup [] ∧ σ' = { σ with objs := σ.objs.set id [.sl 0 [] 0 .full, .v (.bool true)] }) := by
  have hs := set_self_of h
  refine callsA_body Try.func126 rfl rfl rfl ?_; refine run_seq_k fun K1 hK1 => ?_; refine run_region_k rfl fun J2 hJ2 => ?_; (try simp [h, hs]); refine hJ2 _ _ ?_; refine hK1 _ _ ?_
  refine run_cond_true (by first | rfl | (simp [h, hs, evalA]; done)) ?_
  refine run_region_k rfl fun J3 hJ3 => ?_; (try simp [h, hs]); refine hJ3 _ _ ?_; (try simp only [Then, InBlock, NoGoto]); refine answer_none rfl (.inl rfl) ?_; simp [h, hs]

theorem fail_ok {σ : St} {id : Nat} {s : Option (List UInt8)} (h : σ.objs[id]? = some (rd s)) :
    CallsA Try.prog 126 [.ptr id 0] σ (fun av σ' => av = .tup [] ∧ σ' = { σ with objs := σ.objs.set id (rd none) }) := by
  have h' : ∃ x y, rd s = [x, y] := by cases s <;> exact ⟨_, _, rfl⟩
  obtain ⟨x, y, e⟩ := h'
  rw [e] at h
  exact callsA_wkS (fail_raw h) (fun av σ0 ⟨h1, h2⟩ => ⟨av, _, .refl _, by rw [h2]; exact WkS.set (.cons (Wk.nil 0 1 .full) (WkL.refl _)), h1, rfl⟩)

def takeB (n : Nat) : Option (List UInt8) → List UInt8
  | some p => if n ≤ p.length then p.take n else []
  | none => []
def takeS (n : Nat) : Option (List UInt8) → Option (List UInt8)
  | some p => if n ≤ p.length then some (p.drop n) else none
  | none => none

theorem take_yes {σ : St} {id n : Nat} {p : List UInt8} (h : σ.objs[id]? = some (rd (some p))) (hn : n ≤ p.length) :
    CallsA Try.prog 122 [.ptr id 0, .v (.int .i64 n)] σ (fun av σ' => av = .sl 1 ((bytesA p).take n) n .full ∧ σ' = { σ with objs := σ.objs.set id [.sl 1 ((bytesA p).drop n) (p.length - n) .shut, .v (.bool false)] }) := by
  have hs := set_self_of h
  have hn' : ¬ (p.length : Int) < n := by omega
  have hz : (List.take (p.length - n) (List.drop n (bytesA p))) = List.drop n (bytesA p) := List.take_of_length_le (by simp)
  refine callsA_body Try.func122 rfl rfl rfl ?_; refine run_seq_k fun K1 hK1 => ?_; refine run_region_k rfl fun J2 hJ2 => ?_; (try simp [h, rd, hs, hn, hn', hz]); refine hJ2 _ _ ?_; refine hK1 _ _ ?_; refine run_seq_k fun K3 hK3 => ?_; refine run_seq_k fun K4 hK4 => ?_; refine run_region_k rfl fun J5 hJ5 => ?_; try simp [h, rd, hs, hn, hn', hz]
  refine runL_call' (b := true) (by first | rfl | (simp [h, rd, hs, hn, hn', hz, wantedA]; done)) rfl rfl (by first | rfl | (simp [h, rd, hs, hn, hn', hz, callOf]; done)) (by simp) (left_some h) ?_
  rintro _ _ ⟨rfl, rfl⟩; (try simp [h, rd, hs, hn, hn', hz]); refine hJ5 _ _ ?_; refine hK4 _ _ ?_
  refine run_cond_false (by first | rfl | (simp [h, rd, hs, hn, hn', hz, evalA]; done)) ?_
  refine run_skip ?_; refine hK3 _ _ ?_; refine run_seq_k fun K6 hK6 => ?_; refine run_seq_k fun K7 hK7 => ?_; refine run_region_k rfl fun J8 hJ8 => ?_; try simp [h, rd, hs, hn, hn', hz]
  refine runL_call' (b := true) (by first | rfl | (simp [h, rd, hs, hn, hn', hz, wantedA]; done)) rfl rfl (by first | rfl | (simp [h, rd, hs, hn, hn', hz, callOf]; done)) (by simp) (bad_some h) ?_
  rintro _ _ ⟨rfl, rfl⟩; (try simp [h, rd, hs, hn, hn', hz]); refine hJ8 _ _ ?_; refine hK7 _ _ ?_
  refine run_cond_false (by first | rfl | (simp [h, rd, hs, hn, hn', hz, evalA]; done)) ?_
  refine run_skip ?_; refine hK6 _ _ ?_; refine run_seq_k fun K9 hK9 => ?_; refine run_region_k rfl fun J10 hJ10 => ?_; (try simp [h, rd, hs, hn, hn', hz]); refine hJ10 _ _ ?_; refine hK9 _ _ ?_; refine run_seq_k fun K11 hK11 => ?_; refine run_region_k rfl fun J12 hJ12 => ?_; (try simp [h, rd, hs, hn, hn', hz]); refine hJ12 _ _ ?_; refine hK11 _ _ ?_; refine run_seq_k fun K13 hK13 => ?_; refine run_region_k rfl fun J14 hJ14 => ?_; (try simp [h, rd, hs, hn, hn', hz]); refine hJ14 _ _ ?_; refine hK13 _ _ ?_; refine ra ?_; simp [h, rd, hs, hn, hn', hz]

theorem take_no {σ : St} {id n : Nat} {p : List UInt8} (h : σ.objs[id]? = some (rd (some p))) (hn : ¬ n ≤ p.length) :
    CallsA Try.prog 122 [.ptr id 0, .v (.int .i64 n)] σ (fun av σ' => av = .sl 0 [] 0 .full ∧ σ' = { σ with objs := σ.objs.set id (rd none) }) := by
  have hs := set_self_of h
  have hn' : (p.length : Int) < n := by omega
  refine callsA_body Try.func122 rfl rfl rfl ?_; refine run_seq_k fun K1 hK1 => ?_; refine run_region_k rfl fun J2 hJ2 => ?_; (try simp [h, rd, hs, hn']); refine hJ2 _ _ ?_; refine hK1 _ _ ?_; refine run_seq_k fun K3 hK3 => ?_; refine run_seq_k fun K4 hK4 => ?_; refine run_region_k rfl fun J5 hJ5 => ?_; try simp [h, rd, hs, hn']
  refine runL_call' (b := true) (by first | rfl | (simp [h, rd, hs, hn', wantedA]; done)) rfl rfl (by first | rfl | (simp [h, rd, hs, hn', callOf]; done)) (by simp) (left_some h) ?_
  rintro _ _ ⟨rfl, rfl⟩; (try simp [h, rd, hs, hn']); refine hJ5 _ _ ?_; refine hK4 _ _ ?_
  refine run_cond_true (by first | rfl | (simp [h, rd, hs, hn', evalA]; done)) ?_
  refine run_region_k rfl fun J6 hJ6 => ?_; try simp [h, rd, hs, hn']
  refine runL_call' (b := true) (by first | rfl | (simp [h, rd, hs, hn', wantedA]; done)) rfl rfl (by first | rfl | (simp [h, rd, hs, hn', callOf]; done)) (by simp) (fail_ok h) ?_
  rintro _ _ ⟨rfl, rfl⟩; (try simp [h, rd, hs, hn']); refine hJ6 _ _ ?_; refine hK3 _ _ ?_; refine run_seq_k fun K7 hK7 => ?_; refine run_seq_k fun K8 hK8 => ?_; refine run_region_k rfl fun J9 hJ9 => ?_; try simp [h, rd, hs, hn']
  refine runL_call' (b := true) (by first | rfl | (simp [h, rd, hs, hn', wantedA]; done)) rfl rfl (by first | rfl | (simp [h, rd, hs, hn', callOf]; done)) (by simp) (bad_none (hs _)) ?_
  rintro _ _ ⟨rfl, rfl⟩; (try simp [h, rd, hs, hn']); refine hJ9 _ _ ?_; refine hK8 _ _ ?_
  refine run_cond_true (by first | rfl | (simp [h, rd, hs, hn', evalA]; done)) ?_
  refine run_seq_k fun K10 hK10 => ?_; refine run_region_k rfl fun J11 hJ11 => ?_; (try simp [h, rd, hs, hn']); refine hJ11 _ _ ?_; refine hK10 _ _ ?_; refine ra ?_; simp [h, rd, hs, hn']

theorem take_none0 {σ : St} {id : Nat} (h : σ.objs[id]? = some (rd none)) :
    CallsA Try.prog 122 [.ptr id 0, .v (.int .i64 (0 : Nat))] σ (fun av σ' => av = .sl 0 [] 0 .full ∧ σ' = { σ with objs := σ.objs.set id (rd none) }) := by
  have he := St.set_same h
  refine callsA_body Try.func122 rfl rfl rfl ?_; refine run_seq_k fun K1 hK1 => ?_; refine run_region_k rfl fun J2 hJ2 => ?_; (try simp [h, rd]); refine hJ2 _ _ ?_; refine hK1 _ _ ?_; refine run_seq_k fun K3 hK3 => ?_; refine run_seq_k fun K4 hK4 => ?_; refine run_region_k rfl fun J5 hJ5 => ?_; try simp [h, rd]
  refine runL_call' (b := true) (by first | rfl | (simp [h, rd, wantedA]; done)) rfl rfl (by first | rfl | (simp [h, rd, callOf]; done)) (by simp) (left_none h) ?_
  rintro _ _ ⟨rfl, rfl⟩; (try simp [h, rd]); refine hJ5 _ _ ?_; refine hK4 _ _ ?_
  refine run_cond_false (by first | rfl | (simp [h, rd, evalA]; done)) ?_
  refine run_skip ?_; refine hK3 _ _ ?_; refine run_seq_k fun K6 hK6 => ?_; refine run_seq_k fun K7 hK7 => ?_; refine run_region_k rfl fun J8 hJ8 => ?_; try simp [h, rd]
  refine runL_call' (b := true) (by first | rfl | (simp [h, rd, wantedA]; done)) rfl rfl (by first | rfl | (simp [h, rd, callOf]; done)) (by simp) (bad_none h) ?_
  rintro _ _ ⟨rfl, rfl⟩; (try simp [h, rd]); refine hJ8 _ _ ?_; refine hK7 _ _ ?_
  refine run_cond_true (by first | rfl | (simp [h, rd, evalA]; done)) ?_
  refine run_seq_k fun K9 hK9 => ?_; refine run_region_k rfl fun J10 hJ10 => ?_; (try simp [h, rd]); refine hJ10 _ _ ?_; refine hK9 _ _ ?_; refine ra ?_; exact ⟨by simp, he.symm⟩

theorem take_nonep {σ : St} {id n : Nat} (h : σ.objs[id]? = some (rd none)) (hn : 0 < n) :
    CallsA Try.prog 122 [.ptr id 0, .v (.int .i64 n)] σ (fun av σ' => av = .sl 0 [] 0 .full ∧ σ' = { σ with objs := σ.objs.set id (rd none) }) := by
  have hs := set_self_of h
  refine callsA_body Try.func122 rfl rfl rfl ?_; refine run_seq_k fun K1 hK1 => ?_; refine run_region_k rfl fun J2 hJ2 => ?_; (try simp [h, rd, hs, hn]); refine hJ2 _ _ ?_; refine hK1 _ _ ?_; refine run_seq_k fun K3 hK3 => ?_; refine run_seq_k fun K4 hK4 => ?_; refine run_region_k rfl fun J5 hJ5 => ?_; try simp [h, rd, hs, hn]
  refine runL_call' (b := true) (by first | rfl | (simp [h, rd, hs, hn, wantedA]; done)) rfl rfl (by first | rfl | (simp [h, rd, hs, hn, callOf]; done)) (by simp) (left_none h) ?_
  rintro _ _ ⟨rfl, rfl⟩; (try simp [h, rd, hs, hn]); refine hJ5 _ _ ?_; refine hK4 _ _ ?_
  refine run_cond_true (by first | rfl | (simp [h, rd, hs, hn, evalA]; done)) ?_
  refine run_region_k rfl fun J6 hJ6 => ?_; try simp [h, rd, hs, hn]
  refine runL_call' (b := true) (by first | rfl | (simp [h, rd, hs, hn, wantedA]; done)) rfl rfl (by first | rfl | (simp [h, rd, hs, hn, callOf]; done)) (by simp) (fail_ok h) ?_
  rintro _ _ ⟨rfl, rfl⟩; (try simp [h, rd, hs, hn]); refine hJ6 _ _ ?_; refine hK3 _ _ ?_; refine run_seq_k fun K7 hK7 => ?_; refine run_seq_k fun K8 hK8 => ?_; refine run_region_k rfl fun J9 hJ9 => ?_; try simp [h, rd, hs, hn]
  refine runL_call' (b := true) (by first | rfl | (simp [h, rd, hs, hn, wantedA]; done)) rfl rfl (by first | rfl | (simp [h, rd, hs, hn, callOf]; done)) (by simp) (bad_none (hs _)) ?_
  rintro _ _ ⟨rfl, rfl⟩; (try simp [h, rd, hs, hn]); refine hJ9 _ _ ?_; refine hK8 _ _ ?_
  refine run_cond_true (by first | rfl | (simp [h, rd, hs, hn, evalA]; done)) ?_
  refine run_seq_k fun K10 hK10 => ?_; refine run_region_k rfl fun J11 hJ11 => ?_; (try simp [h, rd, hs, hn]); refine hJ11 _ _ ?_; refine hK10 _ _ ?_; refine ra ?_; simp [h, rd, hs, hn]

theorem take_ok {σ : St} {id n : Nat} {s : Option (List UInt8)} (h : σ.objs[id]? = some (rd s)) :
    CallsA Try.prog 122 [.ptr id 0, .v (.int .i64 n)] σ (fun av σ' => av = .sl 1 (bytesA (takeB n s)) (takeB n s).length .shut ∧ σ' = { σ with objs := σ.objs.set id (rd (takeS n s)) }) := by
  have nil : ∀ {Q : AV → St → Prop}, CallsA Try.prog 122 [.ptr id 0, .v (.int .i64 n)] σ (fun av σ' => av = .sl 0 [] 0 .full ∧ σ' = { σ with objs := σ.objs.set id (rd none) }) →
      Q (.sl 1 [] 0 .shut) { σ with objs := σ.objs.set id (rd none) } → CallsA Try.prog 122 [.ptr id 0, .v (.int .i64 n)] σ Q := fun k hq =>
    callsA_wkS k (fun av σ0 ⟨h1, h2⟩ => ⟨_, _, by rw [h1]; exact Wk.nil 0 1 .full, by rw [h2]; exact WkS.refl _, hq⟩)
  cases s with
  | none =>
    by_cases hn : n = 0
    · subst hn; exact nil (take_none0 h) ⟨by simp [takeB, bytesA], rfl⟩
    · exact nil (take_nonep h (by omega)) ⟨by simp [takeB, bytesA], rfl⟩
  | some p =>
    by_cases hn : n ≤ p.length
    · refine callsA_weaker (take_yes h hn) (Wk.shut _ _ _ _) (WkS.refl _) ?_; refine ⟨?_, ?_⟩
      · simp [takeB, hn, bytesA_take]
      · simp [takeS, hn, rd, bytesA_drop]
    · exact nil (take_no h hn) ⟨by simp [takeB, hn, bytesA], by simp [takeS, hn]⟩

theorem number_ok {σ : St} {id n : Nat} {s : Option (List UInt8)} (h : σ.objs[id]? = some (rd s)) (hn : n ≤ 8) :
    CallsA Try.prog 112 [.ptr id 0, .v (.int .i64 n)] σ (fun av σ' => av = .v (.int .u64 (be (takeB n s) : Nat)) ∧ σ' = { σ with objs := σ.objs.set id (rd (takeS n s)) }) := by
  have hlen : (takeB n s).length ≤ 8 := by
    cases s with
    | none => simp [takeB]
    | some p => simp only [takeB]; split <;> simp <;> omega
  generalize hl : takeB n s = l at hlen
  generalize hs' : takeS n s = s'
  have ht : CallsA Try.prog 122 [.ptr id 0, .v (.int .i64 n)] σ (fun av σ' => av = .sl 1 (bytesA l) l.length .shut ∧ σ' = { σ with objs := σ.objs.set id (rd s') }) := by
    subst hl hs'; exact take_ok h
  refine callsA_body Try.func112 rfl rfl rfl ?_; refine run_seq_k fun K1 hK1 => ?_; refine run_region_k rfl fun J2 hJ2 => ?_; (try simp); refine hJ2 _ _ ?_; refine hK1 _ _ ?_; refine run_seq_k fun K3 hK3 => ?_; refine run_region_k rfl fun J4 hJ4 => ?_; (try simp); refine hJ4 _ _ ?_; refine hK3 _ _ ?_; refine run_seq_k fun K5 hK5 => ?_; refine run_seq_k fun K6 hK6 => ?_; refine run_region_k rfl fun J7 hJ7 => ?_; try simp
  refine runL_call' (b := true) (by first | rfl | (simp [wantedA]; done)) rfl rfl (by first | rfl | (simp [callOf]; done)) (by simp) (ht) ?_
  rintro _ _ ⟨rfl, rfl⟩; (try simp); refine hJ7 _ _ ?_; refine hK6 _ _ ?_; refine run_block_k ?_; refine run_loop (X := Nat) (fun k ρ σ1 => k ≤ l.length ∧ ρ 5 = .v (.int .u64 (be (l.take k) : Nat)) ∧ ρ 10 = .sl 1 (bytesA l) l.length .shut ∧ ρ 11 = .v (.int .i64 l.length) ∧ ρ 12 = .v (.int .i64 k) ∧ σ1 = { σ with objs := σ.objs.set id (rd s') }) (fun k => l.length - k) (0) ?start ?round
  case start =>
    simp
  case round =>
    rintro k ρ σ1 ⟨hk, h5, h10, h11, h12, rfl⟩; refine run_seq_k fun K8 hK8 => ?_; refine run_region_k rfl fun J9 hJ9 => ?_; (try simp [h5, h10, h11, h12]); refine hJ9 _ _ ?_; refine hK8 _ _ ?_; refine run_seq_k fun K10 hK10 => ?_; refine run_cond_split rfl (fun c13 => ?_) (fun c13 => ?_)
    · try (exfalso; revert c13; simp [h5, h10, h11, h12]; done)
      all_goals
        (try simp [h5, h10, h11, h12] at c13)
        all_goals
          refine run_skip ?_; refine hK10 _ _ ?_; refine run_seq_k fun K12 hK12 => ?_; refine run_block_k ?_; refine run_seq_k fun K13 hK13 => ?_; refine run_region_k rfl fun J14 hJ14 => ?_; (try simp [h5, h10, h11, h12, c13]); refine hJ14 _ _ ?_; refine hK13 _ _ ?_; refine run_region_k rfl fun J15 hJ15 => ?_; (try simp [h5, h10, h11, h12, c13]); refine hJ15 _ _ ?_; refine hK12 _ _ ?_; refine run_region_k rfl fun J16 hJ16 => ?_; (try simp [h5, h10, h11, h12, c13]); refine hJ16 _ _ ?_
          have hs := shl_or' (be (l.take k)) l[k].toNat (be_lt7 _ (by simp; omega)) l[k].toNat_lt
          have hw : IntKind.i64.wrap ((k : Int) + 1) = ((k + 1 : Nat) : Int) := wrap_i64 _ (by omega) (by omega)
          have ht : be (l.take (k + 1)) = be (l.take k) * 256 + l[k].toNat := by rw [take_succ c13, be_snoc]
          refine ⟨k + 1, ⟨c13, ?_, ?_, ?_, ?_, rfl⟩, by omega⟩
          · simp [ht]
            refine hs.trans ?_
            omega
          all_goals simp [h10, h11, hw]
    · try (exfalso; revert c13; simp [h5, h10, h11, h12]; done)
      all_goals
        (try simp [h5, h10, h11, h12] at c13)
        all_goals
          refine run_exit ?_; refine hK5 _ _ ?_; refine run_seq_k fun K17 hK17 => ?_; refine run_region_k rfl fun J18 hJ18 => ?_; (try simp [h5, h10, h11, h12, c13]); refine hJ18 _ _ ?_; refine hK17 _ _ ?_; refine ra ?_
          have := List.take_of_length_le c13
          simp [h5, h10, h11, h12, c13, this]

end Go.Proofs.Ytlkajgjaidedkaa

/-
  A loop over a function value that yields a slice's cells, the last one first.
-/
namespace Go.Vm
set_option linter.unnecessarySimpa false
set_option linter.unusedSimpArgs false
set_option linter.unusedVariables false
open Go Go.RowKit
section
variable {P : Program} {N : Nat} {ρ : Nat → AV} {σ : St}

theorem Ext.others {G G' : Gh} {w w' : World} (h : Ext G w G' w') : KeepsOthers w w' :=
  ⟨h.size, fun k o hk ho => h.oth k o hk (fun c e fr he => by rw [he] at ho; cases ho)⟩

end
end Go.Vm
