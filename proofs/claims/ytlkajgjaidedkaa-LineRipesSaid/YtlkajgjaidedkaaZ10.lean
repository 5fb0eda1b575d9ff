import Derived.Test.YtlkajgjaidedkaaZ9
import Derived.Test.YtlkajgjaidedkaaZ8
import Derived.Test.YtlkajgjaidedkaaZ7
import Derived.RangeFuncKeeps
import Derived.RangeFuncLeaves
import Derived.Shelf.Abstract
import Derived.WalkKit
import Derived.OwnWalkIn
import Derived.TacticsInMore
import Derived.LoopNIn
import Derived.LoopIn
/-
  The codec's reader: what is read.
-/
namespace Go.Proofs.Ytlkajgjaidedkaa
set_option linter.unnecessarySimpa false
set_option maxRecDepth 100000
open Go Go.Vm
set_option linter.unusedSimpArgs false
set_option linter.unusedVariables false
attribute [local simp] evalL wantedA isCall opA evalA evalAll evalsA evalOpt ofValue ofCell plain binA_eql_pn binA_neq_pn binA_gtr binA_lss binA_geq binA_leq binA_add binA_sub binA_eql binA_neq binA_or binA_shl binA_mul binA_quo binA_rem convA_int unA_not fieldAddrA loadA partA pickA lenA builtinA storeA splice AV.cells AV.isCell sliceA boundA intA callOf indexAddrA newObjA buildA fillA zeroA ofCells

theorem long_ok {σ : St} {id : Nat} {s : Option (List UInt8)} (h : σ.objs[id]? = some (rd s)) :
    CallsA Try.prog 85 [.ptr id 0] σ (fun av σ' => av = .v (.int .u64 (be (takeB 8 s) : Nat)) ∧ σ' = { σ with objs := σ.objs.set id (rd (takeS 8 s)) }) := by
  refine callsA_body Try.func85 rfl rfl rfl ?_; refine run_seq_k fun K1 hK1 => ?_; refine run_region_k rfl fun J2 hJ2 => ?_; (try simp); refine hJ2 _ _ ?_; refine hK1 _ _ ?_; refine run_seq_k fun K3 hK3 => ?_; refine run_region_k rfl fun J4 hJ4 => ?_; try simp
  refine runL_call' (b := true) (by first | rfl | (simp [wantedA]; done)) rfl rfl (by first | rfl | (simp [callOf]; done)) (by simp) (number_ok (n := 8) h (by omega)) ?_
  rintro _ _ ⟨rfl, rfl⟩; (try simp); refine hJ4 _ _ ?_; refine hK3 _ _ ?_; refine ra ?_; simp

end Go.Proofs.Ytlkajgjaidedkaa

/-
  The codec's writer, and the constructor of a reader.
-/
namespace Go.Proofs.Ytlkajgjaidedkaa
set_option linter.unnecessarySimpa false
set_option maxRecDepth 100000
open Go Go.Vm
set_option linter.unusedSimpArgs false
set_option linter.unusedVariables false
attribute [local simp] evalL wantedA isCall opA evalA evalAll evalsA evalOpt ofValue ofCell plain binA_eql_pn binA_neq_pn binA_gtr binA_lss binA_geq binA_leq binA_add binA_sub binA_eql binA_neq binA_or binA_shl binA_shr binA_mul binA_quo binA_rem convA_int unA_not fieldAddrA loadA partA pickA lenA builtinA storeA splice AV.cells AV.isCell sliceA boundA intA callOf indexAddrA newObjA buildA fillA zeroA ofCells buildSliceA appendA roomA maxLen

theorem clone_raw {σ : St} {p : List UInt8} {tl : Tail} (hp : p.length ≤ 1000000) :
    CallsA Try.prog 77 [.sl 1 (bytesA p) p.length tl] σ (fun av σ' => (p = [] ∧ av = .sl 0 [] 0 .full ∧ σ' = σ) ∨ (av = .sl 1 (bytesA p) p.length (.own σ.toks.length) ∧ σ' = { σ with toks := σ.toks ++ [p.length] })) := by
  have h1 : p.length ≤ 140737488355328 := by omega
  have h2 : p.length ≤ 9223372036854775807 := by omega
  refine callsA_body Try.func77 rfl rfl rfl ?_; refine run_seq_k fun K1 hK1 => ?_; refine run_region_k rfl fun J2 hJ2 => ?_; (try simp [h1, h2]); refine hJ2 _ _ ?_; refine hK1 _ _ ?_; refine run_seq_k fun K3 hK3 => ?_; refine run_seq_k fun K4 hK4 => ?_; refine run_region_k rfl fun J5 hJ5 => ?_; try simp [h1, h2]
  refine runL_slnil (by first | rfl | (simp [h1, h2, wantedA]; done)) rfl rfl rfl (by first | rfl | (simp [h1, h2]; done)) (fun b4 hb4 => ?_)
  (try simp [h1, h2]); refine hJ5 _ _ ?_; refine hK4 _ _ ?_; refine run_cond_split rfl (fun c4 => ?_) (fun c4 => ?_)
  · try (exfalso; revert c4; simp [h1, h2]; done)
    all_goals
      (try simp [h1, h2] at c4)
      all_goals
        refine run_seq_k fun K7 hK7 => ?_; refine run_region_k rfl fun J8 hJ8 => ?_; (try simp [h1, h2, c4]); refine hJ8 _ _ ?_; refine hK7 _ _ ?_; refine ra ?_; exact .inl ⟨by cases p with | nil => rfl | cons x l => (simp_all), by simp, rfl⟩
  · try (exfalso; revert c4; simp [h1, h2]; done)
    all_goals
      (try simp [h1, h2] at c4)
      all_goals
        refine run_skip ?_; refine hK3 _ _ ?_; refine run_seq_k fun K9 hK9 => ?_; refine run_region_k rfl fun J10 hJ10 => ?_; (try simp [h1, h2, c4]); refine hJ10 _ _ ?_; refine hK9 _ _ ?_; refine ra ?_; exact .inr ⟨by simp, rfl⟩

theorem clone_ok {σ : St} {p : List UInt8} {tl : Tail} (hp : p.length ≤ 1000000) :
    CallsA Try.prog 77 [.sl 1 (bytesA p) p.length tl] σ (fun av σ' => av = .sl 1 (bytesA p) p.length .shut ∧ σ = σ') :=
  callsA_mono (callsA_gc_to (τ := σ) (A := .sl 1 (bytesA p) p.length .shut) (clone_raw hp) (fun av σ' h => by
    rcases h with ⟨rfl, rfl, rfl⟩ | ⟨rfl, rfl⟩
    · exact ⟨[], [], [], Wk.nil 0 1 .full, by simp⟩
    · exact ⟨[], [p.length], [], Wk.shut _ _ _ _, by simp⟩) (by simp [AV.under, under_bytes]) rfl rfl rfl rfl (fun _ _ h => .inl h) (fun _ r h => .inl ⟨r, h, rfl⟩)) (fun av σ' h => ⟨h.1, h.2.symm⟩)

theorem new_ok {σ : St} {p : List UInt8} {tl : Tail} (hp : p.length ≤ 1000000) :
    CallsA Try.prog 84 [.sl 1 (bytesA p) p.length tl] σ (fun av σ' => av = .ptr σ.objs.length 0 ∧ σ' = { σ with objs := σ.objs ++ [rd (some p)] }) := by
  refine callsA_body Try.func84 rfl rfl rfl ?_; refine run_seq_k fun K1 hK1 => ?_; refine run_region_k rfl fun J2 hJ2 => ?_; (try simp); refine hJ2 _ _ ?_; refine hK1 _ _ ?_; refine run_seq_k fun K3 hK3 => ?_; refine run_region_k rfl fun J4 hJ4 => ?_; try simp
  refine runL_call' (b := true) (by first | rfl | (simp [wantedA]; done)) rfl rfl (by first | rfl | (simp [callOf]; done)) (by simp) (clone_ok hp) ?_
  rintro _ _ ⟨rfl, rfl⟩; (try simp); refine hJ4 _ _ ?_; refine hK3 _ _ ?_; refine ra ?_; simp [rd]

def natBytes (x : Nat) : List UInt8 := if h : x = 0 then [] else natBytes (x / 256) ++ [UInt8.ofNat (x % 256)]
termination_by x
decreasing_by omega

end Go.Proofs.Ytlkajgjaidedkaa

/-
  Numbers' bytes, laid.
-/
namespace Go.Proofs.Ytlkajgjaidedkaa
set_option linter.unnecessarySimpa false
set_option maxRecDepth 100000
open Go Go.Vm
set_option linter.unusedSimpArgs false
set_option linter.unusedVariables false
attribute [local simp] evalL wantedA isCall opA evalA evalAll evalsA evalOpt ofValue ofCell plain binA_eql_pn binA_neq_pn binA_gtr binA_lss binA_geq binA_leq binA_add binA_sub binA_eql binA_neq binA_or binA_shl binA_shr binA_mul binA_quo binA_rem convA_int unA_not fieldAddrA loadA partA pickA lenA_sl builtinA storeA splice AV.cells AV.isCell sliceA boundA intA callOf indexAddrA newObjA buildA fillA zeroA ofCells buildSliceA

theorem toNat_ofNat {y : Nat} (h : y < 256) : (UInt8.ofNat y).toNat = y := by simp; omega

end Go.Proofs.Ytlkajgjaidedkaa

/-
  The codec's writer; the layer's example.
-/
namespace Go.Proofs.Ytlkajgjaidedkaa
set_option linter.unnecessarySimpa false
set_option maxRecDepth 100000
open Go Go.Vm
set_option linter.unusedSimpArgs false
set_option linter.unusedVariables false
attribute [local simp] evalL wantedA isCall opA evalA evalAll evalsA evalOpt ofValue ofCell plain binA_eql_pn binA_neq_pn binA_gtr binA_lss binA_geq binA_leq binA_add binA_sub binA_eql binA_neq binA_or binA_shl binA_shr binA_mul binA_quo binA_rem convA_int unA_not fieldAddrA loadA partA pickA lenA builtinA storeA splice AV.cells AV.isCell sliceA boundA intA callOf indexAddrA newObjA buildA fillA zeroA ofCells buildSliceA appendA roomA maxLen

theorem lay_new {σ : St} {id : Nat} {q : List UInt8} {tq : Tail} (h : σ.objs[id]? = some [.sl 0 [] 0 .full]) (hq : q.length ≤ 1000000) :
    CallsA Try.prog 123 [.ptr id 0, .sl 1 (bytesA q) q.length tq] σ (fun av σ' => av = .ptr id 0 ∧ σ' = { σ with objs := σ.objs.set id [.sl 1 (bytesA q) q.length (.own σ.toks.length)], toks := σ.toks ++ [q.length] }) := by
  have hs := set_self_of h
  have h1 : q.length ≤ 140737488355328 := by omega
  have h2 : q.length ≤ 9223372036854775807 := by omega
  have hv : (Value.int IntKind.u8 0).cells.size = 1 := rfl
  refine callsA_body Try.func123 rfl rfl rfl ?_; refine run_seq_k fun K1 hK1 => ?_; refine run_region_k rfl fun J2 hJ2 => ?_; (try simp [h, hs, h1, h2, hv]); refine hJ2 _ _ ?_; refine hK1 _ _ ?_; refine run_seq_k fun K3 hK3 => ?_; refine run_seq_k fun K4 hK4 => ?_; refine run_region_k rfl fun J5 hJ5 => ?_; (try simp [h, hs, h1, h2, hv]); refine hJ5 _ _ ?_; refine hK4 _ _ ?_
  refine run_cond_true (by first | rfl | (simp [h, hs, h1, h2, hv, evalA]; done)) ?_
  refine run_region_k rfl fun J6 hJ6 => ?_; (try simp [h, hs, h1, h2, hv]); refine hJ6 _ _ ?_; refine hK3 _ _ ?_; refine run_seq_k fun K7 hK7 => ?_; refine run_region_k rfl fun J8 hJ8 => ?_; (try simp [h, hs, h1, h2, hv]); refine hJ8 _ _ ?_; refine hK7 _ _ ?_; refine ra ?_; simp [h, hs, h1, h2, hv]

theorem lay_more {σ : St} {id k : Nat} {l q : List UInt8} {tq : Tail} (h : σ.objs[id]? = some [.sl 1 (bytesA l) l.length (.own k)]) (hk : σ.toks[k]? = some l.length) (hl : l.length ≤ 1000000) (hq : q.length ≤ 1000000) :
    CallsA Try.prog 123 [.ptr id 0, .sl 1 (bytesA q) q.length tq] σ (fun av σ' => av = .ptr id 0 ∧ σ' = { σ with objs := σ.objs.set id [.sl 1 (bytesA (l ++ q)) (l ++ q).length (.own k)], toks := σ.toks.set k (l ++ q).length }) := by
  have hs := set_self_of h
  have h1 : l.length + q.length ≤ 140737488355328 := by omega
  have h2 : l.length + q.length ≤ 9223372036854775807 := by omega
  have hv : (Value.int IntKind.u8 0).cells.size = 1 := rfl
  refine callsA_body Try.func123 rfl rfl rfl ?_; refine run_seq_k fun K1 hK1 => ?_; refine run_region_k rfl fun J2 hJ2 => ?_; (try simp [h, hs, h1, h2, hv, hk, bytesA_append]); refine hJ2 _ _ ?_; refine hK1 _ _ ?_; refine run_seq_k fun K3 hK3 => ?_; refine run_seq_k fun K4 hK4 => ?_; refine run_region_k rfl fun J5 hJ5 => ?_; (try simp [h, hs, h1, h2, hv, hk, bytesA_append]); refine hJ5 _ _ ?_; refine hK4 _ _ ?_
  refine run_cond_true (by first | rfl | (simp [h, hs, h1, h2, hv, hk, bytesA_append, evalA]; done)) ?_
  refine run_region_k rfl fun J6 hJ6 => ?_; (try simp [h, hs, h1, h2, hv, hk, bytesA_append]); refine hJ6 _ _ ?_; refine hK3 _ _ ?_; refine run_seq_k fun K7 hK7 => ?_; refine run_region_k rfl fun J8 hJ8 => ?_; (try simp [h, hs, h1, h2, hv, hk, bytesA_append]); refine hJ8 _ _ ?_; refine hK7 _ _ ?_; refine ra ?_; simp [h, hs, h1, h2, hv, hk, bytesA_append]

theorem same_ok {σ : St} {p q : List UInt8} {t1 t2 : Tail} (hp : p.length ≤ 1000000) :
    CallsA Try.prog 26 [.sl 1 (bytesA p) p.length t1, .sl 1 (bytesA q) q.length t2] σ (fun av σ' => av = .v (.bool (p == q)) ∧ σ = σ') := by
  by_cases hl : p.length = q.length
  · have hi : ((p.length : Int) != q.length) = false := by simp; omega
    refine callsA_body Try.func26 rfl rfl rfl ?_; refine run_seq_k fun K1 hK1 => ?_; refine run_region_k rfl fun J2 hJ2 => ?_; (try simp); refine hJ2 _ _ ?_; refine hK1 _ _ ?_; refine run_seq_k fun K3 hK3 => ?_; refine run_seq_k fun K4 hK4 => ?_; refine run_region_k rfl fun J5 hJ5 => ?_; (try simp); refine hJ5 _ _ ?_; refine hK4 _ _ ?_
    refine run_cond_false (by first | rfl | (simp [evalA, hl]; done)) ?_
    refine run_skip ?_; refine hK3 _ _ ?_; refine run_seq_k fun K6 hK6 => ?_; refine run_seq_k fun K7 hK7 => ?_; refine run_region_k rfl fun J8 hJ8 => ?_; (try simp); refine hJ8 _ _ ?_; refine hK7 _ _ ?_; refine run_block_k ?_; refine run_loop (X := Nat) (fun k ρ σ1 => k ≤ p.length ∧ p.take k = q.take k ∧ ρ 0 = .sl 1 (bytesA p) p.length t1 ∧ ρ 1 = .sl 1 (bytesA q) q.length t2 ∧ ρ 5 = .v (.int .i64 k) ∧ σ1 = σ) (fun k => p.length - k) (0) ?start ?round
    case start =>
      simp
    case round =>
      rintro k ρ σ1 ⟨hk, ht, h0, h1, h5, rfl⟩; refine run_seq_k fun K9 hK9 => ?_; refine run_seq_k fun K10 hK10 => ?_; refine run_region_k rfl fun J11 hJ11 => ?_; (try simp [h0, h1, h5]); refine hJ11 _ _ ?_; refine hK10 _ _ ?_; refine run_cond_split rfl (fun c14 => ?_) (fun c14 => ?_)
      · try (exfalso; revert c14; simp [h0, h1, h5]; done)
        all_goals
          (try simp [h0, h1, h5] at c14)
          all_goals
            refine run_skip ?_; refine hK9 _ _ ?_; refine run_seq_k fun K13 hK13 => ?_; refine run_block_k ?_; refine run_seq_k fun K14 hK14 => ?_
            have hq : k < q.length := by omega
            have hqi : (k : Int) < q.length := by omega
            have hwk : IntKind.i64.wrap ((k : Int) + 1) = (k : Int) + 1 := wrap_i64 _ (by omega) (by omega)
            refine run_draw (by kernel_rfl) fun J15 hJ15 => ?_
            refine runD_pure' 0 (by kernel_rfl) rfl rfl (by kernel_rfl) (by kernel_rfl) (by kernel_rfl) (by kernel_rfl) ?_
            try simp [h0, h1, h5, c14, hq, hqi, hwk]
            refine runD_pure' 1 (by kernel_rfl) rfl rfl (by kernel_rfl) (by kernel_rfl) (by kernel_rfl) (by kernel_rfl) ?_
            try simp [h0, h1, h5, c14, hq, hqi, hwk]
            refine runD_pure' 2 (by kernel_rfl) rfl rfl (by kernel_rfl) (by kernel_rfl) (by kernel_rfl) (by kernel_rfl) ?_
            try simp [h0, h1, h5, c14, hq, hqi, hwk]
            refine runD_pure' 3 (by kernel_rfl) rfl rfl (by kernel_rfl) (by kernel_rfl) (by kernel_rfl) (by kernel_rfl) ?_
            try simp [h0, h1, h5, c14, hq, hqi, hwk]
            refine runD_pure' 4 (by kernel_rfl) rfl rfl (by kernel_rfl) (by kernel_rfl) (by kernel_rfl) (by kernel_rfl) ?_
            try simp [h0, h1, h5, c14, hq, hqi, hwk]
            refine runD_pure' 5 (by kernel_rfl) rfl rfl (by kernel_rfl) (by kernel_rfl) (by kernel_rfl) (by kernel_rfl) ?_
            try simp [h0, h1, h5, c14, hq, hqi, hwk]
            refine runD_pure' 6 (by kernel_rfl) rfl rfl (by kernel_rfl) (by kernel_rfl) (by kernel_rfl) (by kernel_rfl) ?_
            try simp [h0, h1, h5, c14, hq, hqi, hwk]
            refine runD_pure' 7 (by kernel_rfl) rfl rfl (by kernel_rfl) (by kernel_rfl) (by kernel_rfl) (by kernel_rfl) ?_
            try simp [h0, h1, h5, c14, hq, hqi, hwk]
            refine runD_pure' 8 (by kernel_rfl) rfl rfl (by kernel_rfl) (by kernel_rfl) (by kernel_rfl) (by kernel_rfl) ?_
            try simp [h0, h1, h5, c14, hq, hqi, hwk]
            refine runD_done (by kernel_rfl) (by kernel_rfl) (by kernel_rfl) ?_
            refine hJ15 _ _ ?_; refine hK14 _ _ ?_; refine run_cond_split rfl (fun c25 => ?_) (fun c25 => ?_)
            · try (exfalso; revert c25; simp [h0, h1, h5, c14, hq, hqi, hwk]; done)
              all_goals
                (try simp [h0, h1, h5, c14, hq, hqi, hwk] at c25)
                all_goals
                  refine run_seq_k fun K17 hK17 => ?_; refine run_region_k rfl fun J18 hJ18 => ?_; (try simp [h0, h1, h5, c14, hq, hqi, hwk, c25]); refine hJ18 _ _ ?_; refine hK17 _ _ ?_; refine ra ?_
                  have hne : (p == q) = false := by simp; intro e; subst e; exact c25 rfl
                  simp [hne]
            · try (exfalso; revert c25; simp [h0, h1, h5, c14, hq, hqi, hwk]; done)
              all_goals
                (try simp [h0, h1, h5, c14, hq, hqi, hwk] at c25)
                all_goals
                  refine run_skip ?_; refine hK13 _ _ ?_; refine run_region_k rfl fun J19 hJ19 => ?_; (try simp [h0, h1, h5, c14, hq, hqi, hwk, c25]); refine hJ19 _ _ ?_
                  refine ⟨k + 1, ⟨by omega, ?_, by simp [h0], by simp [h1], by simp, rfl⟩, by omega⟩
                  have e : p[k] = q[k] := UInt8.toNat_inj.1 (by omega)
                  rw [take_succ (by omega), take_succ hq, ht, e]
      · try (exfalso; revert c14; simp [h0, h1, h5]; done)
        all_goals
          (try simp [h0, h1, h5] at c14)
          all_goals
            refine run_exit ?_; refine hK6 _ _ ?_; refine run_seq_k fun K20 hK20 => ?_; refine run_region_k rfl fun J21 hJ21 => ?_; (try simp [h0, h1, h5, c14]); refine hJ21 _ _ ?_; refine hK20 _ _ ?_; refine ra ?_
            have he : p = q := by rw [← List.take_of_length_le (l := p) (i := k) (by omega), ← List.take_of_length_le (l := q) (i := k) (by omega), ht]
            simp [he]
  · have hi : ((p.length : Int) != q.length) = true := by simp; omega
    have hne : (p == q) = false := by simp; intro e; exact hl (by rw [e])
    have hl' : ¬ (p.length : Int) = q.length := by omega
    refine callsA_body Try.func26 rfl rfl rfl ?_; refine run_seq_k fun K1 hK1 => ?_; refine run_region_k rfl fun J2 hJ2 => ?_; (try simp); refine hJ2 _ _ ?_; refine hK1 _ _ ?_; refine run_seq_k fun K3 hK3 => ?_; refine run_seq_k fun K4 hK4 => ?_; refine run_region_k rfl fun J5 hJ5 => ?_; (try simp); refine hJ5 _ _ ?_; refine hK4 _ _ ?_
    refine run_cond_true (by first | rfl | (simp [evalA]; omega; done)) ?_
    refine run_seq_k fun K6 hK6 => ?_; refine run_region_k rfl fun J7 hJ7 => ?_; (try simp); refine hJ7 _ _ ?_; refine hK6 _ _ ?_; refine ra ?_; simp [hne]

theorem done_ok {σ : St} {id : Nat} {p : List UInt8} {tl : Tail} (h : σ.objs[id]? = some [.sl 1 (bytesA p) p.length tl]) (hp : p.length ≤ 1000000) :
    CallsA Try.prog 87 [.ptr id 0] σ (fun av σ' => av = .sl 1 (bytesA p) p.length .shut ∧ σ = σ') := by
  refine callsA_body Try.func87 rfl rfl rfl ?_; refine run_seq_k fun K1 hK1 => ?_; refine run_region_k rfl fun J2 hJ2 => ?_; (try simp [h]); refine hJ2 _ _ ?_; refine hK1 _ _ ?_; refine run_seq_k fun K3 hK3 => ?_; refine run_seq_k fun K4 hK4 => ?_; refine run_region_k rfl fun J5 hJ5 => ?_; (try simp [h]); refine hJ5 _ _ ?_; refine hK4 _ _ ?_
  refine run_cond_false (by first | rfl | (simp [h, evalA]; done)) ?_
  refine run_skip ?_; refine hK3 _ _ ?_; refine run_seq_k fun K6 hK6 => ?_; refine run_region_k rfl fun J7 hJ7 => ?_; try simp [h]
  refine runL_call' (b := true) (by first | rfl | (simp [h, wantedA]; done)) rfl rfl (by first | rfl | (simp [h, callOf]; done)) (by simp) (clone_ok hp) ?_
  rintro _ _ ⟨rfl, rfl⟩; (try simp [h]); refine hJ7 _ _ ?_; refine hK6 _ _ ?_; refine ra ?_; simp [h]

end Go.Proofs.Ytlkajgjaidedkaa

/-
  Digits: lists of numbers below a base, the lowest first, and the numbers that they are.
-/
namespace Go.Vm
set_option linter.unnecessarySimpa false
set_option linter.unusedSimpArgs false
set_option linter.unusedVariables false
open Go

theorem set_appN {α : Type} (l r : List α) (n : Nat) (x : α) : (l ++ r).set (l.length + n) x = l ++ r.set n x := by
  rw [List.set_append_right _ _ (by omega), Nat.add_sub_cancel_left]
theorem get_appN {α : Type} (l r : List α) (n : Nat) : (l ++ r)[l.length + n]? = r[n]? := by
  rw [List.getElem?_append_right (by omega), Nat.add_sub_cancel_left]

def orI (k : IntKind) (a b : Int) : Int := k.wrap (BitVec.ofInt k.bits a ||| BitVec.ofInt k.bits b).toNat
theorem binA_orI {P : Program} {t : TypeId} {xo yo : Operand} {k : IntKind} {a b : Int} : binA P .or t xo yo (.v (.int k a)) (.v (.int k b)) = some (.v (.int k (orI k a b))) := binA_or t xo yo k a b
theorem take_appN {α : Type} (l r : List α) (n : Nat) : (l ++ r).take (l.length + n) = l ++ r.take n := by
  rw [List.take_append, List.take_of_length_le (by omega), Nat.add_sub_cancel_left]

def valD (b : Nat) : List Nat → Nat
  | [] => 0
  | d :: l => d + b * valD b l

@[simp] theorem valD_nil (b : Nat) : valD b [] = 0 := rfl

def digs (b n x : Nat) : List Nat := (List.range n).map fun i => x / b ^ i % b

@[simp] theorem digs_len (b n x : Nat) : (digs b n x).length = n := by simp [digs]
def u64s (l : List Nat) : List AV := l.map fun (n : Nat) => .v (.int .u64 (n : Int))
@[simp] theorem u64s_length (l : List Nat) : (u64s l).length = l.length := by simp [u64s]
def Num.of (x : Nat) : Num := ⟨x % 2 ^ 256, Nat.mod_lt _ (by decide)⟩
@[simp] theorem Num.of_v {x : Nat} (h : x < 2 ^ 256) : (Num.of x).v = x := Nat.mod_eq_of_lt h
theorem toNat_u8 {d : Nat} (h : d < 256) : (UInt8.ofNat d).toNat = d := by simp; omega

def posB (d : Nat) : Bool := decide (0 < d)
@[simp] theorem posB_zero : posB 0 = false := rfl
@[simp] theorem posB_succ (d : Nat) : posB (d + 1) = true := by simp [posB]
def grA (k sz : Nat) (b : Bool) (cs : List AV) (n : Nat) : AV := bif b then .sl sz cs n (.own k) else .sl 0 [] 0 .full
def grT (b : Bool) (n : Nat) : List Nat := bif b then [n] else []
@[simp] theorem grA_no (k sz : Nat) (cs : List AV) (n : Nat) : grA k sz false cs n = .sl 0 [] 0 .full := rfl
@[simp] theorem grA_yes (k sz : Nat) (cs : List AV) (n : Nat) : grA k sz true cs n = .sl sz cs n (.own k) := rfl
@[simp] theorem grT_no (n : Nat) : grT false n = [] := rfl
@[simp] theorem grT_yes (n : Nat) : grT true n = [n] := rfl
def purF (f : Nat → Nat) : List Nat := (List.range 8).map f
@[simp] theorem purF_len (f : Nat → Nat) : (purF f).length = 8 := by simp [purF]
def neB : List Coin → Bool
  | [] => false
  | _ :: _ => true
@[simp] theorem neB_nil : neB [] = false := rfl
@[simp] theorem neB_snoc (l : List Coin) (c : Coin) : neB (l ++ [c]) = true := by cases l <;> rfl
theorem nilrow_sound {G : Gh} {w : World} {σ : St} (hS : RelS G w σ) : ∃ G', Ext G w G' w ∧ RelS G' w { σ with rows := σ.rows ++ [⟨0, [], none⟩] } ∧ G'.rw σ.rows.length = some (0, 0, 0, 0) := by
  let G' : Gh := { G with rw := fun i' => if i' = σ.rows.length then some (0, 0, 0, 0) else G.rw i' }
  have hE : Ext G w G' w := by
    refine ⟨rfl, rfl, rfl, rfl, Nat.le_refl _, fun _ c _ _ h => ⟨c, h, rfl, fun _ _ => rfl⟩, fun _ _ h _ => h, fun _ _ h => h, fun _ _ _ h => h, fun _ _ h => h, fun _ m r h => ⟨m, r, h, Nat.le_refl _, fun _ => rfl⟩, fun q m r hq => ⟨m, r, ?_, Nat.le_refl _, fun _ => rfl⟩⟩
    show (if q = _ then _ else _) = _
    rw [if_neg (fun e => by subst e; exact rw_fresh hS _ hq)]; exact hq
  refine ⟨G', hE, ⟨?_, hS.inj, hS.tok, hS.fresh, fun g cs2 hg => (hS.gl g cs2 hg).mono hE, hS.tot, hS.totk, ?_, ?_⟩, if_pos rfl⟩
  · intro id b hp
    obtain ⟨c2, e2, cs2, h1, h2, h3, h4, h5⟩ := hS.obj id b hp
    exact ⟨c2, e2, cs2, h1, h2, h3, h4, fun j x a hx ha => (h5 j x a hx ha).mono hE⟩
  · intro q gc b o C hq
    have hq' : (if q = σ.rows.length then some (0, 0, 0, 0) else G.rw q) = some (gc, b, o, C) := hq
    by_cases hql : q = σ.rows.length
    · subst hql
      rw [if_pos rfl] at hq'
      cases hq'
      exact ⟨⟨0, [], none⟩, by simp, rfl, by simp, ⟨fun s e => (by cases e), fun h => (by omega)⟩⟩
    · rw [if_neg hql] at hq'
      obtain ⟨r, h1, h2, h3, h4, h5⟩ := hS.row q gc b o C hq'
      refine ⟨r, by show (σ.rows ++ _)[q]? = _; rw [List.getElem?_append_left (List.getElem?_eq_some_iff.1 h1).1]; exact h1, h2, h3, h4, fun hC => ?_⟩
      obtain ⟨c2, e2, g1, g2, g3, g4, g5⟩ := h5 hC
      exact ⟨c2, e2, g1, g2, g3, g4, fun j x a hx ha => (g5 j x a hx ha).mono hE⟩
  · intro q hq
    show ∃ p, (if q = σ.rows.length then some (0, 0, 0, 0) else G.rw q) = some p
    by_cases hql : q = σ.rows.length
    · rw [if_pos hql]; exact ⟨_, rfl⟩
    · rw [if_neg hql]; exact hS.totr q (by simp at hq; omega)

section
variable {z : Zone} {P : Program} {N : Nat} {ρ : Nat → AV} {σ : St}

theorem Rel.turn {G : Gh} {w : World} {a : Act} (hR : Rel N G w ρ σ a) {G' : Gh} {σ' : St} {ρ' : Nat → AV} (hE : Ext G w G' w) (hS : RelS G' w σ') (he : ∀ i, AVR G' w (a.tmps.getD i undef) (ρ' i)) : Rel N G' w ρ' σ' a :=
  ⟨hS, ⟨hR.defers.1.mono hE, hR.defers.2.1, by rw [hE.base]; exact hR.defers.2.2⟩, hR.size, he⟩

theorem nilrow_rel {G : Gh} {w : World} {a : Act} (hR : Rel N G w ρ σ a) (d sz : Nat) {s : Nat} (h : ρ d = .sl s [] 0 .full) :
    ∃ G', Ext G w G' w ∧ Rel N G' w (putA ρ (some d) (.row σ.rows.length 0 0 sz 0)) { σ with rows := σ.rows ++ [⟨0, [], none⟩] } a := by
  obtain ⟨G', hE, hS, hrw⟩ := nilrow_sound hR.s
  refine ⟨G', hE, hR.turn hE hS (fun i => ?_)⟩
  by_cases hi : i = d
  · subst hi
    have hx := hR.env i
    rw [h] at hx
    obtain ⟨ad, c, e1, e2⟩ := sl_empty_full hx
    subst e2
    rw [e1]
    show AVR G' w _ (if i = i then _ else _)
    rw [if_pos rfl]
    exact .row hrw (Nat.le_refl _) (Nat.le_refl _) (fun h => (h rfl).elim) (fun _ => ⟨by simp, fun h => (h rfl).elim⟩)
  · show AVR G' w _ (if i = d then _ else _)
    rw [if_neg hi]
    exact (hR.env i).mono hE

theorem run_nilrow {c : Code} {Q : Exit → (Nat → AV) → St → Prop} (d sz : Nat) {s : Nat} (h : ρ d = .sl s [] 0 .full := by first | rfl | (simp [F]; done))
    (k : Run z P N c (putA ρ (some d) (.row σ.rows.length 0 0 sz 0)) { σ with rows := σ.rows ++ [⟨0, [], none⟩] } Q) : Run z P N c ρ σ Q := fun G w a R hR hK => by
  obtain ⟨G', hE, hR'⟩ := nilrow_rel hR d sz h
  exact k G' w a R hR' (fun e ρ' σ' G2 a' w' hq hE2 hR2 => hK e ρ' σ' G2 a' w' hq (hE.trans hE2) hR2)
end
end Go.Vm

/-
  A list that is built of parts, and that is a row from then on.
-/
namespace Go.Vm
set_option linter.unnecessarySimpa false
set_option linter.unusedSimpArgs false
set_option linter.unusedVariables false
open Go
section
variable {P : Program} {G : Gh} {w : World} {σ : St}

theorem buildSlice_run {t : TypeId} {len sz n : Nat} {cs : List AV} {tl : Tail} {vs : List (Nat × Value)} {ps : List (Nat × AV)} (hv : Fa2 (fun (p : Nat × Value) (q : Nat × AV) => p.1 = q.1 ∧ AVR G w p.2 q.2) vs ps) (h : buildSliceA P t len ps = some (.sl sz cs n tl)) :
    ∃ c e, (Instr.buildSlice t len vs.toArray).run P w = .ok (.slice (some ⟨w.heap.size, 0, none⟩) n n) (w.alloc (.cells c e)) ∧ elemT P t = some e ∧ c.size = cs.length ∧ cs.length = n * sz ∧ (∀ (q : Nat) x, c[q]? = some x → x.oneCell' = true) ∧ (∀ (q : Nat) x b, c[q]? = some x → cs[q]? = some b → AVR G w x b) := by
  unfold buildSliceA at h
  split at h
  case h_2 => cases h
  rename_i e he
  split at h
  case h_2 => cases h
  rename_i i z hi hz
  split at h
  case isFalse => cases h
  rename_i hcond
  obtain ⟨hpos, hzl, hlim⟩ := hcond
  split at h
  case h_2 => cases h
  rename_i cs hf
  split at h
  case isFalse => cases h
  rename_i hall
  cases h
  obtain ⟨zv, hzr, hzv⟩ := zeroA_sound (G := G) (w := w) hz
  obtain ⟨d, j, hd, hj, hzj, hag, hsz, hby⟩ := ti_some hi
  obtain ⟨hce, hcr⟩ := hzv.cells_eq
  have ht := elemT_some he
  have hlim' : ¬ (len * j.size > 2 ^ 24) := by rw [← hsz]; omega
  let z0 : Array Value := if len * j.size = 0 then #[] else zv.cells
  let cur : Array Value := (Array.range (len * j.size)).map (fun x => z0[x % z0.size]!)
  have hcur : cur.size = len * j.size := by simp [cur]
  have hcr2 : ∀ (k : Nat) x b, cur[k]? = some x → ((List.range (len * i.size)).map fun k => z.cells.getD (k % i.size) undefA)[k]? = some b → AVR G w x b := by
    intro k x b hx hb
    have hk : k < len * j.size := by have := (Array.getElem?_eq_some_iff.1 hx).1; omega
    have hk' : k < len * i.size := by rw [hsz]; exact hk
    have hne : ¬ (len * j.size = 0) := by omega
    have hz0e : z0 = zv.cells := by simp [z0, hne]
    have hmod : k % zv.cells.size < zv.cells.size := Nat.mod_lt _ (by rw [hce, hzl]; exact hpos)
    simp [cur, hk, hz0e] at hx
    simp [hk'] at hb
    subst hx
    have hcs : zv.cells.size = i.size := by rw [hce, hzl]
    rw [getElem!_pos zv.cells (k % zv.cells.size) hmod]
    refine hcr (k % zv.cells.size) _ _ (Array.getElem?_eq_getElem hmod) ?_
    rw [hcs]
    have := getD_mod z.cells k i.size hzl hpos
    rw [this, ← hb]
    simp [List.getD]
  obtain ⟨c, hc, hcl, hcr3⟩ := fill_sound (fun i' => some (i' * j.size, j.size)) _ (fun q x h => by
    simp only [List.getElem?_map] at h
    by_cases hq : q < len
    · simp [hq] at h; rw [← h, hsz]
    · simp [hq] at h) vs ps cur _ cs hv (by simp [hcur, hsz]) hcr2 hf
  have hcsz : c.size = len * i.size := by
    have : ∀ (zs : List (Nat × AV)) (x y : List AV), fillA ((List.range len).map fun k => (k * i.size, i.size)) x zs = some y → y.length = x.length := by
      intro zs
      induction zs with
      | nil => intro x y h; simp [fillA] at h; rw [h]
      | cons p zs ih =>
        intro x y h
        unfold fillA at h
        split at h
        · split at h
          · rename_i hc
            rw [ih _ _ h, splice_length _ _ _ (by rw [hc.1]; exact hc.2)]
          · cases h
        · cases h
    have := this ps _ _ hf
    simp at this
    omega
  have hrun : (Instr.buildSlice t len vs.toArray).run P w = .ok (.slice (some ⟨w.heap.size, 0, none⟩) len len) (w.alloc (.cells c e)) := by
    unfold Instr.buildSlice
    simp only [Sem.run_bind, run_underlying ht, Result.andThen_ok, run_sizeOf w hj, if_neg hlim']
    by_cases h0 : len * j.size = 0
    · have hz0e : z0 = #[] := by simp [z0, h0]
      have hc' := hc
      simp only [cur, hz0e] at hc'
      rw [if_pos h0]
      simp only [Sem.run_bind, Sem.run_pure, Result.andThen_ok]
      rw [hc']
      simp [newRow]
    · have hz0e : z0 = zv.cells := by simp [z0, h0]
      have hc' := hc
      simp only [cur, hz0e] at hc'
      rw [if_neg h0]
      simp only [Sem.run_bind, Sem.run_pure, Result.andThen_ok, hzr]
      rw [hc']
      simp [newRow]
  have hone : ∀ (q : Nat) x, c[q]? = some x → x.oneCell' = true := fun q x hq => by
    have hlt : q < cs.length := by have := (Array.getElem?_eq_some_iff.1 hq).1; omega
    exact (hcr3 q x _ hq (List.getElem?_eq_getElem hlt)).oneCell (List.all_eq_true.1 hall _ (List.getElem_mem hlt))
  exact ⟨c, e, hrun, he, by omega, by omega, hone, hcr3⟩

theorem buildRow_sound (hS : RelS G w σ) {t : TypeId} {len sz n : Nat} {cs : List AV} {tl : Tail} {vs : List (Nat × Value)} {ps : List (Nat × AV)} (hv : Fa2 (fun (p : Nat × Value) (q : Nat × AV) => p.1 = q.1 ∧ AVR G w p.2 q.2) vs ps) (h : buildSliceA P t len ps = some (.sl sz cs n tl)) :
    ∃ y w' G', (Instr.buildSlice t len vs.toArray).run P w = .ok y w' ∧ Ext G w G' w' ∧ RelS G' w' { σ with rows := σ.rows ++ [⟨0, cs, none⟩] } ∧ AVR G' w' y (.row σ.rows.length 0 0 sz n) := by
  obtain ⟨c, e, hrun, _, hl, hn, hone, hcr3⟩ := buildSlice_run (P := P) hv h
  obtain ⟨G', f1, f2, f3⟩ := row_push hS e c cs none (by omega) (fun s e => by cases e) hone hcr3
  exact ⟨_, _, G', hrun, f1, f2, .row f3 (Nat.le_refl _) (Nat.le_refl _) (fun _ => ⟨_, _, rfl⟩) (fun _ => ⟨by omega, fun _ => rfl⟩)⟩
end

section
variable {z : Zone} {P : Program} {N : Nat} {ρ : Nat → AV} {σ : St}

end

section
variable {z : Zone} {P : Program} {N : Nat} {ρ : Nat → AV} {σ : St} {Q : Exit → (Nat → AV) → St → Prop} {ops : Array Oper} {rest : List Oper} {o : Oper} {K : (Nat → AV) → St → Prop}

end

end Go.Vm
