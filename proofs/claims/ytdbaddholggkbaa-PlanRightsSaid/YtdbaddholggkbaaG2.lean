import Derived.Test.YtdbaddholggkbaaVmU
import Derived.Test.YtdbaddholggkbaaG1
/-
  Numbers: products.
-/
namespace Go.Proofs.Ytdbaddholggkbaa
set_option linter.unnecessarySimpa false
set_option maxRecDepth 100000
open Go Go.Vm
set_option linter.unusedSimpArgs false
set_option linter.unusedVariables false

attribute [local simp] evalL wantedA isCall opA evalA evalAll evalsA evalOpt ofValue ofCell plain binA_eql_pn binA_neq_pn binA_gtr binA_lss binA_geq binA_leq binA_add binA_sub binA_eql binA_neq binA_or binA_and binA_shl binA_shr binA_mul binA_quo binA_rem binA_agg_eql binA_agg_neq convA_int unA_not fieldAddrA loadA partA pickA_true pickA_false pickA_bb lenA builtinA storeA splice AV.cells AV.isCell sliceA boundA intA callOf indexAddrA newObjA buildA fillA zeroA ofCells buildSliceA indexA fieldA numA_len4 numA_take4 numA_drop4 List.getElem?_cons_zero List.getElem?_cons_succ

set_option maxHeartbeats 1600000 in
attribute [local simp] undefA List.getElem?_cons_zero List.getElem?_cons_succ in
theorem mul64_ok {σ : St} {x y : Nat} (hx : x < 2 ^ 64) (hy : y < 2 ^ 64) :
    CallsA Try.prog 138 [.v (.int .u64 x), .v (.int .u64 y)] σ (fun av σ' => (∃ h l : Nat, h = x * y / 2 ^ 64 ∧ l = x * y % 2 ^ 64 ∧ av = .tup [.v (.int .u64 h), .v (.int .u64 l)]) ∧ σ = σ') := by
  have F := True.intro
  refine callsA_body Try.func138 rfl rfl rfl ?_
  refine sq fun K1 hK1 => ?_
  refine rg' (h := fun J2 hJ2 => ?_)
  refine hJ2 _ _ ?_
  refine hK1 _ _ ?_
  refine sq fun K3 hK3 => ?_
  refine rg' (h := fun J4 hJ4 => ?_)
  refine hJ4 _ _ ?_
  refine hK3 _ _ ?_
  refine sq fun K5 hK5 => ?_
  refine rg' (h := fun J6 hJ6 => ?_)
  refine hJ6 _ _ ?_
  refine hK5 _ _ ?_
  refine sq fun K7 hK7 => ?_
  refine rg' (h := fun J8 hJ8 => ?_)
  refine hJ8 _ _ ?_
  refine hK7 _ _ ?_
  refine sq fun K9 hK9 => ?_
  refine rg' (h := fun J10 hJ10 => ?_)
  refine hJ10 _ _ ?_
  refine hK9 _ _ ?_
  refine sq fun K11 hK11 => ?_
  refine rg' (h := fun J12 hJ12 => ?_)
  refine hJ12 _ _ ?_
  refine hK11 _ _ ?_
  refine sq fun K13 hK13 => ?_
  refine rg' (h := fun J14 hJ14 => ?_)
  refine hJ14 _ _ ?_
  refine hK13 _ _ ?_
  refine sq fun K15 hK15 => ?_
  refine rg' (h := fun J16 hJ16 => ?_)
  refine hJ16 _ _ ?_
  refine hK15 _ _ ?_
  refine sq fun K17 hK17 => ?_
  refine rg' (h := fun J18 hJ18 => ?_)
  refine hJ18 _ _ ?_
  refine hK17 _ _ ?_
  refine sq fun K19 hK19 => ?_
  refine rg' (h := fun J20 hJ20 => ?_)
  refine hJ20 _ _ ?_
  refine hK19 _ _ ?_
  refine sq fun K21 hK21 => ?_
  refine rg' (h := fun J22 hJ22 => ?_)
  refine hJ22 _ _ ?_
  refine hK21 _ _ ?_
  refine sq fun K23 hK23 => ?_
  refine rg' (h := fun J24 hJ24 => ?_)
  refine hJ24 _ _ ?_
  refine hK23 _ _ ?_
  refine run_ret ?_
  try simp only [Then, InBlock, NoGoto]
  refine answer_tmp2 rfl (.inr rfl) ?_
  refine ⟨⟨x * y / 2 ^ 64, x * y % 2 ^ 64, rfl, rfl, ?_⟩, rfl⟩
  simp only [putA_get]
  simp
  exact ⟨mul64_hi hx hy, wrapM x y⟩

set_option maxHeartbeats 1600000 in
attribute [local simp] undefA List.getElem?_cons_zero List.getElem?_cons_succ prodA_len prodA_take fitsK in
theorem low_ok {σ : St} {n : Nat} (hn : n < 2 ^ 512) :
    CallsA Try.prog 117 [.agg (prodA n)] σ (fun av σ' => av = .tup [.agg (numA (if n < 2 ^ 256 then n else 0)), .v (.int .i64 (if n < 2 ^ 256 then 0 else 2 : Nat))] ∧ σ = σ') := by
  refine callsA_gcS ?_ (by simp [AV.under, underL, numA])
  have hcq : cellsEqA (numA (n / 2 ^ 256)) [.v (.int .u64 0), .v (.int .u64 0), .v (.int .u64 0), .v (.int .u64 0)] = decide (n / 2 ^ 256 = 0) := cellsEq_num0 (x := ⟨n / 2 ^ 256, by omega⟩)
  have hdt : ((prodA n).drop 4).take 4 = numA (n / 2 ^ 256) := by rw [prodA_drop]; rfl
  have hfn : ∀ x, fitsK [some .u64, some .u64, some .u64, some .u64] (numA x) = true := fun x => rfl
  have F := And.intro hcq (And.intro hdt (And.intro hfn (True.intro)))
  refine callsA_body Try.func117 rfl rfl rfl ?_
  refine sq fun K1 hK1 => ?_
  refine rg' (h := fun J2 hJ2 => ?_)
  refine hJ2 _ _ ?_
  refine hK1 _ _ ?_
  refine sq fun K3 hK3 => ?_
  refine sq fun K4 hK4 => ?_
  refine rg' (h := fun J5 hJ5 => ?_)
  refine hJ5 _ _ ?_
  refine hK4 _ _ ?_
  refine cs (fun c8 => ?_) (fun c8 => ?_)
  · try exact nope c8
    all_goals have c8p := c8
    all_goals try simp [F] at c8p
    all_goals
     replace F := And.intro c8 F
     try replace F := And.intro c8p F
     have hbig : ¬ n < 2 ^ 256 := by first | (simp at c8p; omega) | omega
     replace F := And.intro hbig (And.intro (if_neg hbig : (if n < 2 ^ 256 then n else 0) = 0) (And.intro numA_zero4 F))
     refine sq fun K6 hK6 => ?_
     refine rg' (h := fun J7 hJ7 => ?_)
     refine hJ7 _ _ ?_
     refine hK6 _ _ ?_
     refine run_ret ?_
     try simp only [Then, InBlock, NoGoto]
     refine acell2 (h := ?_)
     exact gcr
  try exact nope c8
  all_goals have c8p := c8
  all_goals try simp [F] at c8p
  all_goals
   replace F := And.intro c8 F
   try replace F := And.intro c8p F
   have hbig : n < 2 ^ 256 := by first | (simp at c8p; omega) | omega
   replace F := And.intro hbig F
   refine run_skip ?_
   refine hK3 _ _ ?_
   refine sq fun K8 hK8 => ?_
   refine rg' (h := fun J9 hJ9 => ?_)
   refine hJ9 _ _ ?_
   refine hK8 _ _ ?_
   refine run_ret ?_
   try simp only [Then, InBlock, NoGoto]
   refine acell2 (h := ?_)
   exact gcr

end Go.Proofs.Ytdbaddholggkbaa
