import Derived.Test.YtdbaddholggkbaaC4
/-
  The codec's writer; the layer's example.
-/
namespace Go.Proofs.Ytdbaddholggkbaa
set_option linter.unnecessarySimpa false
set_option maxRecDepth 100000
open Go Go.Vm
set_option linter.unusedSimpArgs false
set_option linter.unusedVariables false

attribute [local simp] evalL wantedA isCall opA evalA evalAll evalsA evalOpt ofValue ofCell plain binA_eql_pn binA_neq_pn binA_gtr binA_lss binA_geq binA_leq binA_add binA_sub binA_eql binA_neq binA_or binA_shl binA_shr binA_mul binA_quo binA_rem convA_int unA_not fieldAddrA loadA partA pickA lenA builtinA storeA splice AV.cells AV.isCell sliceA boundA intA callOf indexAddrA newObjA buildA fillA zeroA ofCells buildSliceA appendA roomA maxLen

theorem lay_new {σ : St} {id : Nat} {q : List UInt8} {tq : Tail} (h : σ.objs[id]? = some [.sl 0 [] 0 .full]) (hq : q.length ≤ 1000000) :
    CallsA Try.prog 129 [.ptr id 0, .sl 1 (bytesA q) q.length tq] σ (fun av σ' => av = .ptr id 0 ∧ σ' = { σ with objs := σ.objs.set id [.sl 1 (bytesA q) q.length (.own σ.toks.length)], toks := σ.toks ++ [q.length] }) := by
  have hs := set_self_of h
  have h1 : q.length ≤ 140737488355328 := by omega
  have h2 : q.length ≤ 9223372036854775807 := by omega
  have hv : (Value.int IntKind.u8 0).cells.size = 1 := rfl
  refine callsA_body Try.func129 rfl rfl rfl ?_
  refine run_seq_k fun K1 hK1 => ?_
  refine run_region_k rfl fun J2 hJ2 => ?_
  try simp [h, hs, h1, h2, hv]
  refine hJ2 _ _ ?_
  refine hK1 _ _ ?_
  refine run_seq_k fun K3 hK3 => ?_
  refine run_seq_k fun K4 hK4 => ?_
  refine run_region_k rfl fun J5 hJ5 => ?_
  try simp [h, hs, h1, h2, hv]
  refine hJ5 _ _ ?_
  refine hK4 _ _ ?_
  refine run_cond_true (by first | rfl | (simp [h, hs, h1, h2, hv, evalA]; done)) ?_
  refine run_region_k rfl fun J6 hJ6 => ?_
  try simp [h, hs, h1, h2, hv]
  refine hJ6 _ _ ?_
  refine hK3 _ _ ?_
  refine run_seq_k fun K7 hK7 => ?_
  refine run_region_k rfl fun J8 hJ8 => ?_
  try simp [h, hs, h1, h2, hv]
  refine hJ8 _ _ ?_
  refine hK7 _ _ ?_
  refine run_ret ?_
  try simp only [Then, InBlock, NoGoto]
  refine answer_tmp rfl (.inr rfl) ?_
  simp [h, hs, h1, h2, hv]

theorem lay_more {σ : St} {id k : Nat} {l q : List UInt8} {tq : Tail} (h : σ.objs[id]? = some [.sl 1 (bytesA l) l.length (.own k)]) (hk : σ.toks[k]? = some l.length) (hl : l.length ≤ 1000000) (hq : q.length ≤ 1000000) :
    CallsA Try.prog 129 [.ptr id 0, .sl 1 (bytesA q) q.length tq] σ (fun av σ' => av = .ptr id 0 ∧ σ' = { σ with objs := σ.objs.set id [.sl 1 (bytesA (l ++ q)) (l ++ q).length (.own k)], toks := σ.toks.set k (l ++ q).length }) := by
  have hs := set_self_of h
  have h1 : l.length + q.length ≤ 140737488355328 := by omega
  have h2 : l.length + q.length ≤ 9223372036854775807 := by omega
  have hv : (Value.int IntKind.u8 0).cells.size = 1 := rfl
  refine callsA_body Try.func129 rfl rfl rfl ?_
  refine run_seq_k fun K1 hK1 => ?_
  refine run_region_k rfl fun J2 hJ2 => ?_
  try simp [h, hs, h1, h2, hv, hk, bytesA_append]
  refine hJ2 _ _ ?_
  refine hK1 _ _ ?_
  refine run_seq_k fun K3 hK3 => ?_
  refine run_seq_k fun K4 hK4 => ?_
  refine run_region_k rfl fun J5 hJ5 => ?_
  try simp [h, hs, h1, h2, hv, hk, bytesA_append]
  refine hJ5 _ _ ?_
  refine hK4 _ _ ?_
  refine run_cond_true (by first | rfl | (simp [h, hs, h1, h2, hv, hk, bytesA_append, evalA]; done)) ?_
  refine run_region_k rfl fun J6 hJ6 => ?_
  try simp [h, hs, h1, h2, hv, hk, bytesA_append]
  refine hJ6 _ _ ?_
  refine hK3 _ _ ?_
  refine run_seq_k fun K7 hK7 => ?_
  refine run_region_k rfl fun J8 hJ8 => ?_
  try simp [h, hs, h1, h2, hv, hk, bytesA_append]
  refine hJ8 _ _ ?_
  refine hK7 _ _ ?_
  refine run_ret ?_
  try simp only [Then, InBlock, NoGoto]
  refine answer_tmp rfl (.inr rfl) ?_
  simp [h, hs, h1, h2, hv, hk, bytesA_append]

theorem same_ok {σ : St} {p q : List UInt8} {t1 t2 : Tail} (hp : p.length ≤ 1000000) :
    CallsA Try.prog 42 [.sl 1 (bytesA p) p.length t1, .sl 1 (bytesA q) q.length t2] σ (fun av σ' => av = .v (.bool (p == q)) ∧ σ = σ') := by
  by_cases hl : p.length = q.length
  · have hi : ((p.length : Int) != q.length) = false := by simp; omega
    refine callsA_body Try.func42 rfl rfl rfl ?_
    refine run_seq_k fun K1 hK1 => ?_
    refine run_region_k rfl fun J2 hJ2 => ?_
    try simp
    refine hJ2 _ _ ?_
    refine hK1 _ _ ?_
    refine run_seq_k fun K3 hK3 => ?_
    refine run_seq_k fun K4 hK4 => ?_
    refine run_region_k rfl fun J5 hJ5 => ?_
    try simp
    refine hJ5 _ _ ?_
    refine hK4 _ _ ?_
    refine run_cond_false (by first | rfl | (simp [evalA, hl]; done)) ?_
    refine run_skip ?_
    refine hK3 _ _ ?_
    refine run_seq_k fun K6 hK6 => ?_
    refine run_seq_k fun K7 hK7 => ?_
    refine run_region_k rfl fun J8 hJ8 => ?_
    try simp
    refine hJ8 _ _ ?_
    refine hK7 _ _ ?_
    refine run_block_k ?_
    refine run_loop (X := Nat) (fun k ρ σ1 => k ≤ p.length ∧ p.take k = q.take k ∧ ρ 0 = .sl 1 (bytesA p) p.length t1 ∧ ρ 1 = .sl 1 (bytesA q) q.length t2 ∧ ρ 5 = .v (.int .i64 k) ∧ σ1 = σ) (fun k => p.length - k) (0) ?start ?round
    case start =>
      simp
    case round =>
      rintro k ρ σ1 ⟨hk, ht, h0, h1, h5, rfl⟩
      refine run_seq_k fun K9 hK9 => ?_
      refine run_seq_k fun K10 hK10 => ?_
      refine run_region_k rfl fun J11 hJ11 => ?_
      try simp [h0, h1, h5]
      refine hJ11 _ _ ?_
      refine hK10 _ _ ?_
      refine run_cond_split rfl (fun c14 => ?_) (fun c14 => ?_)
      · try (exfalso; revert c14; simp [h0, h1, h5]; done)
        all_goals
          (try simp [h0, h1, h5] at c14)
          all_goals
            refine run_skip ?_
            refine hK9 _ _ ?_
            refine run_seq_k fun K13 hK13 => ?_
            refine run_block_k ?_
            refine run_seq_k fun K14 hK14 => ?_
            have hq : k < q.length := by omega
            have hqi : (k : Int) < q.length := by omega
            have hwk : IntKind.i64.wrap ((k : Int) + 1) = (k : Int) + 1 := wrap_i64 _ (by omega) (by omega)
            refine run_draw (by kernel_rfl) fun J15 hJ15 => ?_
            refine runD_pure' 0 (by kernel_rfl) rfl rfl (by kernel_rfl) (by kernel_rfl) (by kernel_rfl) (by kernel_rfl) ?_
            try simp [h0, h1, h5, c14, hq, hqi, hwk]
            refine runD_pure' 1 (by kernel_rfl) rfl rfl (by kernel_rfl) (by kernel_rfl) (by kernel_rfl) (by kernel_rfl) ?_
            try simp [h0, h1, h5, c14, hq, hqi, hwk]
            refine runD_pure' 2 (by kernel_rfl) rfl rfl (by kernel_rfl) (by kernel_rfl) (by kernel_rfl) (by kernel_rfl) ?_
            try simp [h0, h1, h5, c14, hq, hqi, hwk]
            refine runD_pure' 3 (by kernel_rfl) rfl rfl (by kernel_rfl) (by kernel_rfl) (by kernel_rfl) (by kernel_rfl) ?_
            try simp [h0, h1, h5, c14, hq, hqi, hwk]
            refine runD_pure' 4 (by kernel_rfl) rfl rfl (by kernel_rfl) (by kernel_rfl) (by kernel_rfl) (by kernel_rfl) ?_
            try simp [h0, h1, h5, c14, hq, hqi, hwk]
            refine runD_pure' 5 (by kernel_rfl) rfl rfl (by kernel_rfl) (by kernel_rfl) (by kernel_rfl) (by kernel_rfl) ?_
            try simp [h0, h1, h5, c14, hq, hqi, hwk]
            refine runD_pure' 6 (by kernel_rfl) rfl rfl (by kernel_rfl) (by kernel_rfl) (by kernel_rfl) (by kernel_rfl) ?_
            try simp [h0, h1, h5, c14, hq, hqi, hwk]
            refine runD_pure' 7 (by kernel_rfl) rfl rfl (by kernel_rfl) (by kernel_rfl) (by kernel_rfl) (by kernel_rfl) ?_
            try simp [h0, h1, h5, c14, hq, hqi, hwk]
            refine runD_pure' 8 (by kernel_rfl) rfl rfl (by kernel_rfl) (by kernel_rfl) (by kernel_rfl) (by kernel_rfl) ?_
            try simp [h0, h1, h5, c14, hq, hqi, hwk]
            refine runD_done (by kernel_rfl) (by kernel_rfl) (by kernel_rfl) ?_
            refine hJ15 _ _ ?_
            refine hK14 _ _ ?_
            refine run_cond_split rfl (fun c25 => ?_) (fun c25 => ?_)
            · try (exfalso; revert c25; simp [h0, h1, h5, c14, hq, hqi, hwk]; done)
              all_goals
                (try simp [h0, h1, h5, c14, hq, hqi, hwk] at c25)
                all_goals
                  refine run_seq_k fun K17 hK17 => ?_
                  refine run_region_k rfl fun J18 hJ18 => ?_
                  try simp [h0, h1, h5, c14, hq, hqi, hwk, c25]
                  refine hJ18 _ _ ?_
                  refine hK17 _ _ ?_
                  refine run_ret ?_
                  try simp only [Then, InBlock, NoGoto]
                  refine answer_tmp rfl (.inr rfl) ?_
                  have hne : (p == q) = false := by simp; intro e; subst e; exact c25 rfl
                  simp [hne]
            · try (exfalso; revert c25; simp [h0, h1, h5, c14, hq, hqi, hwk]; done)
              all_goals
                (try simp [h0, h1, h5, c14, hq, hqi, hwk] at c25)
                all_goals
                  refine run_skip ?_
                  refine hK13 _ _ ?_
                  refine run_region_k rfl fun J19 hJ19 => ?_
                  try simp [h0, h1, h5, c14, hq, hqi, hwk, c25]
                  refine hJ19 _ _ ?_
                  refine ⟨k + 1, ⟨by omega, ?_, by simp [h0], by simp [h1], by simp, rfl⟩, by omega⟩
                  have e : p[k] = q[k] := UInt8.toNat_inj.1 (by omega)
                  rw [take_succ (by omega), take_succ hq, ht, e]
      · try (exfalso; revert c14; simp [h0, h1, h5]; done)
        all_goals
          (try simp [h0, h1, h5] at c14)
          all_goals
            refine run_exit ?_
            refine hK6 _ _ ?_
            refine run_seq_k fun K20 hK20 => ?_
            refine run_region_k rfl fun J21 hJ21 => ?_
            try simp [h0, h1, h5, c14]
            refine hJ21 _ _ ?_
            refine hK20 _ _ ?_
            refine run_ret ?_
            try simp only [Then, InBlock, NoGoto]
            refine answer_tmp rfl (.inr rfl) ?_
            have he : p = q := by rw [← List.take_of_length_le (l := p) (i := k) (by omega), ← List.take_of_length_le (l := q) (i := k) (by omega), ht]
            simp [he]
  · have hi : ((p.length : Int) != q.length) = true := by simp; omega
    have hne : (p == q) = false := by simp; intro e; exact hl (by rw [e])
    have hl' : ¬ (p.length : Int) = q.length := by omega
    refine callsA_body Try.func42 rfl rfl rfl ?_
    refine run_seq_k fun K1 hK1 => ?_
    refine run_region_k rfl fun J2 hJ2 => ?_
    try simp
    refine hJ2 _ _ ?_
    refine hK1 _ _ ?_
    refine run_seq_k fun K3 hK3 => ?_
    refine run_seq_k fun K4 hK4 => ?_
    refine run_region_k rfl fun J5 hJ5 => ?_
    try simp
    refine hJ5 _ _ ?_
    refine hK4 _ _ ?_
    refine run_cond_true (by first | rfl | (simp [evalA]; omega; done)) ?_
    refine run_seq_k fun K6 hK6 => ?_
    refine run_region_k rfl fun J7 hJ7 => ?_
    try simp
    refine hJ7 _ _ ?_
    refine hK6 _ _ ?_
    refine run_ret ?_
    try simp only [Then, InBlock, NoGoto]
    refine answer_tmp rfl (.inr rfl) ?_
    simp [hne]

theorem done_ok {σ : St} {id : Nat} {p : List UInt8} {tl : Tail} (h : σ.objs[id]? = some [.sl 1 (bytesA p) p.length tl]) (hp : p.length ≤ 1000000) :
    CallsA Try.prog 41 [.ptr id 0] σ (fun av σ' => av = .sl 1 (bytesA p) p.length .shut ∧ σ = σ') := by
  refine callsA_body Try.func41 rfl rfl rfl ?_
  refine run_seq_k fun K1 hK1 => ?_
  refine run_region_k rfl fun J2 hJ2 => ?_
  try simp [h]
  refine hJ2 _ _ ?_
  refine hK1 _ _ ?_
  refine run_seq_k fun K3 hK3 => ?_
  refine run_seq_k fun K4 hK4 => ?_
  refine run_region_k rfl fun J5 hJ5 => ?_
  try simp [h]
  refine hJ5 _ _ ?_
  refine hK4 _ _ ?_
  refine run_cond_false (by first | rfl | (simp [h, evalA]; done)) ?_
  refine run_skip ?_
  refine hK3 _ _ ?_
  refine run_seq_k fun K6 hK6 => ?_
  refine run_region_k rfl fun J7 hJ7 => ?_
  try simp [h]
  refine runL_call' (b := true) (by first | rfl | (simp [h, wantedA]; done)) rfl rfl (by first | rfl | (simp [h, callOf]; done)) (by simp) (clone_ok hp) ?_
  rintro _ _ ⟨rfl, rfl⟩
  try simp [h]
  refine hJ7 _ _ ?_
  refine hK6 _ _ ?_
  refine run_ret ?_
  try simp only [Then, InBlock, NoGoto]
  refine answer_tmp rfl (.inr rfl) ?_
  simp [h]

theorem natBytes_len (x k : Nat) (h : x < 256 ^ k) : (natBytes x).length ≤ k := by
  induction k generalizing x with
  | zero =>
    have : x = 0 := by simpa using h
    subst this; simp [natBytes_zero]
  | succ k ih =>
    by_cases h0 : x = 0
    · subst h0; simp [natBytes_zero]
    · rw [natBytes_pos (by omega)]
      have : x / 256 < 256 ^ k := by rw [Nat.div_lt_iff_lt_mul (by omega)]; rwa [Nat.pow_succ] at h
      have := ih _ this
      simp; omega

theorem wnum_new {σ : St} {id x : Nat} (h : σ.objs[id]? = some [.sl 0 [] 0 .full]) (hx : x < 2 ^ 256) :
    CallsA Try.prog 103 [.ptr id 0, .agg (numA x)] σ (fun av σ' => av = .ptr id 0 ∧ σ' = { σ with objs := σ.objs.set id [.sl 1 (bytesA (UInt8.ofNat (natBytes x).length :: natBytes x)) ((natBytes x).length + 1) (.own σ.toks.length)] ++ [numA x], toks := σ.toks ++ [(natBytes x).length + 1] }) := by
  have hlt := lt_of_get h
  have hlen : (natBytes x).length ≤ 32 := natBytes_len x 32 (by simpa using hx)
  obtain ⟨c, hc⟩ : ∃ c, c = UInt8.ofNat (natBytes x).length := ⟨_, rfl⟩
  have hcn : c.toNat = (natBytes x).length := by rw [hc]; exact toNat_ofNat (by omega)
  have hw : IntKind.u8.wrap ((natBytes x).length : Int) = (c.toNat : Int) := by rw [wrap_u8, hcn, Nat.mod_eq_of_lt (by omega)]
  rw [← hc]
  have h1 : (σ.objs ++ [numA x])[id]? = some [.sl 0 [] 0 .full] := by rw [List.getElem?_append_left hlt]; exact h
  have hs := set_self_of h1
  have ha : ∀ v : List AV, (σ.objs ++ [numA x]).set id v = σ.objs.set id v ++ [numA x] := fun v => List.set_append_left _ _ hlt
  have hv : (Value.int IntKind.u8 0).cells.size = 1 := rfl
  refine callsA_body Try.func103 rfl rfl rfl ?_
  refine run_seq_k fun K1 hK1 => ?_
  refine run_region_k rfl fun J2 hJ2 => ?_
  try simp [hw, hv]
  refine hJ2 _ _ ?_
  refine hK1 _ _ ?_
  refine run_seq_k fun K3 hK3 => ?_
  refine run_region_k rfl fun J4 hJ4 => ?_
  try simp [hw, hv]
  refine runL_call' (b := true) (by first | rfl | (simp [hw, hv, wantedA]; done)) rfl rfl (by first | rfl | (simp [hw, hv, callOf]; done)) (by simp) (bytes_ok hx) ?_
  rintro _ _ ⟨rfl, rfl⟩
  try simp [hw, hv]
  refine hJ4 _ _ ?_
  refine hK3 _ _ ?_
  refine run_seq_k fun K5 hK5 => ?_
  refine run_region_k rfl fun J6 hJ6 => ?_
  try simp [hw, hv]
  refine runL_call' (b := true) (by first | rfl | (simp [hw, hv, wantedA]; done)) rfl rfl (by first | rfl | (simp [hw, hv, callOf]; done)) (by simp) (lay_new (q := [c]) h1 (by simp)) ?_
  rintro _ _ ⟨rfl, rfl⟩
  try simp [hw, hv]
  refine runL_call' (b := true) (by first | rfl | (simp [hw, hv, wantedA]; done)) rfl rfl (by first | rfl | (simp [hw, hv, callOf]; done)) (by simp) (lay_more (l := [c]) (k := σ.toks.length) (hs _) (by simp) (by simp) (by omega)) ?_
  rintro _ _ ⟨rfl, rfl⟩
  try simp [hw, hv]
  refine hJ6 _ _ ?_
  refine hK5 _ _ ?_
  refine run_ret ?_
  try simp only [Then, InBlock, NoGoto]
  refine answer_tmp rfl (.inr rfl) ?_
  simp [ha]

theorem nb256 : natBytes 256 = [1, 0] := by
  rw [natBytes_pos (by omega), natBytes_pos (by omega)]
  simp [natBytes_zero]

theorem wnum_256 {σ : St} {id : Nat} (h : σ.objs[id]? = some [.sl 0 [] 0 .full]) :
    CallsA Try.prog 103 [.ptr id 0, .agg (numA 256)] σ (fun av σ' => av = .ptr id 0 ∧ σ' = { σ with objs := σ.objs.set id [.sl 1 (bytesA [2, 1, 0]) 3 (.own σ.toks.length)] ++ [numA 256], toks := σ.toks ++ [3] }) := by
  have := wnum_new h (show 256 < 2 ^ 256 by decide)
  rw [nb256] at this
  exact this

theorem num_10 {σ : St} {id : Nat} (h : σ.objs[id]? = some (rd (some [1, 0]))) :
    CallsA Try.prog 128 [.ptr id 0] σ (fun av σ' => av = .agg (numA 0) ∧ σ' = { σ with objs := σ.objs.set id (rd none) }) := by
  have h1 : numOf (numB (some [1, 0])) = 0 := by decide
  have h2 : numS (some [1, 0]) = none := by decide
  have := num_ok h
  rw [h1, h2] at this
  exact this

end Go.Proofs.Ytdbaddholggkbaa
