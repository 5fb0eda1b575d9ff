import Derived.Test.YtdbaddholggkbaaZ7
import Derived.Test.YtdbaddholggkbaaZ13
import Derived.Test.YtdbaddholggkbaaZ10
/-
  The document's writer: a number's bytes, numbers and lists of coins.
-/
namespace Go.Proofs.Ytdbaddholggkbaa
set_option linter.unnecessarySimpa false
open Go Go.Vm
set_option linter.unusedSimpArgs false
set_option linter.unusedVariables false
set_option maxRecDepth 100000

attribute [local simp] evalL wantedA isCall opA evalA evalAll evalsA evalOpt ofValue ofCell plain binA_eql_pn binA_neq_pn binA_gtr binA_lss binA_geq binA_leq binA_add binA_sub binA_eql binA_neq binA_or binA_shl binA_shr binA_mul binA_quo binA_rem binA_agg_eql binA_agg_neq convA_int unA_not fieldAddrA loadA partA pickA_true pickA_false pickA_bb lenA_sl builtinA storeA splice AV.cells AV.isCell sliceA boundA intA callOf indexAddrA newObjA buildA fillA zeroA ofCells buildSliceA indexA fieldA coinsC_at

theorem len_wrA (k : Nat) (l : List UInt8) : lenA Try.prog 47 (wrA k l) = some (.v (.int .i64 (l.length : Nat))) := by
  unfold wrA
  split
  · rename_i h; subst h; simp [lenA]
  · simp [lenA]

theorem dig_byteE {x i : Nat} : x / 65536 ^ (i / 2) % 65536 / 2 ^ (8 * (i % 2)) % 256 = x / 256 ^ i % 256 := by
  have e : (256 : Nat) ^ i = 2 ^ (8 * i) := by rw [Nat.pow_mul]
  have e2 : (65536 : Nat) ^ (i / 2) = 2 ^ (16 * (i / 2)) := by rw [Nat.pow_mul]
  rw [e, e2]
  apply Nat.eq_of_testBit_eq
  intro j
  rw [show (65536 : Nat) = 2 ^ 16 by rfl, show (256 : Nat) = 2 ^ 8 by rfl]
  simp only [Nat.testBit_mod_two_pow, Nat.testBit_div_two_pow]
  by_cases hj : j < 8
  · have h1 : j + 8 * (i % 2) < 16 := by omega
    have h2 : j + 8 * (i % 2) + 16 * (i / 2) = j + 8 * i := by omega
    simp [hj, h1, h2]
  · simp [hj]

theorem digsE_get {x q : Nat} (hq : q < 16) : (dgA (digsE x))[q]? = some (.v (.int .u64 (x / 65536 ^ q % 65536 : Nat))) := by
  simp [dgA, digsE, hq]

theorem append_byte0 {l : List UInt8} [hsm : SmallB l] {objs : List (List AV)} {tk : List Nat} {gl : Nat → Option (List AV)} {rows : List RowSt} :
    appendA Try.prog 47 (wrA tk.length l) (.sl 1 [.v (.int .u8 0)] 1 .full) ⟨objs, tk ++ tkB l, gl, rows⟩ = some (wrA tk.length (l ++ [0]), ⟨objs, tk ++ tkB (l ++ [0]), gl, rows⟩) := append_byte (b := 0)

set_option maxHeartbeats 1600000 in
attribute [local simp] undefA List.getElem?_cons_zero List.getElem?_cons_succ append_byte append_byte0 len_wrA in
theorem rbytes_ok {σ : St} {x : Nat} (hx : x < 2 ^ 256) :
    CallsA Try.prog 136 [.agg (numA x)] σ (fun av σ' => av = .sl 1 (bytesA (natBytes x)) (natBytes x).length .shut ∧ σ = σ') := by
  refine callsA_gcS ?_ (by simp [AV.under])
  have hv : (Value.int IntKind.u8 0).cells.size = 1 := rfl
  have F := And.intro hv (True.intro)
  refine callsA_body Try.func136 rfl rfl rfl ?_
  refine sq fun K1 hK1 => ?_
  refine rg' (h := fun J2 hJ2 => ?_)
  refine hJ2 _ _ ?_
  refine hK1 _ _ ?_
  refine sq fun K3 hK3 => ?_
  refine rg' (h := fun J4 hJ4 => ?_)
  refine ca (c := digitsE_ok) (k := ?_)
  rintro _ _ ⟨rfl, rfl⟩
  repeat (first | simp [F] | simp (disch := omega) only [wC, if_pos, if_neg])
  refine hJ4 _ _ ?_
  refine hK3 _ _ ?_
  refine sq fun K5 hK5 => ?_
  refine rg' (h := fun J6 hJ6 => ?_)
  refine hJ6 _ _ ?_
  refine hK5 _ _ ?_
  refine sq fun K7 hK7 => ?_
  refine sq fun K8 hK8 => ?_
  refine rg' (h := fun J9 hJ9 => ?_)
  refine hJ9 _ _ ?_
  refine hK8 _ _ ?_
  refine run_block_k ?_
  have h00 : x / 256 ^ 32 = 0 := Nat.div_eq_of_lt (by simpa using hx)
  refine run_loopF (X := Nat) [2, 3] (fun k ρ σ1 => (k ≤ 32) ∧ (ρ 4 = wrA σ.toks.length (natBytes (x / 256 ^ k))) ∧ (ρ 5 = .v (.int .i64 ((k : Int) - 1))) ∧ ((natBytes (x / 256 ^ k)).length ≤ 32 - k) ∧ (σ1 = { σ with objs := σ.objs ++ [numA x], toks := σ.toks ++ tkB (natBytes (x / 256 ^ k)) })) (fun k => k) (32) ?st1 ?rd1
  case st1 =>
   refine ⟨lp, ?_, lp, ?_, ?_⟩
   · rw [h00, natBytes_zero]
     simp [wrA_nil]
   · rw [h00, natBytes_zero]
     simp
   · rw [h00, natBytes_zero]
     simp
  case rd1 =>
   rintro k ρ1 σ1 hF1 ⟨hj, h4, h5, hl, hσ⟩
   obtain rfl := hσ.symm
   have f1 := keepL hF1
   try simp [KeepL, F] at f1
   replace F := And.intro h4 F
   replace F := And.intro h5 F
   try replace F := And.intro f1 F
   refine sq fun K10 hK10 => ?_
   refine sq fun K11 hK11 => ?_
   refine rg' (h := fun J12 hJ12 => ?_)
   refine hJ12 _ _ ?_
   refine hK11 _ _ ?_
   refine cs (fun c10 => ?_) (fun c10 => ?_)
   · try exact nope c10
     all_goals have c10p := c10
     all_goals try simp [F] at c10p
     all_goals
      replace F := And.intro c10 F
      try replace F := And.intro c10p F
      refine run_skip ?_
      refine hK10 _ _ ?_
      refine sq fun K13 hK13 => ?_
      refine run_block_k ?_
      refine sq fun K14 hK14 => ?_
      obtain ⟨i, rfl⟩ : ∃ i, k = i + 1 := ⟨k - 1, by simp at c10; omega⟩
      have hki : ((i + 1 : Nat) : Int) - 1 = (i : Int) := by omega
      obtain ⟨q, hq⟩ : ∃ q, q = i / 2 := ⟨_, rfl⟩
      obtain ⟨r, hr⟩ : ∃ r, r = i % 2 := ⟨_, rfl⟩
      have hq4 : q < 16 := by omega
      have hq5 : (q : Int) < 16 := by omega
      have hr8 : r < 2 := by omega
      have hqq : IntKind.i64.wrap ((i : Int).tdiv 2) = (q : Int) := by rw [Int.tdiv_eq_ediv_of_nonneg (by omega), wrap_i64 _ (by omega) (by omega)]; omega
      have hrr : (i : Int).tmod 2 = (r : Int) := by rw [Int.tmod_eq_emod_of_nonneg (by omega)]; omega
      have hq2 : IntKind.i64.wrap ((i : Int) / 2) = (q : Int) := by rw [wrap_i64 _ (by omega) (by omega)]; omega
      have hr2 : (i : Int) % 2 = (r : Int) := by omega
      have hnn : ¬ 8 * (r : Int) < 0 := by omega
      obtain ⟨m, hm⟩ : ∃ m, m = x / 65536 ^ q % 65536 := ⟨_, rfl⟩
      have hget := digsE_get (x := x) hq4
      rw [← hm] at hget
      obtain ⟨c, hc⟩ : ∃ c, c = UInt8.ofNat (x / 256 ^ i % 256) := ⟨_, rfl⟩
      have hcn : c.toNat = x / 256 ^ i % 256 := by rw [hc]; exact toNat_ofNat (by omega)
      have hmy : m / 2 ^ (8 * r) % 256 = c.toNat := by rw [hm, hq, hr, hcn]; exact dig_byteE
      have hsh : Int.fdiv (m : Int) (2 ^ (min (8 * (r : Int)).toNat 64)) = ((m / 2 ^ (8 * r) : Nat) : Int) := by rw [show min (8 * (r : Int)).toNat 64 = 8 * r by omega, Int.fdiv_eq_ediv_of_nonneg _ (by exact Int.le_of_lt (Int.pow_pos (by omega)))]; simp
      have hcv : IntKind.u8.wrap ((m / 2 ^ (8 * r) : Nat) : Int) = (c.toNat : Int) := by rw [wrap_u8, hmy]
      generalize m / 2 ^ (8 * r) = z at *
      have : SmallB (natBytes (x / 256 ^ (i + 1))) := ⟨by omega⟩
      replace F := And.intro hki F
      replace F := And.intro hqq F
      replace F := And.intro hrr F
      replace F := And.intro hq2 F
      replace F := And.intro hr2 F
      replace F := And.intro hq4 F
      replace F := And.intro hq5 F
      replace F := And.intro hnn F
      replace F := And.intro hsh F
      replace F := And.intro hcv F
      replace F := And.intro hget F
      refine rg' (h := fun J15 hJ15 => ?_)
      refine hJ15 _ _ ?_
      refine hK14 _ _ ?_
      refine sq fun K16 hK16 => ?_
      refine rg' (h := fun J17 hJ17 => ?_)
      refine gs 25 (fun g7_2 => ?_) (fun g7_2 => ?_)
      · try exact nope g7_2
        all_goals have g7_2p := g7_2
        all_goals try simp [F] at g7_2p
        all_goals
         replace F := And.intro g7_2 F
         try replace F := And.intro g7_2p F
         have e : natBytes (x / 256 ^ i) = natBytes (x / 256 ^ (i + 1)) ++ [c] := by rw [hc]; exact nb1 (.inl (by simp at g7_2; omega))
         refine no2 (k := ?_)
         refine no2 (k := ?_)
         refine no2 (k := ?_)
         refine hJ17 _ _ ?_
         refine hK16 _ _ ?_
         refine ct ?_
         refine rg' (h := fun J18 hJ18 => ?_)
         refine hJ18 _ _ ?_
         refine hK13 _ _ ?_
         refine rg' (h := fun J19 hJ19 => ?_)
         refine hJ19 _ _ ?_
         refine ⟨(i), ⟨kp, lp, ?_, lp, ?_, ?_⟩, lp⟩
         · simp [e]
         · rw [e]
           simp
           omega
         · simp [e]
      try exact nope g7_2
      all_goals have g7_2p := g7_2
      all_goals try simp [F] at g7_2p
      all_goals
       replace F := And.intro g7_2 F
       try replace F := And.intro g7_2p F
       refine go2 (k := ?_)
       refine go2 (k := ?_)
       refine go2 (k := ?_)
       refine hJ17 _ _ ?_
       refine hK16 _ _ ?_
       refine cs (fun c29 => ?_) (fun c29 => ?_)
       · try exact nope c29
         all_goals have c29p := c29
         all_goals try simp [F] at c29p
         all_goals
          replace F := And.intro c29 F
          try replace F := And.intro c29p F
          try (have g7 : c.toNat = 0 := by simp at g7_2; omega)
          try have hc0 : c = 0 := UInt8.toNat_inj.1 (by simpa using g7)
          try have e : natBytes (x / 256 ^ i) = natBytes (x / 256 ^ (i + 1)) ++ [c] := by rw [hc]; exact nb1 (.inr (by simpa using c29))
          refine rg' (h := fun J20 hJ20 => ?_)
          refine hJ20 _ _ ?_
          refine hK13 _ _ ?_
          refine rg' (h := fun J21 hJ21 => ?_)
          refine hJ21 _ _ ?_
          refine ⟨(i), ⟨kp, lp, ?_, lp, ?_, ?_⟩, lp⟩
          · simp [e, hc0]
          · rw [e]
            simp
            omega
          · simp [e, hc0]
       try exact nope c29
       all_goals have c29p := c29
       all_goals try simp [F] at c29p
       all_goals
        replace F := And.intro c29 F
        try replace F := And.intro c29p F
        have g7 : c.toNat = 0 := by simp at g7_2; omega
        have e : natBytes (x / 256 ^ i) = natBytes (x / 256 ^ (i + 1)) := nb2 (by omega) (by simpa using c29)
        refine run_skip ?_
        refine hK13 _ _ ?_
        refine rg' (h := fun J22 hJ22 => ?_)
        refine hJ22 _ _ ?_
        refine ⟨(i), ⟨kp, lp, ?_, lp, ?_, ?_⟩, lp⟩
        · rw [e]
          simp [F]
        · rw [e]
          omega
        · rw [e]
          simp [F]
   try exact nope c10
   all_goals have c10p := c10
   all_goals try simp [F] at c10p
   all_goals
    replace F := And.intro c10 F
    try replace F := And.intro c10p F
    refine run_exit ?_
    refine hK7 _ _ ?_
    refine sq fun K23 hK23 => ?_
    refine rg' (h := fun J24 hJ24 => ?_)
    refine hJ24 _ _ ?_
    refine hK23 _ _ ?_
    refine run_ret ?_
    try simp only [Then, InBlock, NoGoto]
    refine answer_tmp rfl (.inr rfl) ?_
    have hk0 : k = 0 := by simp at c10; omega
    subst hk0
    simp only [Nat.pow_zero, Nat.div_one]
    exact ⟨wk_wrA _ _, [numA x], tkB (natBytes x), [], by simp⟩

set_option maxHeartbeats 1600000 in
attribute [local simp] undefA List.getElem?_cons_zero List.getElem?_cons_succ appendA readA roomA maxLen in
theorem rnum_ok {σ : St} {x : Nat} (hx : x < 2 ^ 256) :
    CallsA Try.prog 107 [.agg (numA x)] σ (fun av σ' => av = .sl 1 (bytesA (encN x)) (encN x).length .shut ∧ σ = σ') := by
  refine callsA_gcS ?_ (by simp [AV.under])
  have hv : (Value.int IntKind.u8 0).cells.size = 1 := rfl
  have hlen : (natBytes x).length ≤ 32 := natBytes_len x 32 (by simpa using hx)
  obtain ⟨c, hc⟩ : ∃ c, c = UInt8.ofNat (natBytes x).length := ⟨_, rfl⟩
  have hcn : c.toNat = (natBytes x).length := by rw [hc]; exact toNat_ofNat (by omega)
  have hw : IntKind.u8.wrap ((natBytes x).length : Int) = (c.toNat : Int) := by rw [wrap_u8, hcn, Nat.mod_eq_of_lt (by omega)]
  have h1 : 1 + (natBytes x).length ≤ 140737488355328 := by omega
  have h2 : 1 + (natBytes x).length ≤ 9223372036854775807 := by omega
  have he : encN x = c :: natBytes x := by simp [encN, hc]
  have hwk : Wk (.sl 1 (.v (.int .u8 c.toNat) :: bytesA (natBytes x)) (1 + (natBytes x).length) (.own σ.toks.length)) (.sl 1 (bytesA (encN x)) (encN x).length .shut) := by
    rw [he, List.length_cons, Nat.add_comm]
    exact Wk.shut 1 (bytesA (c :: natBytes x)) _ _
  have F := And.intro hv (And.intro hw (And.intro h1 (And.intro h2 (True.intro))))
  refine callsA_body Try.func107 rfl rfl rfl ?_
  refine sq fun K1 hK1 => ?_
  refine rg' (h := fun J2 hJ2 => ?_)
  refine hJ2 _ _ ?_
  refine hK1 _ _ ?_
  refine sq fun K3 hK3 => ?_
  refine rg' (h := fun J4 hJ4 => ?_)
  refine ca (c := rbytes_ok hx) (k := ?_)
  rintro _ _ ⟨rfl, rfl⟩
  repeat (first | simp [F] | simp (disch := omega) only [wC, if_pos, if_neg])
  refine hJ4 _ _ ?_
  refine hK3 _ _ ?_
  refine sq fun K5 hK5 => ?_
  refine rg' (h := fun J6 hJ6 => ?_)
  refine hJ6 _ _ ?_
  refine hK5 _ _ ?_
  refine run_ret ?_
  try simp only [Then, InBlock, NoGoto]
  refine answer_tmp rfl (.inr rfl) ?_
  exact ⟨hwk, [numA x], [1 + (natBytes x).length], [], by simp⟩

/-! ### A list that begins with one byte of its own -/
def wrF (k : Nat) (first : Bool) (l : List UInt8) : AV := .sl 1 (bytesA l) l.length (if first then .full else .own k)
def tkF (first : Bool) (l : List UInt8) : List Nat := if first then [] else [l.length]
theorem wk_wrF (k : Nat) (b : Bool) (l : List UInt8) : Wk (wrF k b l) (.sl 1 (bytesA l) l.length .shut) := Wk.shut _ _ _ _
theorem append_wrF {l q : List UInt8} {tq : Tail} {first : Bool} [hsm : SmallB l] {objs : List (List AV)} {tk : List Nat} {gl : Nat → Option (List AV)} {rows : List RowSt} (hq : q.length ≤ 100000) :
    appendA Try.prog 47 (wrF tk.length first l) (.sl 1 (bytesA q) q.length tq) ⟨objs, tk ++ tkF first l, gl, rows⟩ = some (wrF tk.length false (l ++ q), ⟨objs, tk ++ tkF false (l ++ q), gl, rows⟩) := by
  have hl := hsm.h
  have hv : (Value.int IntKind.u8 0).cells.size = 1 := rfl
  have h1 : l.length + q.length ≤ 140737488355328 := by omega
  have h2 : l.length + q.length ≤ 9223372036854775807 := by omega
  cases first <;> simp [wrF, tkF, appendA, readA, roomA, maxLen, h1, h2, hv, bytesA_append]
theorem append_wrF1 {l : List UInt8} {b : UInt8} {first : Bool} [hsm : SmallB l] {objs : List (List AV)} {tk : List Nat} {gl : Nat → Option (List AV)} {rows : List RowSt} :
    appendA Try.prog 47 (wrF tk.length first l) (.sl 1 [.v (.int .u8 b.toNat)] 1 .full) ⟨objs, tk ++ tkF first l, gl, rows⟩ = some (wrF tk.length false (l ++ [b]), ⟨objs, tk ++ tkF false (l ++ [b]), gl, rows⟩) := append_wrF (q := [b]) (by simp)

set_option maxHeartbeats 1600000 in
attribute [local simp] undefA List.getElem?_cons_zero List.getElem?_cons_succ append_wrF1 coinC in
theorem rcoinsW_ok {σ : St} {L : List Coin} {tL : Tail} (hL : L.length ≤ 255) :
    CallsA Try.prog 90 [.sl 5 (coinsC L) L.length tL] σ (fun av σ' => av = .sl 1 (bytesA (encL L)) (encL L).length .shut ∧ σ = σ') := by
  refine callsA_gcS ?_ (by simp [AV.under])
  have hv : (Value.int IntKind.u8 0).cells.size = 1 := rfl
  obtain ⟨c, hc⟩ : ∃ c, c = UInt8.ofNat L.length := ⟨_, rfl⟩
  have hcn : c.toNat = L.length := by rw [hc]; exact toNat_ofNat (by omega)
  have hw : IntKind.u8.wrap (L.length : Int) = (c.toNat : Int) := by rw [wrap_u8, hcn, Nat.mod_eq_of_lt (by omega)]
  have hlA : lenA Try.prog 23 (.sl 5 (coinsC L) L.length tL) = some (.v (.int .i64 (L.length : Nat))) := by simp [lenA]
  have F := And.intro hv (And.intro hw (And.intro hlA (True.intro)))
  refine callsA_body Try.func90 rfl rfl rfl ?_
  refine sq fun K1 hK1 => ?_
  refine rg' (h := fun J2 hJ2 => ?_)
  refine hJ2 _ _ ?_
  refine hK1 _ _ ?_
  refine sq fun K3 hK3 => ?_
  refine rg' (h := fun J4 hJ4 => ?_)
  refine hJ4 _ _ ?_
  refine hK3 _ _ ?_
  refine sq fun K5 hK5 => ?_
  refine sq fun K6 hK6 => ?_
  refine rg' (h := fun J7 hJ7 => ?_)
  refine hJ7 _ _ ?_
  refine hK6 _ _ ?_
  refine run_block_k ?_
  refine run_loopF (X := Nat) [0, 2] (fun j ρ σ1 => (j ≤ L.length) ∧ (ρ 3 = wrF σ.toks.length (decide (j = 0)) (c :: encCs (L.take j))) ∧ (ρ 4 = .v (.int .i64 j)) ∧ (σ1 = { σ with toks := σ.toks ++ tkF (decide (j = 0)) (c :: encCs (L.take j)) })) (fun j => L.length - j) (0) ?st1 ?rd1
  case st1 =>
   refine ⟨lp, ?_, lp, ?_⟩
   · simp [wrF, encCs, bytesA]
   · simp [tkF]
  case rd1 =>
   rintro j ρ1 σ1 hF1 ⟨hj, h3, h4, hσ⟩
   obtain rfl := hσ.symm
   have f1 := keepL hF1
   try simp [KeepL, F] at f1
   replace F := And.intro h3 F
   replace F := And.intro h4 F
   try replace F := And.intro f1 F
   refine sq fun K8 hK8 => ?_
   refine sq fun K9 hK9 => ?_
   refine rg' (h := fun J10 hJ10 => ?_)
   refine hJ10 _ _ ?_
   refine hK9 _ _ ?_
   refine cs (fun c12 => ?_) (fun c12 => ?_)
   · try exact nope c12
     all_goals have c12p := c12
     all_goals try simp [F] at c12p
     all_goals
      replace F := And.intro c12 F
      try replace F := And.intro c12p F
      refine run_skip ?_
      refine hK8 _ _ ?_
      refine sq fun K11 hK11 => ?_
      refine run_block_k ?_
      refine sq fun K12 hK12 => ?_
      have hel := encCs_len (L.take j)
      have htl : (L.take j).length ≤ 255 := by simp; omega
      have : SmallB (c :: encCs (L.take j)) := ⟨by simp; omega⟩
      have : SmallB (c :: (encCs (L.take j) ++ [L[j].d])) := ⟨by simp; omega⟩
      have e3 : encCs (L.take (j + 1)) = encCs (L.take j) ++ L[j].d :: encN L[j].n.v := by rw [take_snoc (by simp at c12; omega), encCs_snoc]; rfl
      have hq1 : (encN L[j].n.v).length ≤ 33 := by have := natBytes_len L[j].n.v 32 (by simpa using L[j].n.h); simp [encN]; omega
      have hap := fun (o : List (List AV)) => append_wrF (first := false) (l := c :: (encCs (L.take j) ++ [L[j].d])) (q := encN L[j].n.v) (tq := .shut) (objs := o) (tk := σ.toks) (gl := σ.gl) (rows := σ.rows) (by omega)
      replace F := And.intro hap F
      refine rg' (h := fun J13 hJ13 => ?_)
      refine hJ13 _ _ ?_
      refine hK12 _ _ ?_
      refine rg' (h := fun J14 hJ14 => ?_)
      refine ca (c := rnum_ok L[j].n.h) (k := ?_)
      rintro _ _ ⟨rfl, rfl⟩
      repeat (first | simp [F] | simp (disch := omega) only [wC, if_pos, if_neg])
      refine hJ14 _ _ ?_
      refine hK11 _ _ ?_
      refine rg' (h := fun J15 hJ15 => ?_)
      refine hJ15 _ _ ?_
      refine ⟨(j + 1), ⟨kp, lp, ?_, lp, ?_⟩, lp⟩
      · simp [e3]
      · simp [e3]
   try exact nope c12
   all_goals have c12p := c12
   all_goals try simp [F] at c12p
   all_goals
    replace F := And.intro c12 F
    try replace F := And.intro c12p F
    refine run_exit ?_
    refine hK5 _ _ ?_
    refine sq fun K16 hK16 => ?_
    refine rg' (h := fun J17 hJ17 => ?_)
    refine hJ17 _ _ ?_
    refine hK16 _ _ ?_
    refine run_ret ?_
    try simp only [Then, InBlock, NoGoto]
    refine answer_tmp rfl (.inr rfl) ?_
    have hfull : L.take j = L := List.take_of_length_le (by simp at c12; omega)
    have e2 : c :: encCs L = encL L := (by simp [encL, hc])
    rw [hfull, e2]
    exact ⟨wk_wrF _ _ _, [], tkF (decide (j = 0)) (encL L), [], by simp⟩

end Go.Proofs.Ytdbaddholggkbaa

/-
  Lists of coins: what both readers make of a list's bytes.
-/
namespace Go.Proofs.Ytdbaddholggkbaa
set_option linter.unnecessarySimpa false
open Go Go.Vm
set_option linter.unusedSimpArgs false
set_option linter.unusedVariables false
set_option maxRecDepth 100000

attribute [local simp] evalL wantedA isCall opA evalA evalAll evalsA evalOpt ofValue ofCell plain binA_eql_pn binA_neq_pn binA_gtr binA_lss binA_geq binA_leq binA_add binA_sub binA_eql binA_neq binA_or binA_shl binA_shr binA_mul binA_quo binA_rem binA_agg_eql binA_agg_neq convA_int unA_not fieldAddrA loadA partA pickA_true pickA_false pickA_bb lenA builtinA storeA splice AV.cells AV.isCell sliceA boundA intA callOf indexAddrA newObjA buildA fillA zeroA ofCells indexA fieldA coinsC_at

def byteS (s : Option (List UInt8)) : UInt8 := (takeB 1 s).headD 0
theorem be_byteS (s : Option (List UInt8)) : be (takeB 1 s) = (byteS s).toNat := by
  have h := takeB_len 1 s
  unfold byteS
  match takeB 1 s, h with
  | [], _ => rfl
  | [b], _ => simp [be]
  | _ :: _ :: _, h => simp at h

theorem numOf_lt (p : List UInt8) : numOf p < 2 ^ 256 := by
  unfold numOf
  split
  · rename_i h
    simp only [numOk, Bool.and_eq_true, decide_eq_true_eq] at h
    exact Nat.lt_of_lt_of_le (be_lt p) (Nat.le_trans (Nat.pow_le_pow_right (by omega) h.1) (by decide))
  · decide

def numN (s : Option (List UInt8)) : Num := ⟨numOf (numB s), numOf_lt _⟩
def coinS (s : Option (List UInt8)) : Coin := ⟨byteS s, numN (takeS 1 s)⟩

/-- What is read of m coins more, where l have been read. -/
def coinsGo : Nat → Option (List UInt8) → List Coin → List Coin × Option (List UInt8)
  | 0, s, l => (l, s)
  | _ + 1, none, l => (l, none)
  | m + 1, some p, l => coinsGo m (numS (takeS 1 (some p))) (l ++ [coinS (some p)])

theorem coinsGo_more {m : Nat} {s : Option (List UInt8)} {l : List Coin} (hm : 0 < m) (hs : ¬ s = none) : coinsGo m s l = coinsGo (m - 1) (numS (takeS 1 s)) (l ++ [coinS s]) := by
  match m, s, hm, hs with
  | m + 1, some p, _, _ => rfl
theorem coinsGo_stop {m : Nat} {s : Option (List UInt8)} {l : List Coin} (h : m = 0 ∨ s = none) : coinsGo m s l = (l, s) := by
  match m, s, h with
  | 0, _, _ => rfl
  | m + 1, none, _ => rfl

def coinsR (s : Option (List UInt8)) : List Coin × Option (List UInt8) := coinsGo (be (takeB 1 s)) (takeS 1 s) []
def coinsS (s : Option (List UInt8)) : Option (List UInt8) := if Right (coinsR s).1 then (coinsR s).2 else none
def coinsL (s : Option (List UInt8)) : List Coin := if coinsS s = none then [] else (coinsR s).1

/-- A list that is being made: the nil list, or one that may be appended to. -/
def slA (k : Nat) (l : List Coin) : AV := if l = [] then .sl 0 [] 0 .full else .sl 5 (coinsC l) l.length (.own k)
def tkA (l : List Coin) : List Nat := if l = [] then [] else [l.length]

theorem wk_slA (k : Nat) (l : List Coin) : Wk (slA k l) (.sl 5 (coinsC l) l.length .shut) := by
  unfold slA
  split
  · rename_i h; subst h; exact Wk.nil _ _ _
  · exact Wk.shut _ _ _ _

@[simp] theorem slA_nil (k : Nat) : slA k [] = .sl 0 [] 0 .full := rfl
@[simp] theorem tkA_nil : tkA [] = [] := rfl

theorem right_slA {σ : St} {k : Nat} {l : List Coin} (hl : l.length ≤ 1000000) : CallsA Try.prog 97 [slA k l] σ (fun av σ' => av = .v (.bool (decide (Right l))) ∧ σ = σ') :=
  callsA_wk (.cons (wk_slA k l) .nil) (right_ok (by omega))
theorem right_nilA {σ : St} : CallsA Try.prog 97 [.sl 0 [] 0 .full] σ (fun av σ' => av = .v (.bool true) ∧ σ = σ') := by
  have := right_slA (σ := σ) (k := 0) (l := []) (by simp)
  have e : decide (Right []) = true := by decide
  rw [e] at this
  exact this
theorem coinS_cells (s : Option (List UInt8)) : AV.v (.int .u8 (be (takeB 1 s) : Nat)) :: numA (numOf (numB (takeS 1 s))) = coinC (coinS s) := by
  rw [be_byteS]; rfl
theorem build_coin (c : Coin) : buildSliceA Try.prog 23 1 [(0, .agg (coinC c))] = some (.sl 5 (coinC c) 1 .full) := by kernel_rfl
class Small (l : List Coin) : Prop where
  h : l.length ≤ 1000

theorem append_slA {l : List Coin} [hsm : Small l] {c : Coin} {objs : List (List AV)} {tk : List Nat} {gl : Nat → Option (List AV)} {rows : List RowSt} :
    appendA Try.prog 23 (slA tk.length l) (.sl 5 (coinC c) 1 .full) ⟨objs, tk ++ tkA l, gl, rows⟩ = some (slA tk.length (l ++ [c]), ⟨objs, tk ++ tkA (l ++ [c]), gl, rows⟩) := by
  have hl := hsm.h
  by_cases h : l = []
  · subst h
    simp [slA, tkA, appendA, readA, roomA, maxLen, coinsC]
    rfl
  · have h1 : (l.length + 1) * 40 ≤ 140737488355328 := by omega
    have h2 : l.length + 1 ≤ 9223372036854775807 := by omega
    simp [slA, tkA, h, appendA, readA, roomA, maxLen, h1, h2, coinsC_snoc]
    rfl
theorem append_nilA {c : Coin} {σ : St} : appendA Try.prog 23 (.sl 0 [] 0 .full) (.sl 5 (coinC c) 1 .full) σ = some (slA σ.toks.length [c], { σ with toks := σ.toks ++ tkA [c] }) := by
  have : Small [] := ⟨by simp⟩
  have := append_slA (l := []) (c := c) (objs := σ.objs) (tk := σ.toks) (gl := σ.gl) (rows := σ.rows)
  simpa using this

structure CSt where
  m : Nat
  s : Option (List UInt8)
  l : List Coin

theorem coinsR_none {s : Option (List UInt8)} {L : List Coin} {S : Option (List UInt8)} (h : coinsR s = (L, S)) (h2 : ¬ Right L ∨ S = none) : coinsL s = [] ∧ coinsS s = none := by
  have e : coinsS s = none := by
    unfold coinsS
    rw [h]
    rcases h2 with h2 | h2
    · rw [if_neg h2]
    · simp [h2]
  exact ⟨by simp [coinsL, e], e⟩
theorem coinsR_some {s : Option (List UInt8)} {L : List Coin} {S : Option (List UInt8)} (h : coinsR s = (L, S)) (h1 : Right L) (h2 : ¬ S = none) : coinsL s = L ∧ coinsS s = S := by
  have e : coinsS s = S := by
    unfold coinsS
    rw [h, if_pos h1]
  exact ⟨by rw [coinsL, e, if_neg h2, h], e⟩

set_option maxHeartbeats 1600000 in
attribute [local simp] undefA List.getElem?_cons_zero List.getElem?_cons_succ coinS_cells build_coin append_nilA append_slA in
theorem rcoins_raw {σ : St} {id : Nat} {s : Option (List UInt8)} (h : σ.objs[id]? = some (rd s)) :
    CallsA Try.prog 82 [.ptr id 0] σ (fun av σ' => av = .sl 5 (coinsC (coinsL s)) (coinsL s).length .shut ∧ σ' = { σ with objs := σ.objs.set id (rd (coinsS s)) }) := by
  refine callsA_gc_obj (Q := fun av σ' => Wk av (.sl 5 (coinsC (coinsL s)) (coinsL s).length .shut) ∧ ∃ l m r, σ' = { σ with objs := σ.objs.set id (rd (coinsS s)) ++ l, toks := σ.toks ++ m, rows := σ.rows ++ r }) ?_ (fun av σ' h => h) (by simp [AV.under]) (rd_under _ _)
  have hs := set_self_of h
  have hm := be_lt1 (takeB_len 1 s)
  have F := And.intro h (And.intro hs (True.intro))
  refine callsA_body Try.func82 rfl rfl rfl ?_
  refine sq fun K1 hK1 => ?_
  refine rg' (h := fun J2 hJ2 => ?_)
  refine hJ2 _ _ ?_
  refine hK1 _ _ ?_
  refine run_scope_jumpsF 0 (X := CSt) [0] (fun q ρ σ1 => (q.m + q.l.length ≤ 255) ∧ (coinsGo q.m q.s q.l = coinsR s) ∧ (ρ 4 = .v (.int .u8 q.m)) ∧ (ρ 3 = slA σ.toks.length q.l) ∧ (σ1 = { σ with objs := σ.objs.set id (rd q.s), toks := σ.toks ++ tkA q.l })) (fun q => q.m) rfl ?first ?pass
  case first =>
   refine sq fun K3 hK3 => ?_
   refine rg' (h := fun J4 hJ4 => ?_)
   refine hJ4 _ _ ?_
   refine hK3 _ _ ?_
   refine sq fun K5 hK5 => ?_
   refine rg' (h := fun J6 hJ6 => ?_)
   refine ca (c := byte_ok (by first | exact h | exact hs _)) (k := ?_)
   rintro _ _ ⟨rfl, rfl⟩
   repeat (first | simp [F] | simp (disch := omega) only [wC, if_pos, if_neg])
   refine hJ6 _ _ ?_
   refine hK5 _ _ ?_
   refine sq fun K7 hK7 => ?_
   refine run_label ?_
   refine hK7 _ _ ?_
   refine sq fun K8 hK8 => ?_
   refine sq fun K9 hK9 => ?_
   refine rg' (h := fun J10 hJ10 => ?_)
   refine gs 10 (fun g3_2 => ?_) (fun g3_2 => ?_)
   · try exact nope g3_2
     all_goals have g3_2p := g3_2
     all_goals try simp [F] at g3_2p
     all_goals
      replace F := And.intro g3_2 F
      try replace F := And.intro g3_2p F
      refine go2 (k := ?_)
      refine ca (c := bad_ok (hs _)) (k := ?_)
      rintro _ _ ⟨rfl, rfl⟩
      repeat (first | simp [F] | simp (disch := omega) only [wC, if_pos, if_neg])
      refine go2 (k := ?_)
      refine hJ10 _ _ ?_
      refine hK9 _ _ ?_
      refine cs (fun c14 => ?_) (fun c14 => ?_)
      · try exact nope c14
        all_goals have c14p := c14
        all_goals try simp [F] at c14p
        all_goals
         replace F := And.intro c14 F
         try replace F := And.intro c14p F
         refine sq fun K11 hK11 => ?_
         refine rg' (h := fun J12 hJ12 => ?_)
         refine ca (c := byte_ok (by first | exact h | exact hs _)) (k := ?_)
         rintro _ _ ⟨rfl, rfl⟩
         repeat (first | simp [F] | simp (disch := omega) only [wC, if_pos, if_neg])
         refine hJ12 _ _ ?_
         refine hK11 _ _ ?_
         refine sq fun K13 hK13 => ?_
         try have : Small q.l := ⟨by omega⟩
         refine rg' (h := fun J14 hJ14 => ?_)
         refine ca (c := num_ok (hs _)) (k := ?_)
         rintro _ _ ⟨rfl, rfl⟩
         repeat (first | simp [F] | simp (disch := omega) only [wC, if_pos, if_neg])
         refine hJ14 _ _ ?_
         refine hK13 _ _ ?_
         refine sq fun K15 hK15 => ?_
         refine rg' (h := fun J16 hJ16 => ?_)
         refine hJ16 _ _ ?_
         refine hK15 _ _ ?_
         refine run_goto ?_
         refine ⟨rfl, (⟨be (takeB 1 s) - 1, numS (takeS 1 (takeS 1 s)), [coinS (takeS 1 s)]⟩), ⟨kp, lp, ?_, lp, lp, lp⟩⟩
         · exact (coinsGo_more (l := []) g3_2p (by intro e; simp [e] at c14p)).symm
      try exact nope c14
      all_goals have c14p := c14
      all_goals try simp [F] at c14p
      all_goals
       replace F := And.intro c14 F
       try replace F := And.intro c14p F
       refine run_skip ?_
       refine hK8 _ _ ?_
       refine sq fun K17 hK17 => ?_
       refine sq fun K18 hK18 => ?_
       refine rg' (h := fun J19 hJ19 => ?_)
       refine ca (c := (by first | exact right_nilA | exact right_slA (by omega))) (k := ?_)
       rintro _ _ ⟨rfl, rfl⟩
       repeat (first | simp [F] | simp (disch := omega) only [wC, if_pos, if_neg])
       refine hJ19 _ _ ?_
       refine hK18 _ _ ?_
       refine cs (fun c28 => ?_) (fun c28 => ?_)
       · try exact nope c28
         all_goals have c28p := c28
         all_goals try simp [F] at c28p
         all_goals
          replace F := And.intro c28 F
          try replace F := And.intro c28p F
          refine rg' (h := fun J20 hJ20 => ?_)
          refine ca (c := fail_ok (hs _)) (k := ?_)
          rintro _ _ ⟨rfl, rfl⟩
          repeat (first | simp [F] | simp (disch := omega) only [wC, if_pos, if_neg])
          refine hJ20 _ _ ?_
          refine hK17 _ _ ?_
          refine sq fun K21 hK21 => ?_
          refine sq fun K22 hK22 => ?_
          refine rg' (h := fun J23 hJ23 => ?_)
          refine ca (c := bad_ok (hs _)) (k := ?_)
          rintro _ _ ⟨rfl, rfl⟩
          repeat (first | simp [F] | simp (disch := omega) only [wC, if_pos, if_neg])
          refine hJ23 _ _ ?_
          refine hK22 _ _ ?_
          refine cs (fun c32 => ?_) (fun c32 => ?_)
          · try exact nope c32
            all_goals have c32p := c32
            all_goals try simp [F] at c32p
            all_goals
             replace F := And.intro c32 F
             try replace F := And.intro c32p F
             refine sq fun K24 hK24 => ?_
             refine rg' (h := fun J25 hJ25 => ?_)
             refine hJ25 _ _ ?_
             refine hK24 _ _ ?_
             refine run_ret ?_
             try simp only [Then, InBlock, NoGoto]
             refine answer_tmp rfl (.inr rfl) ?_
             have e : coinsR s = (q.l, q.s) := by rw [← hg]; exact coinsGo_stop (by first | (left; simp at g3_2; omega) | (right; simpa using c14))
             obtain ⟨e1, e2⟩ := coinsR_none e (.inl (by simpa using c28))
             rw [e1, e2]
             exact ⟨Wk.nil _ _ _, [], tkA q.l, [], by simp⟩
          try exact nope c32
          all_goals have c32p := c32
          all_goals try simp [F] at c32p
          all_goals
           replace F := And.intro c32 F
           try replace F := And.intro c32p F
           refine run_skip ?_
           refine hK21 _ _ ?_
           refine sq fun K26 hK26 => ?_
           refine rg' (h := fun J27 hJ27 => ?_)
           refine hJ27 _ _ ?_
           refine hK26 _ _ ?_
           refine run_ret ?_
           try simp only [Then, InBlock, NoGoto]
           refine answer_tmp rfl (.inr rfl) ?_
           have e : coinsR s = (q.l, q.s) := by rw [← hg]; exact coinsGo_stop (by first | (left; simp at g3_2; omega) | (right; simpa using c14))
           obtain ⟨e1, e2⟩ := coinsR_none e (.inl (by simpa using c28))
           rw [e1, e2]
           exact ⟨Wk.nil _ _ _, [], tkA q.l, [], by simp⟩
       try exact nope c28
       all_goals have c28p := c28
       all_goals try simp [F] at c28p
       all_goals
        replace F := And.intro c28 F
        try replace F := And.intro c28p F
        refine run_skip ?_
        refine hK17 _ _ ?_
        refine sq fun K28 hK28 => ?_
        refine sq fun K29 hK29 => ?_
        refine rg' (h := fun J30 hJ30 => ?_)
        refine ca (c := bad_ok (hs _)) (k := ?_)
        rintro _ _ ⟨rfl, rfl⟩
        repeat (first | simp [F] | simp (disch := omega) only [wC, if_pos, if_neg])
        refine hJ30 _ _ ?_
        refine hK29 _ _ ?_
        refine cs (fun c32 => ?_) (fun c32 => ?_)
        · try exact nope c32
          all_goals have c32p := c32
          all_goals try simp [F] at c32p
          all_goals
           replace F := And.intro c32 F
           try replace F := And.intro c32p F
           refine sq fun K31 hK31 => ?_
           refine rg' (h := fun J32 hJ32 => ?_)
           refine hJ32 _ _ ?_
           refine hK31 _ _ ?_
           refine run_ret ?_
           try simp only [Then, InBlock, NoGoto]
           refine answer_tmp rfl (.inr rfl) ?_
           first | (obtain ⟨e1, e2⟩ := coinsR_none (L := q.l) (S := q.s) (by rw [← hg]; exact coinsGo_stop (.inr (by simpa using c14))) (.inr (by simpa using c14)); rw [e1, e2]; exact ⟨Wk.nil _ _ _, [], tkA q.l, [], by simp⟩) | (have h0 : takeS 1 s = none := (by simpa using c14); obtain ⟨e1, e2⟩ := coinsR_none (by rw [coinsR, coinsGo_stop (.inr h0)]) (.inr h0); rw [e1, e2]; exact ⟨Wk.nil _ _ _, [], [], [], by simp⟩)
        try exact nope c32
        all_goals have c32p := c32
        all_goals try simp [F] at c32p
        all_goals
         replace F := And.intro c32 F
         try replace F := And.intro c32p F
         refine run_skip ?_
         refine hK28 _ _ ?_
         refine sq fun K33 hK33 => ?_
         refine rg' (h := fun J34 hJ34 => ?_)
         refine hJ34 _ _ ?_
         refine hK33 _ _ ?_
         refine run_ret ?_
         try simp only [Then, InBlock, NoGoto]
         refine answer_tmp rfl (.inr rfl) ?_
         first | (obtain ⟨e1, e2⟩ := coinsR_none (L := q.l) (S := q.s) (by rw [← hg]; exact coinsGo_stop (.inr (by simpa using c14))) (.inr (by simpa using c14)); rw [e1, e2]; exact ⟨Wk.nil _ _ _, [], tkA q.l, [], by simp⟩) | (have h0 : takeS 1 s = none := (by simpa using c14); obtain ⟨e1, e2⟩ := coinsR_none (by rw [coinsR, coinsGo_stop (.inr h0)]) (.inr h0); rw [e1, e2]; exact ⟨Wk.nil _ _ _, [], [], [], by simp⟩)
   try exact nope g3_2
   all_goals have g3_2p := g3_2
   all_goals try simp [F] at g3_2p
   all_goals
    replace F := And.intro g3_2 F
    try replace F := And.intro g3_2p F
    refine no2 (k := ?_)
    refine no2 (k := ?_)
    refine no2 (k := ?_)
    refine hJ10 _ _ ?_
    refine hK9 _ _ ?_
    refine cf ?_
    refine run_skip ?_
    refine hK8 _ _ ?_
    refine sq fun K35 hK35 => ?_
    refine sq fun K36 hK36 => ?_
    refine rg' (h := fun J37 hJ37 => ?_)
    refine ca (c := (by first | exact right_nilA | exact right_slA (by omega))) (k := ?_)
    rintro _ _ ⟨rfl, rfl⟩
    repeat (first | simp [F] | simp (disch := omega) only [wC, if_pos, if_neg])
    refine hJ37 _ _ ?_
    refine hK36 _ _ ?_
    refine cs (fun c28 => ?_) (fun c28 => ?_)
    · try exact nope c28
      all_goals have c28p := c28
      all_goals try simp [F] at c28p
      all_goals
       replace F := And.intro c28 F
       try replace F := And.intro c28p F
       refine rg' (h := fun J38 hJ38 => ?_)
       refine ca (c := fail_ok (hs _)) (k := ?_)
       rintro _ _ ⟨rfl, rfl⟩
       repeat (first | simp [F] | simp (disch := omega) only [wC, if_pos, if_neg])
       refine hJ38 _ _ ?_
       refine hK35 _ _ ?_
       refine sq fun K39 hK39 => ?_
       refine sq fun K40 hK40 => ?_
       refine rg' (h := fun J41 hJ41 => ?_)
       refine ca (c := bad_ok (hs _)) (k := ?_)
       rintro _ _ ⟨rfl, rfl⟩
       repeat (first | simp [F] | simp (disch := omega) only [wC, if_pos, if_neg])
       refine hJ41 _ _ ?_
       refine hK40 _ _ ?_
       refine cs (fun c32 => ?_) (fun c32 => ?_)
       · try exact nope c32
         all_goals have c32p := c32
         all_goals try simp [F] at c32p
         all_goals
          replace F := And.intro c32 F
          try replace F := And.intro c32p F
          refine sq fun K42 hK42 => ?_
          refine rg' (h := fun J43 hJ43 => ?_)
          refine hJ43 _ _ ?_
          refine hK42 _ _ ?_
          refine run_ret ?_
          try simp only [Then, InBlock, NoGoto]
          refine answer_tmp rfl (.inr rfl) ?_
          have e : coinsR s = (q.l, q.s) := by rw [← hg]; exact coinsGo_stop (by first | (left; simp at g3_2; omega) | (right; simpa using c14))
          obtain ⟨e1, e2⟩ := coinsR_none e (.inl (by simpa using c28))
          rw [e1, e2]
          exact ⟨Wk.nil _ _ _, [], tkA q.l, [], by simp⟩
       try exact nope c32
       all_goals have c32p := c32
       all_goals try simp [F] at c32p
       all_goals
        replace F := And.intro c32 F
        try replace F := And.intro c32p F
        refine run_skip ?_
        refine hK39 _ _ ?_
        refine sq fun K44 hK44 => ?_
        refine rg' (h := fun J45 hJ45 => ?_)
        refine hJ45 _ _ ?_
        refine hK44 _ _ ?_
        refine run_ret ?_
        try simp only [Then, InBlock, NoGoto]
        refine answer_tmp rfl (.inr rfl) ?_
        have e : coinsR s = (q.l, q.s) := by rw [← hg]; exact coinsGo_stop (by first | (left; simp at g3_2; omega) | (right; simpa using c14))
        obtain ⟨e1, e2⟩ := coinsR_none e (.inl (by simpa using c28))
        rw [e1, e2]
        exact ⟨Wk.nil _ _ _, [], tkA q.l, [], by simp⟩
    try exact nope c28
    all_goals have c28p := c28
    all_goals try simp [F] at c28p
    all_goals
     replace F := And.intro c28 F
     try replace F := And.intro c28p F
     refine run_skip ?_
     refine hK35 _ _ ?_
     refine sq fun K46 hK46 => ?_
     refine sq fun K47 hK47 => ?_
     refine rg' (h := fun J48 hJ48 => ?_)
     refine ca (c := bad_ok (hs _)) (k := ?_)
     rintro _ _ ⟨rfl, rfl⟩
     repeat (first | simp [F] | simp (disch := omega) only [wC, if_pos, if_neg])
     refine hJ48 _ _ ?_
     refine hK47 _ _ ?_
     refine cs (fun c32 => ?_) (fun c32 => ?_)
     · try exact nope c32
       all_goals have c32p := c32
       all_goals try simp [F] at c32p
       all_goals
        replace F := And.intro c32 F
        try replace F := And.intro c32p F
        refine sq fun K49 hK49 => ?_
        refine rg' (h := fun J50 hJ50 => ?_)
        refine hJ50 _ _ ?_
        refine hK49 _ _ ?_
        refine run_ret ?_
        try simp only [Then, InBlock, NoGoto]
        refine answer_tmp rfl (.inr rfl) ?_
        first | (obtain ⟨e1, e2⟩ := coinsR_none (L := q.l) (S := q.s) (by rw [← hg]; exact coinsGo_stop (.inr (by simpa using c32))) (.inr (by simpa using c32)); rw [e1, e2]; exact ⟨Wk.nil _ _ _, [], tkA q.l, [], by simp⟩) | (have h0 : takeS 1 s = none := (by simpa using c32); obtain ⟨e1, e2⟩ := coinsR_none (by rw [coinsR, coinsGo_stop (.inr h0)]) (.inr h0); rw [e1, e2]; exact ⟨Wk.nil _ _ _, [], [], [], by simp⟩)
     try exact nope c32
     all_goals have c32p := c32
     all_goals try simp [F] at c32p
     all_goals
      replace F := And.intro c32 F
      try replace F := And.intro c32p F
      refine run_skip ?_
      refine hK46 _ _ ?_
      refine sq fun K51 hK51 => ?_
      refine rg' (h := fun J52 hJ52 => ?_)
      refine hJ52 _ _ ?_
      refine hK51 _ _ ?_
      refine run_ret ?_
      try simp only [Then, InBlock, NoGoto]
      refine answer_tmp rfl (.inr rfl) ?_
      first | (obtain ⟨e1, e2⟩ := coinsR_some (L := q.l) (S := q.s) (by rw [← hg]; exact coinsGo_stop (.inl (by simp at g3_2; omega))) (by simpa using c28) (by intro e; simp [e] at c32); rw [e1, e2]; exact ⟨wk_slA _ _, [], tkA q.l, [], by simp⟩) | (have h0 : be (takeB 1 s) = 0 := (by simp at g3_2; omega); obtain ⟨e1, e2⟩ := coinsR_some (by rw [coinsR, coinsGo_stop (.inl h0)]) (by decide) (by intro e; simp [e] at c32); rw [e1, e2]; exact ⟨Wk.nil _ _ _, [], [], [], by simp⟩)
  case pass =>
   rintro q ρgoto σ1 hFgoto ⟨hm, hg, h4, h3, hσ⟩
   obtain rfl := hσ.symm
   have fgoto := keepL hFgoto
   try simp [KeepL, F] at fgoto
   replace F := And.intro h4 F
   replace F := And.intro h3 F
   try replace F := And.intro fgoto F
   refine sq fun K53 hK53 => ?_
   refine run_skip ?_
   refine hK53 _ _ ?_
   refine sq fun K54 hK54 => ?_
   refine sq fun K55 hK55 => ?_
   refine rg' (h := fun J56 hJ56 => ?_)
   refine gs 10 (fun g3_2 => ?_) (fun g3_2 => ?_)
   · try exact nope g3_2
     all_goals have g3_2p := g3_2
     all_goals try simp [F] at g3_2p
     all_goals
      replace F := And.intro g3_2 F
      try replace F := And.intro g3_2p F
      refine go2 (k := ?_)
      refine ca (c := bad_ok (hs _)) (k := ?_)
      rintro _ _ ⟨rfl, rfl⟩
      repeat (first | simp [F] | simp (disch := omega) only [wC, if_pos, if_neg])
      refine go2 (k := ?_)
      refine hJ56 _ _ ?_
      refine hK55 _ _ ?_
      refine cs (fun c14 => ?_) (fun c14 => ?_)
      · try exact nope c14
        all_goals have c14p := c14
        all_goals try simp [F] at c14p
        all_goals
         replace F := And.intro c14 F
         try replace F := And.intro c14p F
         refine sq fun K57 hK57 => ?_
         refine rg' (h := fun J58 hJ58 => ?_)
         refine ca (c := byte_ok (by first | exact h | exact hs _)) (k := ?_)
         rintro _ _ ⟨rfl, rfl⟩
         repeat (first | simp [F] | simp (disch := omega) only [wC, if_pos, if_neg])
         refine hJ58 _ _ ?_
         refine hK57 _ _ ?_
         refine sq fun K59 hK59 => ?_
         try have : Small q.l := ⟨by omega⟩
         refine rg' (h := fun J60 hJ60 => ?_)
         refine ca (c := num_ok (hs _)) (k := ?_)
         rintro _ _ ⟨rfl, rfl⟩
         repeat (first | simp [F] | simp (disch := omega) only [wC, if_pos, if_neg])
         refine hJ60 _ _ ?_
         refine hK59 _ _ ?_
         refine sq fun K61 hK61 => ?_
         refine rg' (h := fun J62 hJ62 => ?_)
         refine hJ62 _ _ ?_
         refine hK61 _ _ ?_
         refine run_goto ?_
         refine ⟨rfl, (⟨q.m - 1, numS (takeS 1 q.s), q.l ++ [coinS q.s]⟩), ⟨kp, ?_, ?_, lp, lp, ?_⟩, ?_⟩
         · simp
           omega
         · rw [← hg]
           exact (coinsGo_more g3_2p (by intro e; simp [e] at c14p)).symm
         · rfl
         · simp
           omega
      try exact nope c14
      all_goals have c14p := c14
      all_goals try simp [F] at c14p
      all_goals
       replace F := And.intro c14 F
       try replace F := And.intro c14p F
       refine run_skip ?_
       refine hK54 _ _ ?_
       refine sq fun K63 hK63 => ?_
       refine sq fun K64 hK64 => ?_
       refine rg' (h := fun J65 hJ65 => ?_)
       refine ca (c := (by first | exact right_nilA | exact right_slA (by omega))) (k := ?_)
       rintro _ _ ⟨rfl, rfl⟩
       repeat (first | simp [F] | simp (disch := omega) only [wC, if_pos, if_neg])
       refine hJ65 _ _ ?_
       refine hK64 _ _ ?_
       refine cs (fun c28 => ?_) (fun c28 => ?_)
       · try exact nope c28
         all_goals have c28p := c28
         all_goals try simp [F] at c28p
         all_goals
          replace F := And.intro c28 F
          try replace F := And.intro c28p F
          refine rg' (h := fun J66 hJ66 => ?_)
          refine ca (c := fail_ok (hs _)) (k := ?_)
          rintro _ _ ⟨rfl, rfl⟩
          repeat (first | simp [F] | simp (disch := omega) only [wC, if_pos, if_neg])
          refine hJ66 _ _ ?_
          refine hK63 _ _ ?_
          refine sq fun K67 hK67 => ?_
          refine sq fun K68 hK68 => ?_
          refine rg' (h := fun J69 hJ69 => ?_)
          refine ca (c := bad_ok (hs _)) (k := ?_)
          rintro _ _ ⟨rfl, rfl⟩
          repeat (first | simp [F] | simp (disch := omega) only [wC, if_pos, if_neg])
          refine hJ69 _ _ ?_
          refine hK68 _ _ ?_
          refine cs (fun c32 => ?_) (fun c32 => ?_)
          · try exact nope c32
            all_goals have c32p := c32
            all_goals try simp [F] at c32p
            all_goals
             replace F := And.intro c32 F
             try replace F := And.intro c32p F
             refine sq fun K70 hK70 => ?_
             refine rg' (h := fun J71 hJ71 => ?_)
             refine hJ71 _ _ ?_
             refine hK70 _ _ ?_
             refine run_ret ?_
             try simp only [Then, InBlock, NoGoto]
             refine answer_tmp rfl (.inr rfl) ?_
             have e : coinsR s = (q.l, q.s) := by rw [← hg]; exact coinsGo_stop (by first | (left; simp at g3_2; omega) | (right; simpa using c14))
             obtain ⟨e1, e2⟩ := coinsR_none e (.inl (by simpa using c28))
             rw [e1, e2]
             exact ⟨Wk.nil _ _ _, [], tkA q.l, [], by simp⟩
          try exact nope c32
          all_goals have c32p := c32
          all_goals try simp [F] at c32p
          all_goals
           replace F := And.intro c32 F
           try replace F := And.intro c32p F
           refine run_skip ?_
           refine hK67 _ _ ?_
           refine sq fun K72 hK72 => ?_
           refine rg' (h := fun J73 hJ73 => ?_)
           refine hJ73 _ _ ?_
           refine hK72 _ _ ?_
           refine run_ret ?_
           try simp only [Then, InBlock, NoGoto]
           refine answer_tmp rfl (.inr rfl) ?_
           have e : coinsR s = (q.l, q.s) := by rw [← hg]; exact coinsGo_stop (by first | (left; simp at g3_2; omega) | (right; simpa using c14))
           obtain ⟨e1, e2⟩ := coinsR_none e (.inl (by simpa using c28))
           rw [e1, e2]
           exact ⟨Wk.nil _ _ _, [], tkA q.l, [], by simp⟩
       try exact nope c28
       all_goals have c28p := c28
       all_goals try simp [F] at c28p
       all_goals
        replace F := And.intro c28 F
        try replace F := And.intro c28p F
        refine run_skip ?_
        refine hK63 _ _ ?_
        refine sq fun K74 hK74 => ?_
        refine sq fun K75 hK75 => ?_
        refine rg' (h := fun J76 hJ76 => ?_)
        refine ca (c := bad_ok (hs _)) (k := ?_)
        rintro _ _ ⟨rfl, rfl⟩
        repeat (first | simp [F] | simp (disch := omega) only [wC, if_pos, if_neg])
        refine hJ76 _ _ ?_
        refine hK75 _ _ ?_
        refine cs (fun c32 => ?_) (fun c32 => ?_)
        · try exact nope c32
          all_goals have c32p := c32
          all_goals try simp [F] at c32p
          all_goals
           replace F := And.intro c32 F
           try replace F := And.intro c32p F
           refine sq fun K77 hK77 => ?_
           refine rg' (h := fun J78 hJ78 => ?_)
           refine hJ78 _ _ ?_
           refine hK77 _ _ ?_
           refine run_ret ?_
           try simp only [Then, InBlock, NoGoto]
           refine answer_tmp rfl (.inr rfl) ?_
           first | (obtain ⟨e1, e2⟩ := coinsR_none (L := q.l) (S := q.s) (by rw [← hg]; exact coinsGo_stop (.inr (by simpa using c14))) (.inr (by simpa using c14)); rw [e1, e2]; exact ⟨Wk.nil _ _ _, [], tkA q.l, [], by simp⟩) | (have h0 : takeS 1 s = none := (by simpa using c14); obtain ⟨e1, e2⟩ := coinsR_none (by rw [coinsR, coinsGo_stop (.inr h0)]) (.inr h0); rw [e1, e2]; exact ⟨Wk.nil _ _ _, [], [], [], by simp⟩)
        try exact nope c32
        all_goals have c32p := c32
        all_goals try simp [F] at c32p
        all_goals
         replace F := And.intro c32 F
         try replace F := And.intro c32p F
         refine run_skip ?_
         refine hK74 _ _ ?_
         refine sq fun K79 hK79 => ?_
         refine rg' (h := fun J80 hJ80 => ?_)
         refine hJ80 _ _ ?_
         refine hK79 _ _ ?_
         refine run_ret ?_
         try simp only [Then, InBlock, NoGoto]
         refine answer_tmp rfl (.inr rfl) ?_
         first | (obtain ⟨e1, e2⟩ := coinsR_none (L := q.l) (S := q.s) (by rw [← hg]; exact coinsGo_stop (.inr (by simpa using c14))) (.inr (by simpa using c14)); rw [e1, e2]; exact ⟨Wk.nil _ _ _, [], tkA q.l, [], by simp⟩) | (have h0 : takeS 1 s = none := (by simpa using c14); obtain ⟨e1, e2⟩ := coinsR_none (by rw [coinsR, coinsGo_stop (.inr h0)]) (.inr h0); rw [e1, e2]; exact ⟨Wk.nil _ _ _, [], [], [], by simp⟩)
   try exact nope g3_2
   all_goals have g3_2p := g3_2
   all_goals try simp [F] at g3_2p
   all_goals
    replace F := And.intro g3_2 F
    try replace F := And.intro g3_2p F
    refine no2 (k := ?_)
    refine no2 (k := ?_)
    refine no2 (k := ?_)
    refine hJ56 _ _ ?_
    refine hK55 _ _ ?_
    refine cf ?_
    refine run_skip ?_
    refine hK54 _ _ ?_
    refine sq fun K81 hK81 => ?_
    refine sq fun K82 hK82 => ?_
    refine rg' (h := fun J83 hJ83 => ?_)
    refine ca (c := (by first | exact right_nilA | exact right_slA (by omega))) (k := ?_)
    rintro _ _ ⟨rfl, rfl⟩
    repeat (first | simp [F] | simp (disch := omega) only [wC, if_pos, if_neg])
    refine hJ83 _ _ ?_
    refine hK82 _ _ ?_
    refine cs (fun c28 => ?_) (fun c28 => ?_)
    · try exact nope c28
      all_goals have c28p := c28
      all_goals try simp [F] at c28p
      all_goals
       replace F := And.intro c28 F
       try replace F := And.intro c28p F
       refine rg' (h := fun J84 hJ84 => ?_)
       refine ca (c := fail_ok (hs _)) (k := ?_)
       rintro _ _ ⟨rfl, rfl⟩
       repeat (first | simp [F] | simp (disch := omega) only [wC, if_pos, if_neg])
       refine hJ84 _ _ ?_
       refine hK81 _ _ ?_
       refine sq fun K85 hK85 => ?_
       refine sq fun K86 hK86 => ?_
       refine rg' (h := fun J87 hJ87 => ?_)
       refine ca (c := bad_ok (hs _)) (k := ?_)
       rintro _ _ ⟨rfl, rfl⟩
       repeat (first | simp [F] | simp (disch := omega) only [wC, if_pos, if_neg])
       refine hJ87 _ _ ?_
       refine hK86 _ _ ?_
       refine cs (fun c32 => ?_) (fun c32 => ?_)
       · try exact nope c32
         all_goals have c32p := c32
         all_goals try simp [F] at c32p
         all_goals
          replace F := And.intro c32 F
          try replace F := And.intro c32p F
          refine sq fun K88 hK88 => ?_
          refine rg' (h := fun J89 hJ89 => ?_)
          refine hJ89 _ _ ?_
          refine hK88 _ _ ?_
          refine run_ret ?_
          try simp only [Then, InBlock, NoGoto]
          refine answer_tmp rfl (.inr rfl) ?_
          have e : coinsR s = (q.l, q.s) := by rw [← hg]; exact coinsGo_stop (by first | (left; simp at g3_2; omega) | (right; simpa using c14))
          obtain ⟨e1, e2⟩ := coinsR_none e (.inl (by simpa using c28))
          rw [e1, e2]
          exact ⟨Wk.nil _ _ _, [], tkA q.l, [], by simp⟩
       try exact nope c32
       all_goals have c32p := c32
       all_goals try simp [F] at c32p
       all_goals
        replace F := And.intro c32 F
        try replace F := And.intro c32p F
        refine run_skip ?_
        refine hK85 _ _ ?_
        refine sq fun K90 hK90 => ?_
        refine rg' (h := fun J91 hJ91 => ?_)
        refine hJ91 _ _ ?_
        refine hK90 _ _ ?_
        refine run_ret ?_
        try simp only [Then, InBlock, NoGoto]
        refine answer_tmp rfl (.inr rfl) ?_
        have e : coinsR s = (q.l, q.s) := by rw [← hg]; exact coinsGo_stop (by first | (left; simp at g3_2; omega) | (right; simpa using c14))
        obtain ⟨e1, e2⟩ := coinsR_none e (.inl (by simpa using c28))
        rw [e1, e2]
        exact ⟨Wk.nil _ _ _, [], tkA q.l, [], by simp⟩
    try exact nope c28
    all_goals have c28p := c28
    all_goals try simp [F] at c28p
    all_goals
     replace F := And.intro c28 F
     try replace F := And.intro c28p F
     refine run_skip ?_
     refine hK81 _ _ ?_
     refine sq fun K92 hK92 => ?_
     refine sq fun K93 hK93 => ?_
     refine rg' (h := fun J94 hJ94 => ?_)
     refine ca (c := bad_ok (hs _)) (k := ?_)
     rintro _ _ ⟨rfl, rfl⟩
     repeat (first | simp [F] | simp (disch := omega) only [wC, if_pos, if_neg])
     refine hJ94 _ _ ?_
     refine hK93 _ _ ?_
     refine cs (fun c32 => ?_) (fun c32 => ?_)
     · try exact nope c32
       all_goals have c32p := c32
       all_goals try simp [F] at c32p
       all_goals
        replace F := And.intro c32 F
        try replace F := And.intro c32p F
        refine sq fun K95 hK95 => ?_
        refine rg' (h := fun J96 hJ96 => ?_)
        refine hJ96 _ _ ?_
        refine hK95 _ _ ?_
        refine run_ret ?_
        try simp only [Then, InBlock, NoGoto]
        refine answer_tmp rfl (.inr rfl) ?_
        first | (obtain ⟨e1, e2⟩ := coinsR_none (L := q.l) (S := q.s) (by rw [← hg]; exact coinsGo_stop (.inr (by simpa using c32))) (.inr (by simpa using c32)); rw [e1, e2]; exact ⟨Wk.nil _ _ _, [], tkA q.l, [], by simp⟩) | (have h0 : takeS 1 s = none := (by simpa using c32); obtain ⟨e1, e2⟩ := coinsR_none (by rw [coinsR, coinsGo_stop (.inr h0)]) (.inr h0); rw [e1, e2]; exact ⟨Wk.nil _ _ _, [], [], [], by simp⟩)
     try exact nope c32
     all_goals have c32p := c32
     all_goals try simp [F] at c32p
     all_goals
      replace F := And.intro c32 F
      try replace F := And.intro c32p F
      refine run_skip ?_
      refine hK92 _ _ ?_
      refine sq fun K97 hK97 => ?_
      refine rg' (h := fun J98 hJ98 => ?_)
      refine hJ98 _ _ ?_
      refine hK97 _ _ ?_
      refine run_ret ?_
      try simp only [Then, InBlock, NoGoto]
      refine answer_tmp rfl (.inr rfl) ?_
      first | (obtain ⟨e1, e2⟩ := coinsR_some (L := q.l) (S := q.s) (by rw [← hg]; exact coinsGo_stop (.inl (by simp at g3_2; omega))) (by simpa using c28) (by intro e; simp [e] at c32); rw [e1, e2]; exact ⟨wk_slA _ _, [], tkA q.l, [], by simp⟩) | (have h0 : be (takeB 1 s) = 0 := (by simp at g3_2; omega); obtain ⟨e1, e2⟩ := coinsR_some (by rw [coinsR, coinsGo_stop (.inl h0)]) (by decide) (by intro e; simp [e] at c32); rw [e1, e2]; exact ⟨Wk.nil _ _ _, [], [], [], by simp⟩)

theorem coinsGo_len : ∀ (m : Nat) (s : Option (List UInt8)) (l : List Coin), (coinsGo m s l).1.length ≤ m + l.length
  | 0, _, _ => by simp [coinsGo]
  | m + 1, none, l => by simp [coinsGo]
  | m + 1, some p, l => by
    have := coinsGo_len m (numS (takeS 1 (some p))) (l ++ [coinS (some p)])
    simp only [coinsGo, List.length_append, List.length_cons, List.length_nil] at this ⊢
    omega
theorem coinsL_le (s : Option (List UInt8)) : (coinsL s).length ≤ 255 := by
  unfold coinsL
  split
  · simp
  · have := coinsGo_len (be (takeB 1 s)) (takeS 1 s) []
    have hm := be_lt1 (takeB_len 1 s)
    simp only [List.length_nil] at this
    unfold coinsR
    omega

end Go.Proofs.Ytdbaddholggkbaa
