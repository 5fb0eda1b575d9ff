import Derived.Test.YtdbaddholggkbaaZ7
import Derived.Test.YtdbaddholggkbaaZ12
/-
  Are two plans alike, by the document..
-/
namespace Go.Proofs.Ytdbaddholggkbaa
set_option linter.unnecessarySimpa false
set_option maxRecDepth 100000
open Go Go.Vm
set_option linter.unusedSimpArgs false
set_option linter.unusedVariables false
attribute [local simp] evalL wantedA isCall opA evalA evalAll evalsA evalOpt ofValue ofCell plain binA_eql_pn binA_neq_pn binA_gtr binA_lss binA_geq binA_leq binA_add binA_sub binA_eql binA_neq binA_orI binA_andI binA_shl binA_shr binA_mul binA_quo binA_rem binA_agg_eql binA_agg_neq convA_int unA_not fieldAddrA loadA partA pickA_true pickA_false pickA_bb lenA builtinA storeA splice AV.cells AV.isCell sliceA boundA intA callOf indexAddrA newObjA buildA fillA zeroA ofCells buildSliceA indexA fieldA numA_len4 numA_take4 numA_drop4 set_appN get_appN take_appN List.getElem?_cons_zero List.getElem?_cons_succ makeA zeros64

set_option maxHeartbeats 1600000 in
attribute [local simp] undefA List.getElem?_cons_zero List.getElem?_cons_succ plnC perC persC_noObj in
theorem rplsame_ok {σ : St} {a b : Pln} (ha : a.Ok) (hb : b.Ok) :
    CallsA Try.prog 31 [.agg (plnC a), .agg (plnC b)] σ (fun av σ' => av = .v (.bool (decide (a = b))) ∧ σ = σ') := by
  refine callsA_gcS ?_ rfl
  obtain ⟨D, hD⟩ : ∃ D, D = decide (a = b) := ⟨_, rfl⟩
  rw [← hD]
  obtain ⟨ak, a1, a2, a3, a4⟩ := a
  obtain ⟨bk, b1, b2, b3, b4⟩ := b
  obtain ⟨ha1, ha2, ha3, ha4, ha5⟩ := ha
  obtain ⟨hb1, hb2, hb3, hb4, hb5⟩ := hb
  simp only [Pln.mk.injEq] at *
  have hno : ¬ (ak = bk ∧ a1 = b1 ∧ a2 = b2 ∧ a3 = b3 ∧ a4 = b4) → D = false := fun h => by rw [hD]; exact decide_eq_false h
  have hyes : ak = bk → a1 = b1 → a2 = b2 → a3 = b3 → a4 = b4 → D = true := fun h1 h2 h3 h4 h5 => by rw [hD]; exact decide_eq_true ⟨h1, h2, h3, h4, h5⟩
  clear hD
  obtain ⟨B, hB⟩ : ∃ B, B = !(decide (ak = bk) && decide (a1 = b1) && decide (a2 = b2) && decide (a3 = b3) && decide (a4.length = b4.length)) := ⟨_, rfl⟩
  have F := True.intro
  refine callsA_body Try.func31 rfl rfl rfl ?_; refine sr fun _ hJ2 => ?_; refine hJ2 _ _ ?_; refine sq fun K3 hK3 => ?_; refine sqc (X := Unit) [2, 3, 4] (fun k ρ σ1 => (ρ 41 = .v (.bool B)) ∧ (σ1 = { σ with objs := σ.objs ++ [[.v (.int .u8 ak.toNat), .v (.int .u64 a1), .v (.int .u64 a2), .sl 5 (coinsC a3) a3.length .shut, .sl 2 (persC a4) a4.length .shut], [.v (.int .u8 bk.toNat), .v (.int .u64 b1), .v (.int .u64 b2), .sl 5 (coinsC b3) b3.length .shut, .sl 2 (persC b4) b4.length .shut]] })) ?cy4 ?cx4
  case cy4 =>
   rintro k ρCr1 σ1 hFCr1 ⟨h41, hσ⟩; obtain rfl := hσ.symm
   have fCr1 := keepL hFCr1
   (try simp [KeepL, F] at fCr1); replace F := aF h41 F; (try replace F := aF fCr1 F); refine cs (t := B) (fun c41 => ?_) (fun c41 => ?_)
   · (try exact nope c41); all_goals have c41p := c41; try simp [F] at c41p
     all_goals
      replace F := aF c41 F; try replace F := aF c41p F
      have h0 : D = false := hno (fun ⟨e1, e2, e3, e4, e5⟩ => by rw [hB, e1, e2, e3, e4, e5] at c41; simp at c41)
      replace F := aF h0 F; refine sr fun _ hJ6 => ?_; refine hJ6 _ _ ?_; refine ra ?_; exact gcr
   (try exact nope c41); all_goals have c41p := c41; try simp [F] at c41p
   all_goals
    replace F := aF c41 F; try replace F := aF c41p F
    obtain ⟨e1, e2, e3, e4, e5⟩ : ak = bk ∧ a1 = b1 ∧ a2 = b2 ∧ a3 = b3 ∧ a4.length = b4.length := by rw [hB] at c41; simp at c41; obtain ⟨⟨⟨⟨h1, h2⟩, h3⟩, h4⟩, h5⟩ := c41; exact ⟨h1, h2, h3, h4, h5⟩
    refine run_skip ?_; refine hK3 _ _ ?_; refine sq fun K7 hK7 => ?_; refine sr fun _ hJ9 => ?_; refine hJ9 _ _ ?_; refine run_block_k ?_; refine run_loopF (X := Nat) [2, 3] (fun i ρ σ1 => (i ≤ a4.length) ∧ (a4.take i = b4.take i) ∧ (ρ 5 = .v (.int .i64 i)) ∧ (σ1 = { σ with objs := σ.objs ++ [[.v (.int .u8 ak.toNat), .v (.int .u64 a1), .v (.int .u64 a2), .sl 5 (coinsC a3) a3.length .shut, .sl 2 (persC a4) a4.length .shut], [.v (.int .u8 bk.toNat), .v (.int .u64 b1), .v (.int .u64 b2), .sl 5 (coinsC b3) b3.length .shut, .sl 2 (persC b4) b4.length .shut]] })) (fun i => a4.length - i) (0) ?st1 ?rd1
    case st1 =>
     refine ⟨lp, ?_, lp, ?_⟩
     · rfl
     · rfl
    case rd1 =>
     rintro i ρ1 σ1 hF1 ⟨hi, hE, h5, hσ⟩; obtain rfl := hσ.symm
     have f1 := keepL hF1
     (try simp [KeepL, F] at f1); replace F := aF h5 F; (try replace F := aF f1 F); refine sq fun K10 hK10 => ?_; refine sr fun _ hJ12 => ?_; refine hJ12 _ _ ?_; refine cs (fun c46 => ?_) (fun c46 => ?_)
     · (try exact nope c46); all_goals have c46p := c46; try simp [F] at c46p
       all_goals
        replace F := aF c46 F; (try replace F := aF c46p F); refine run_skip ?_; refine hK10 _ _ ?_; refine sq fun K13 hK13 => ?_; refine run_block_k ?_; refine sq fun K14 hK14 => ?_
        have hlt : i < a4.length := by have h := c46; simp at h; omega
        have hlt2 : i < b4.length := by omega
        have hat := persC_at hlt
        have hat2 := persC_at hlt2
        have hb1 : i * 2 + 2 ≤ a4.length * 2 := by omega
        have hb2 : i * 2 + 2 ≤ b4.length * 2 := by omega
        have hx5 := ha5 _ (List.getElem_mem hlt)
        have hy5 := hb5 _ (List.getElem_mem hlt2)
        have htx : a4.take (i + 1) = a4.take i ++ [a4[i]] := (List.take_append_getElem hlt).symm
        have hty : b4.take (i + 1) = b4.take i ++ [b4[i]] := (List.take_append_getElem hlt2).symm
        have hxy : a4 = b4 → a4[i] = b4[i] := fun e => by subst e; rfl
        obtain ⟨x, hx⟩ : ∃ x, x = a4[i] := ⟨_, rfl⟩
        obtain ⟨y, hy⟩ : ∃ y, y = b4[i] := ⟨_, rfl⟩
        rw [← hx] at hat hx5 htx hxy
        rw [← hy] at hat2 hy5 hty hxy
        obtain ⟨xl, xc⟩ := x
        obtain ⟨yl, yc⟩ := y
        simp only [Per.mk.injEq] at hx5 hy5 hxy
        replace F := aF hlt F; replace F := aF hlt2 F; replace F := aF hat F; replace F := aF hat2 F; replace F := aF hb1 F; replace F := aF hb2 F
        refine run_draw (by kernel_rfl) fun J15 hJ15 => ?_
        refine rp2 0 (k := ?_); refine rp2 1 (k := ?_); refine rp2 2 (k := ?_); refine rp2 3 (k := ?_); refine rp2 4 (k := ?_); refine rp2 5 (k := ?_); refine rp2 6 (k := ?_); refine rp2 7 (k := ?_); refine rp2 8 (k := ?_); refine rp2 9 (k := ?_); refine rp2 10 (k := ?_); refine rp2 11 (k := ?_); refine rp2 12 (k := ?_); refine rp2 13 (k := ?_); refine gd 62 (fun g6_13 => ?_) (fun g6_13 => ?_)
        · (try exact nope g6_13); all_goals have g6_13p := g6_13; try simp [F] at g6_13p
          all_goals
           replace F := aF g6_13 F; try replace F := aF g6_13p F
           have hm : ¬ xl = yl := by have h := g6_13; simp at h; omega
           have h0 : D = false := hno (fun e => hm (hxy e.2.2.2.2).1)
           replace F := aF h0 F; refine rp2 14 (k := ?_); refine rp2 15 (k := ?_); refine rp2 16 (k := ?_); refine rp2 17 (k := ?_); refine rp2 18 (k := ?_); refine rp2 19 (k := ?_); refine rp2 20 (k := ?_); refine rp2 21 (k := ?_); refine rp2 22 (k := ?_); refine rp2 23 (k := ?_); refine rp2 24 (k := ?_); refine rp2 25 (k := ?_); refine dop 26 rfl ?_; (repeat (first | simp [F] | simp (disch := omega) only [wC, if_pos, if_neg])); refine rp2 27 (k := ?_); refine rp2 28 (k := ?_); refine dd ?_; refine hJ15 _ _ ?_; refine hK14 _ _ ?_; refine ct ?_; refine sr fun _ hJ17 => ?_; refine hJ17 _ _ ?_; refine ra ?_; exact gcr
        (try exact nope g6_13); all_goals have g6_13p := g6_13; try simp [F] at g6_13p
        all_goals
         replace F := aF g6_13 F; try replace F := aF g6_13p F
         have hm : xl = yl := by have h := g6_13; simp at h; omega
         refine rp2 14 (k := ?_); refine rp2 15 (k := ?_); refine rp2 16 (k := ?_); refine rp2 17 (k := ?_); refine rp2 18 (k := ?_); refine rp2 19 (k := ?_); refine rp2 20 (k := ?_); refine rp2 21 (k := ?_); refine rp2 22 (k := ?_); refine rp2 23 (k := ?_); refine rp2 24 (k := ?_); refine rp2 25 (k := ?_); refine dc 26 rfl (c := rsame_ok hx5.2 hy5.2) (k := ?_); rintro _ _ ⟨rfl, rfl⟩
         refine ⟨by first | exact fun _ _ h => h | (refine later_list [24, 23, 22, 21, 20, 18, 17, 16, 15, 14, 12, 11, 10, 9, 8, 7, 6, 5, 4, 3, 2, 1, 0] (by kernel_rfl) (List.forall_mem_cons.2 ⟨fun _ => fact2 rfl rfl ?_, List.forall_mem_cons.2 ⟨fun _ => fact2 rfl rfl ?_, List.forall_mem_cons.2 ⟨fun _ => fact2 rfl rfl ?_, List.forall_mem_cons.2 ⟨fun _ => fact2 rfl rfl ?_, List.forall_mem_cons.2 ⟨fun _ => fact2 rfl rfl ?_, List.forall_mem_cons.2 ⟨fun _ => fact2 rfl rfl ?_, List.forall_mem_cons.2 ⟨fun _ => fact2 rfl rfl ?_, List.forall_mem_cons.2 ⟨fun _ => fact2 rfl rfl ?_, List.forall_mem_cons.2 ⟨fun _ => fact2 rfl rfl ?_, List.forall_mem_cons.2 ⟨fun _ => fact2 rfl rfl ?_, List.forall_mem_cons.2 ⟨fun _ => fact2 rfl rfl ?_, List.forall_mem_cons.2 ⟨fun _ => fact2 rfl rfl ?_, List.forall_mem_cons.2 ⟨fun _ => fact2 rfl rfl ?_, List.forall_mem_cons.2 ⟨fun _ => fact2 rfl rfl ?_, List.forall_mem_cons.2 ⟨fun _ => fact2 rfl rfl ?_, List.forall_mem_cons.2 ⟨fun _ => fact2 rfl rfl ?_, List.forall_mem_cons.2 ⟨fun _ => fact2 rfl rfl ?_, List.forall_mem_cons.2 ⟨fun _ => fact2 rfl rfl ?_, List.forall_mem_cons.2 ⟨fun _ => fact2 rfl rfl ?_, List.forall_mem_cons.2 ⟨fun _ => fact2 rfl rfl ?_, List.forall_mem_cons.2 ⟨fun _ => fact2 rfl rfl ?_, List.forall_mem_cons.2 ⟨fun _ => fact2 rfl rfl ?_, List.forall_mem_cons.2 ⟨fun _ => fact2 rfl rfl ?_, fun _ h => absurd h List.not_mem_nil⟩⟩⟩⟩⟩⟩⟩⟩⟩⟩⟩⟩⟩⟩⟩⟩⟩⟩⟩⟩⟩⟩⟩) <;> constructor <;> first | rfl | (simp [F]; done)), ?_⟩
         (repeat (first | simp [F] | simp (disch := omega) only [wC, if_pos, if_neg])); refine rp2 27 (k := ?_); refine rp2 28 (k := ?_); refine dd ?_; refine hJ15 _ _ ?_; refine hK14 _ _ ?_; refine cs (fun c77 => ?_) (fun c77 => ?_)
         · (try exact nope c77); all_goals have c77p := c77; try simp [F] at c77p
           all_goals
            replace F := aF c77 F; try replace F := aF c77p F
            have h0 : D = false := hno (fun e => by have h := c77; simp at h; exact h (hxy e.2.2.2.2).2)
            replace F := aF h0 F; refine sr fun _ hJ19 => ?_; refine hJ19 _ _ ?_; refine ra ?_; exact gcr
         (try exact nope c77); all_goals have c77p := c77; try simp [F] at c77p
         all_goals
          replace F := aF c77 F; try replace F := aF c77p F
          have hc : xc = yc := by have h := c77; simp at h; exact h
          refine run_skip ?_; refine hK13 _ _ ?_; refine rg' (h := fun J20 hJ20 => ?_); refine hJ20 _ _ ?_; refine ⟨(i + 1), ⟨kp, lp, ?_, lp, lp⟩, lp⟩
          · rw [htx, hty, hE, hm, hc]
     (try exact nope c46); all_goals have c46p := c46; try simp [F] at c46p
     all_goals
      replace F := aF c46 F; try replace F := aF c46p F
      have h0 : D = true := hyes e1 e2 e3 e4 (by rw [List.take_of_length_le (by have h := c46; simp at h; omega), List.take_of_length_le (by have h := c46; simp at h; omega)] at hE; exact hE)
      replace F := aF h0 F; refine run_exit ?_; refine hK7 _ _ ?_; refine sr fun _ hJ22 => ?_; refine hJ22 _ _ ?_; refine ra ?_; exact gcr
  case cx4 =>
   intro K4 hK4
   refine rg' (h := fun J23 hJ23 => ?_); refine gs 11 (fun g1_5 => ?_) (fun g1_5 => ?_)
   · (try exact nope g1_5); all_goals have g1_5p := g1_5; try simp [F] at g1_5p
     all_goals
      replace F := aF g1_5 F; try replace F := aF g1_5p F
      have hl1 : ¬ ak = bk := by have h := g1_5; simp at h; intro e; subst e; exact h rfl
      replace F := aF hl1 F; (iterate 23 refine no2 (k := ?_)); refine hJ23 _ _ ?_; refine hK4 (()) _ _ ⟨kp, ?_, lp⟩
      · rw [hB]
        simp [F]
        try (rw [Bool.eq_iff_iff]; simp; omega)
   (try exact nope g1_5); all_goals have g1_5p := g1_5; try simp [F] at g1_5p
   all_goals
    replace F := aF g1_5 F; try replace F := aF g1_5p F
    have hl1 : ak = bk := by have h := g1_5; simp at h; exact UInt8.toNat_inj.1 (by omega)
    replace F := aF hl1 F; (iterate 5 refine go2 (k := ?_)); refine gs 18 (fun g1_12 => ?_) (fun g1_12 => ?_)
    · (try exact nope g1_12); all_goals have g1_12p := g1_12; try simp [F] at g1_12p
      all_goals
       replace F := aF g1_12 F; try replace F := aF g1_12p F
       have hl2 : ¬ a1 = b1 := by have h := g1_12; simp at h; omega
       replace F := aF hl2 F; (iterate 18 refine no2 (k := ?_)); refine hJ23 _ _ ?_; refine hK4 (()) _ _ ⟨kp, ?_, lp⟩
       · rw [hB]
         simp [F]
         try (rw [Bool.eq_iff_iff]; simp; omega)
    (try exact nope g1_12); all_goals have g1_12p := g1_12; try simp [F] at g1_12p
    all_goals
     replace F := aF g1_12 F; try replace F := aF g1_12p F
     have hl2 : a1 = b1 := by have h := g1_12; simp at h; omega
     replace F := aF hl2 F; (iterate 5 refine go2 (k := ?_)); refine gs 25 (fun g1_19 => ?_) (fun g1_19 => ?_)
     · (try exact nope g1_19); all_goals have g1_19p := g1_19; try simp [F] at g1_19p
       all_goals
        replace F := aF g1_19 F; try replace F := aF g1_19p F
        have hl3 : ¬ a2 = b2 := by have h := g1_19; simp at h; omega
        replace F := aF hl3 F; (iterate 13 refine no2 (k := ?_)); refine hJ23 _ _ ?_; refine hK4 (()) _ _ ⟨kp, ?_, lp⟩
        · rw [hB]
          simp [F]
          try (rw [Bool.eq_iff_iff]; simp; omega)
     (try exact nope g1_19); all_goals have g1_19p := g1_19; try simp [F] at g1_19p
     all_goals
      replace F := aF g1_19 F; try replace F := aF g1_19p F
      have hl3 : a2 = b2 := by have h := g1_19; simp at h; omega
      replace F := aF hl3 F; (iterate 4 refine go2 (k := ?_)); refine ca (c := rsame_ok ha3 hb3) (k := ?_); rintro _ _ ⟨rfl, rfl⟩; (repeat (first | simp [F] | simp (disch := omega) only [wC, if_pos, if_neg])); refine go2 (k := ?_); refine gs 33 (fun g1_27 => ?_) (fun g1_27 => ?_)
      · (try exact nope g1_27); all_goals have g1_27p := g1_27; try simp [F] at g1_27p
        all_goals
         replace F := aF g1_27 F; (try replace F := aF g1_27p F); (iterate 7 refine no2 (k := ?_)); refine hJ23 _ _ ?_; refine hK4 (()) _ _ ⟨kp, ?_, lp⟩
         · rw [hB]
           simp [F]
           try (rw [Bool.eq_iff_iff]; simp; omega)
      (try exact nope g1_27); all_goals have g1_27p := g1_27; try simp [F] at g1_27p
      all_goals
       replace F := aF g1_27 F; (try replace F := aF g1_27p F); (iterate 7 refine go2 (k := ?_)); refine hJ23 _ _ ?_; refine hK4 (()) _ _ ⟨kp, ?_, lp⟩
       · rw [hB]
         simp [F]
         try (rw [Bool.eq_iff_iff]; simp; omega)

end Go.Proofs.Ytdbaddholggkbaa

/-
  Messages: what they are, what a kind has, when they are right.
-/
namespace Go.Vm
set_option linter.unnecessarySimpa false
set_option linter.unusedSimpArgs false
open Go

structure Out where
  t : UInt8
  c : List Coin
deriving DecidableEq
structure Msg where
  k : UInt8
  f : UInt8
  s : Nat
  fee : List Coin
  t : UInt8
  v : UInt8
  o : UInt8
  n : Num
  c : List Coin
  outs : List Out
  p : Pln
  tm : Nat
  pt : Nat
  j : Bool
deriving DecidableEq

def outC (x : Out) : List AV := [.v (.int .u8 x.t.toNat), .sl 5 (coinsC x.c) x.c.length .shut]
def outsC (l : List Out) : List AV := l.flatMap outC
@[simp] theorem outsC_nil : outsC [] = [] := rfl
@[simp] theorem outsC_len (l : List Out) : (outsC l).length = l.length * 2 := flat_length outC 2 (fun _ => rfl) l
theorem outsC_at {l : List Out} {i : Nat} (h : i < l.length) : (outsC l).drop (i * 2) = outC l[i] ++ restC outC l i := flat_at outC 2 (fun _ => rfl) l i h
theorem outsC_noObj (n : Nat) : ∀ l : List Out, noObjL n (outsC l) = true := noObjL_flat (fun p => by simp [outC, noObjL, AV.noObj, coinsC, noObjL_flat, coinC, numA])
theorem outsC_under (B : Bd) : ∀ l : List Out, underL B (outsC l) = true := underL_flat (fun p => by simp [outC, underL, AV.under, coinsC, underL_flat, coinC, numA])
theorem outsC_append (l m : List Out) : outsC l ++ outsC m = outsC (l ++ m) := by simp [outsC]

def msgC (m : Msg) : List AV := [.v (.int .u8 m.k.toNat), .v (.int .u8 m.f.toNat), .v (.int .u64 m.s), .sl 5 (coinsC m.fee) m.fee.length .shut, .v (.int .u8 m.t.toNat), .v (.int .u8 m.v.toNat), .v (.int .u8 m.o.toNat),
  .v (.int .u64 (limb m.n.v 0)), .v (.int .u64 (limb m.n.v 1)), .v (.int .u64 (limb m.n.v 2)), .v (.int .u64 (limb m.n.v 3)), .sl 5 (coinsC m.c) m.c.length .shut, .sl 2 (outsC m.outs) m.outs.length .shut,
  .v (.int .u8 m.p.k.toNat), .v (.int .u64 m.p.s), .v (.int .u64 m.p.e), .sl 5 (coinsC m.p.tot) m.p.tot.length .shut, .sl 2 (persC m.p.ps) m.p.ps.length .shut, .v (.int .u64 m.tm), .v (.int .u16 m.pt), .v (.bool m.j)]

structure Msg.Ok (m : Msg) : Prop where
  s : m.s < 2 ^ 64
  fee : m.fee.length ≤ 9223372036854775807
  c : m.c.length ≤ 9223372036854775807
  outs : m.outs.length ≤ 9223372036854775807
  out : ∀ x ∈ m.outs, x.c.length ≤ 9223372036854775807
  p : m.p.Ok
  tm : m.tm < 2 ^ 64
  pt : m.pt < 2 ^ 16

def hasN (k : UInt8) : Nat :=
  if k = 1 then 17 else if k = 2 then 32 else if k = 3 ∨ k = 4 then 10 else if k = 5 then 14 else if k = 6 ∨ k = 7 ∨ k = 11 then 2 else if k = 8 ∨ k = 10 then 1 else if k = 9 then 65
  else if k = 32 then 1152 else if k = 33 then 1922 else if k = 34 then 1042 else if k = 35 then 1026 else if k = 36 then 1024 else 0
def hasK (k : UInt8) : Bool := decide (hasN k ≠ 0)
def hB (k : UInt8) (c : Nat) : Bool := decide (hasN k &&& c ≠ 0)
def onlyM (m : Msg) : Msg := ⟨m.k, bif hB m.k 1024 then 0 else m.f, bif hB m.k 1024 then 0 else m.s, bif hB m.k 1024 then [] else m.fee, bif hB m.k 1 then m.t else 0, bif hB m.k 2 then m.v else 0, bif hB m.k 4 then m.o else 0,
  bif hB m.k 8 then m.n else ⟨0, by decide⟩, bif hB m.k 16 then m.c else [], bif hB m.k 32 then m.outs else [], bif hB m.k 64 then m.p else ⟨0, 0, 0, [], []⟩, bif hB m.k 128 then m.tm else 0, bif hB m.k 256 then m.pt else 0, hB m.k 512 && m.j⟩
def outB (x : Out) : Bool := decide (x.t.toNat < 200) && decide (Right x.c)
def rightM (m : Msg) : Bool :=
  hasK m.k && decide (m = onlyM m) && decide (m.f.toNat < 200 ∧ m.t.toNat < 200 ∧ m.v.toNat < 16 ∧ m.o.toNat < 16) && decide (Right m.fee ∧ Right m.c)
  && !(hB m.k 32 && (decide (m.outs.length = 0) || decide (16 < m.outs.length))) && !(hB m.k 64 && decide (m.p.k = 0)) && m.outs.all outB && rightB m.p && decide (m.tm ≤ 2 ^ 40) && decide (m.pt ≤ 10000)

theorem onlyM_ok {m : Msg} (h : m.Ok) : (onlyM m).Ok := by
  obtain ⟨h1, h2, h3, h4, h5, h6, h7, h8⟩ := h
  refine ⟨?_, ?_, ?_, ?_, fun x hx => ?_, ?_, ?_, ?_⟩
  · simp only [onlyM]; cases hB m.k 1024 <;> simp [h1]
  · simp only [onlyM]; cases hB m.k 1024 <;> simp [h2]
  · simp only [onlyM]; cases hB m.k 16 <;> simp [h3]
  · simp only [onlyM]; cases hB m.k 32 <;> simp [h4]
  · simp only [onlyM] at hx
    cases hq : hB m.k 32 <;> rw [hq] at hx
    · simp at hx
    · exact h5 x hx
  · simp only [onlyM]; cases hB m.k 64
    · simp [Pln.Ok]
    · exact h6
  · simp only [onlyM]; cases hB m.k 128 <;> simp [h7]
  · simp only [onlyM]; cases hB m.k 256 <;> simp [h8]

def outA (b : Bool) (l : List Out) : AV := bif b then .sl 2 (outsC l) l.length .shut else .sl 0 [] 0 .full
@[simp] theorem outA_yes (l : List Out) : outA true l = .sl 2 (outsC l) l.length .shut := rfl
@[simp] theorem outA_no (l : List Out) : outA false l = .sl 0 [] 0 .full := rfl
def perA (b : Bool) (l : List Per) : AV := bif b then .sl 2 (persC l) l.length .shut else .sl 0 [] 0 .full
@[simp] theorem perA_yes (l : List Per) : perA true l = .sl 2 (persC l) l.length .shut := rfl
@[simp] theorem perA_no (l : List Per) : perA false l = .sl 0 [] 0 .full := rfl

theorem binA_andN {P : Program} (t : TypeId) (xo yo : Operand) {a b : Nat} (ha : a < 4096) (hb : b < 4096) : binA P .and t xo yo (.v (.int .i64 (a : Nat))) (.v (.int .i64 (b : Nat))) = some (.v (.int .i64 ((a &&& b : Nat)))) := by
  rw [binA_and]
  have e1 : BitVec.ofInt IntKind.i64.bits (a : Int) = BitVec.ofNat 64 a := by
    apply BitVec.eq_of_toNat_eq; simp [IntKind.bits]
  have e2 : BitVec.ofInt IntKind.i64.bits (b : Int) = BitVec.ofNat 64 b := by
    apply BitVec.eq_of_toNat_eq; simp [IntKind.bits]
  have hlt : a &&& b < 4096 := Nat.lt_of_le_of_lt Nat.and_le_left ha
  have e3 : (BitVec.ofNat 64 a &&& BitVec.ofNat 64 b).toNat = a &&& b := by
    rw [BitVec.toNat_and, BitVec.toNat_ofNat, BitVec.toNat_ofNat, Nat.mod_eq_of_lt (by omega), Nat.mod_eq_of_lt (by omega)]
  have e4 : ((BitVec.ofInt IntKind.i64.bits (a : Int) &&& BitVec.ofInt IntKind.i64.bits (b : Int)).toNat : Int) = ((a &&& b : Nat) : Int) := by
    have : (BitVec.ofInt IntKind.i64.bits (a : Int) &&& BitVec.ofInt IntKind.i64.bits (b : Int)).toNat = (BitVec.ofNat 64 a &&& BitVec.ofNat 64 b).toNat := by rw [e1, e2]; rfl
    rw [this, e3]
  rw [e4, wrap_i64 _ (by omega) (by omega)]
theorem hasN_lt (k : UInt8) : hasN k < 4096 := by unfold hasN; repeat (first | decide | split)

end Go.Vm

/-
  What a kind has; are two messages alike..
-/
namespace Go.Proofs.Ytdbaddholggkbaa
set_option linter.unnecessarySimpa false
set_option maxRecDepth 100000
open Go Go.Vm
set_option linter.unusedSimpArgs false
set_option linter.unusedVariables false
attribute [local simp] evalL wantedA isCall opA evalA evalAll evalsA evalOpt ofValue ofCell plain binA_eql_pn binA_neq_pn binA_gtr binA_lss binA_geq binA_leq binA_add binA_sub binA_eql binA_neq binA_orI binA_andI binA_shl binA_shr binA_mul binA_quo binA_rem binA_agg_eql binA_agg_neq convA_int unA_not fieldAddrA loadA partA pickA_true pickA_false pickA_bb lenA builtinA storeA splice AV.cells AV.isCell sliceA boundA intA callOf indexAddrA newObjA buildA fillA zeroA ofCells buildSliceA indexA fieldA numA_len4 numA_take4 numA_drop4 set_appN get_appN take_appN List.getElem?_cons_zero List.getElem?_cons_succ makeA zeros64

set_option maxHeartbeats 1600000 in
attribute [local simp] undefA List.getElem?_cons_zero List.getElem?_cons_succ in
theorem has_ok {σ : St} {k : UInt8} :
    CallsA Try.prog 95 [.v (.int .u8 k.toNat)] σ (fun av σ' => av = .tup [.v (.int .i64 (hasN k : Nat)), .v (.bool (hasK k))] ∧ σ = σ') := by
  obtain ⟨h, hh⟩ : ∃ h, h = hasN k := ⟨_, rfl⟩
  have hK : hasK k = decide (h ≠ 0) := by rw [hh]; rfl
  rw [← hh, hK]
  have hkn : ∀ n : UInt8, k = n ↔ (k.toNat : Int) = (n.toNat : Int) := fun n => ⟨fun e => by rw [e], fun e => UInt8.toNat_inj.1 (Int.ofNat_inj.1 e)⟩
  obtain ⟨B9, hB9⟩ : ∃ b, b = (decide (k = 3) || decide (k = 4)) := ⟨_, rfl⟩
  obtain ⟨B14, hB14⟩ : ∃ b, b = (decide (k = 6) || decide (k = 7) || decide (k = 11)) := ⟨_, rfl⟩
  obtain ⟨B18, hB18⟩ : ∃ b, b = (decide (k = 8) || decide (k = 10)) := ⟨_, rfl⟩
  have F := True.intro
  refine callsA_body Try.func95 rfl rfl rfl ?_; refine sr fun _ hJ2 => ?_; refine hJ2 _ _ ?_; refine sq fun K3 hK3 => ?_; refine sr fun _ hJ5 => ?_; refine hJ5 _ _ ?_; refine run_block_k ?_; refine sr fun _ hJ7 => ?_; refine hJ7 _ _ ?_; refine cs (fun c5 => ?_) (fun c5 => ?_)
  · (try exact nope c5); all_goals have c5p := c5; try simp [F] at c5p
    all_goals
     replace F := aF c5 F; (try replace F := aF c5p F); refine sr fun _ hJ9 => ?_; refine hJ9 _ _ ?_; refine run_ret ?_; (try simp only [Then, InBlock, NoGoto]); refine answer_tmp2 rfl (.inr rfl) ?_
     have hk : k = 1 := (hkn 1).2 (by simpa using c5)
     have hv : h = 17 := by rw [hh]; rw [hk]; decide
     subst hv
     exact ⟨by simp [F], rfl⟩
  (try exact nope c5); all_goals have c5p := c5; try simp [F] at c5p
  all_goals
   replace F := aF c5 F; (try replace F := aF c5p F); refine sr fun _ hJ11 => ?_; refine hJ11 _ _ ?_; refine cs (fun c7 => ?_) (fun c7 => ?_)
   · (try exact nope c7); all_goals have c7p := c7; try simp [F] at c7p
     all_goals
      replace F := aF c7 F; (try replace F := aF c7p F); refine sr fun _ hJ13 => ?_; refine hJ13 _ _ ?_; refine run_ret ?_; (try simp only [Then, InBlock, NoGoto]); refine answer_tmp2 rfl (.inr rfl) ?_
      have hk : k = 2 := (hkn 2).2 (by simpa using c7)
      have hv : h = 32 := by rw [hh]; rw [hk]; decide
      subst hv
      exact ⟨by simp [F], rfl⟩
   (try exact nope c7); all_goals have c7p := c7; try simp [F] at c7p
   all_goals
    replace F := aF c7 F; (try replace F := aF c7p F); refine sqc (X := Unit) [2, 3, 4] (fun z ρ σ1 => (ρ 9 = .v (.bool B9)) ∧ (σ1 = σ)) ?cy14 ?cx14
    case cy14 =>
     rintro z ρCc9 σ1 hFCc9 ⟨h9, hσ⟩; obtain rfl := hσ.symm
     have fCc9 := keepL hFCc9
     (try simp [KeepL, F] at fCc9); replace F := aF h9 F; (try replace F := aF fCc9 F); refine cs (t := B9) (fun c9 => ?_) (fun c9 => ?_)
     · (try exact nope c9); all_goals have c9p := c9; try simp [F] at c9p
       all_goals
        replace F := aF c9 F; (try replace F := aF c9p F); refine sr fun _ hJ16 => ?_; refine hJ16 _ _ ?_; refine run_ret ?_; (try simp only [Then, InBlock, NoGoto]); refine answer_tmp2 rfl (.inr rfl) ?_
        have hk : k = 3 ∨ k = 4 := by rw [hB9] at c9; simpa using c9
        have hv : h = 10 := by rw [hh]; rcases hk with e | e <;> (rw [e]; decide)
        subst hv
        exact ⟨by simp [F], rfl⟩
     (try exact nope c9); all_goals have c9p := c9; try simp [F] at c9p
     all_goals
      replace F := aF c9 F; (try replace F := aF c9p F); refine sr fun _ hJ18 => ?_; refine hJ18 _ _ ?_; refine cs (fun c12 => ?_) (fun c12 => ?_)
      · (try exact nope c12); all_goals have c12p := c12; try simp [F] at c12p
        all_goals
         replace F := aF c12 F; (try replace F := aF c12p F); refine sr fun _ hJ20 => ?_; refine hJ20 _ _ ?_; refine run_ret ?_; (try simp only [Then, InBlock, NoGoto]); refine answer_tmp2 rfl (.inr rfl) ?_
         have hk : k = 5 := (hkn 5).2 (by simpa using c12)
         have hv : h = 14 := by rw [hh]; rw [hk]; decide
         subst hv
         exact ⟨by simp [F], rfl⟩
      (try exact nope c12); all_goals have c12p := c12; try simp [F] at c12p
      all_goals
       replace F := aF c12 F; (try replace F := aF c12p F); refine sqc (X := Unit) [2, 3, 4] (fun z ρ σ1 => (ρ 14 = .v (.bool B14)) ∧ (σ1 = σ)) ?cy21 ?cx21
       case cy21 =>
        rintro z ρCc14 σ1 hFCc14 ⟨h14, hσ⟩; obtain rfl := hσ.symm
        have fCc14 := keepL hFCc14
        (try simp [KeepL, F] at fCc14); replace F := aF h14 F; (try replace F := aF fCc14 F); refine cs (t := B14) (fun c14 => ?_) (fun c14 => ?_)
        · (try exact nope c14); all_goals have c14p := c14; try simp [F] at c14p
          all_goals
           replace F := aF c14 F; (try replace F := aF c14p F); refine sr fun _ hJ23 => ?_; refine hJ23 _ _ ?_; refine run_ret ?_; (try simp only [Then, InBlock, NoGoto]); refine answer_tmp2 rfl (.inr rfl) ?_
           have hk : (k = 6 ∨ k = 7) ∨ k = 11 := by rw [hB14] at c14; simpa using c14
           have hv : h = 2 := by rw [hh]; rcases hk with (e | e) | e <;> (rw [e]; decide)
           subst hv
           exact ⟨by simp [F], rfl⟩
        (try exact nope c14); all_goals have c14p := c14; try simp [F] at c14p
        all_goals
         replace F := aF c14 F; (try replace F := aF c14p F); refine sqc (X := Unit) [2, 3, 4] (fun z ρ σ1 => (ρ 18 = .v (.bool B18)) ∧ (σ1 = σ)) ?cy24 ?cx24
         case cy24 =>
          rintro z ρCc18 σ1 hFCc18 ⟨h18, hσ⟩; obtain rfl := hσ.symm
          have fCc18 := keepL hFCc18
          (try simp [KeepL, F] at fCc18); replace F := aF h18 F; (try replace F := aF fCc18 F); refine cs (t := B18) (fun c18 => ?_) (fun c18 => ?_)
          · (try exact nope c18); all_goals have c18p := c18; try simp [F] at c18p
            all_goals
             replace F := aF c18 F; (try replace F := aF c18p F); refine sr fun _ hJ26 => ?_; refine hJ26 _ _ ?_; refine run_ret ?_; (try simp only [Then, InBlock, NoGoto]); refine answer_tmp2 rfl (.inr rfl) ?_
             have hk : k = 8 ∨ k = 10 := by rw [hB18] at c18; simpa using c18
             have hv : h = 1 := by rw [hh]; rcases hk with e | e <;> (rw [e]; decide)
             subst hv
             exact ⟨by simp [F], rfl⟩
          (try exact nope c18); all_goals have c18p := c18; try simp [F] at c18p
          all_goals
           replace F := aF c18 F; (try replace F := aF c18p F); refine sr fun _ hJ28 => ?_; refine hJ28 _ _ ?_; refine cs (fun c21 => ?_) (fun c21 => ?_)
           · (try exact nope c21); all_goals have c21p := c21; try simp [F] at c21p
             all_goals
              replace F := aF c21 F; (try replace F := aF c21p F); refine sr fun _ hJ30 => ?_; refine hJ30 _ _ ?_; refine run_ret ?_; (try simp only [Then, InBlock, NoGoto]); refine answer_tmp2 rfl (.inr rfl) ?_
              have hk : k = 9 := (hkn 9).2 (by simpa using c21)
              have hv : h = 65 := by rw [hh]; rw [hk]; decide
              subst hv
              exact ⟨by simp [F], rfl⟩
           (try exact nope c21); all_goals have c21p := c21; try simp [F] at c21p
           all_goals
            replace F := aF c21 F; (try replace F := aF c21p F); refine sr fun _ hJ32 => ?_; refine hJ32 _ _ ?_; refine cs (fun c23 => ?_) (fun c23 => ?_)
            · (try exact nope c23); all_goals have c23p := c23; try simp [F] at c23p
              all_goals
               replace F := aF c23 F; (try replace F := aF c23p F); refine sr fun _ hJ34 => ?_; refine hJ34 _ _ ?_; refine run_ret ?_; (try simp only [Then, InBlock, NoGoto]); refine answer_tmp2 rfl (.inr rfl) ?_
               have hk : k = 32 := (hkn 32).2 (by simpa using c23)
               have hv : h = 1152 := by rw [hh]; rw [hk]; decide
               subst hv
               exact ⟨by simp [F], rfl⟩
            (try exact nope c23); all_goals have c23p := c23; try simp [F] at c23p
            all_goals
             replace F := aF c23 F; (try replace F := aF c23p F); refine sr fun _ hJ36 => ?_; refine hJ36 _ _ ?_; refine cs (fun c25 => ?_) (fun c25 => ?_)
             · (try exact nope c25); all_goals have c25p := c25; try simp [F] at c25p
               all_goals
                replace F := aF c25 F; (try replace F := aF c25p F); refine sr fun _ hJ38 => ?_; refine hJ38 _ _ ?_; refine run_ret ?_; (try simp only [Then, InBlock, NoGoto]); refine answer_tmp2 rfl (.inr rfl) ?_
                have hk : k = 33 := (hkn 33).2 (by simpa using c25)
                have hv : h = 1922 := by rw [hh]; rw [hk]; decide
                subst hv
                exact ⟨by simp [F], rfl⟩
             (try exact nope c25); all_goals have c25p := c25; try simp [F] at c25p
             all_goals
              replace F := aF c25 F; (try replace F := aF c25p F); refine sr fun _ hJ40 => ?_; refine hJ40 _ _ ?_; refine cs (fun c27 => ?_) (fun c27 => ?_)
              · (try exact nope c27); all_goals have c27p := c27; try simp [F] at c27p
                all_goals
                 replace F := aF c27 F; (try replace F := aF c27p F); refine sr fun _ hJ42 => ?_; refine hJ42 _ _ ?_; refine run_ret ?_; (try simp only [Then, InBlock, NoGoto]); refine answer_tmp2 rfl (.inr rfl) ?_
                 have hk : k = 34 := (hkn 34).2 (by simpa using c27)
                 have hv : h = 1042 := by rw [hh]; rw [hk]; decide
                 subst hv
                 exact ⟨by simp [F], rfl⟩
              (try exact nope c27); all_goals have c27p := c27; try simp [F] at c27p
              all_goals
               replace F := aF c27 F; (try replace F := aF c27p F); refine sr fun _ hJ44 => ?_; refine hJ44 _ _ ?_; refine cs (fun c29 => ?_) (fun c29 => ?_)
               · (try exact nope c29); all_goals have c29p := c29; try simp [F] at c29p
                 all_goals
                  replace F := aF c29 F; (try replace F := aF c29p F); refine sr fun _ hJ46 => ?_; refine hJ46 _ _ ?_; refine run_ret ?_; (try simp only [Then, InBlock, NoGoto]); refine answer_tmp2 rfl (.inr rfl) ?_
                  have hk : k = 35 := (hkn 35).2 (by simpa using c29)
                  have hv : h = 1026 := by rw [hh]; rw [hk]; decide
                  subst hv
                  exact ⟨by simp [F], rfl⟩
               (try exact nope c29); all_goals have c29p := c29; try simp [F] at c29p
               all_goals
                replace F := aF c29 F; (try replace F := aF c29p F); refine sr fun _ hJ48 => ?_; refine hJ48 _ _ ?_; refine cs (fun c31 => ?_) (fun c31 => ?_)
                · (try exact nope c31); all_goals have c31p := c31; try simp [F] at c31p
                  all_goals
                   replace F := aF c31 F; (try replace F := aF c31p F); refine sr fun _ hJ50 => ?_; refine hJ50 _ _ ?_; refine run_ret ?_; (try simp only [Then, InBlock, NoGoto]); refine answer_tmp2 rfl (.inr rfl) ?_
                   have hk : k = 36 := (hkn 36).2 (by simpa using c31)
                   have hv : h = 1024 := by rw [hh]; rw [hk]; decide
                   subst hv
                   exact ⟨by simp [F], rfl⟩
                (try exact nope c31); all_goals have c31p := c31; try simp [F] at c31p
                all_goals
                 replace F := aF c31 F; (try replace F := aF c31p F); refine run_skip ?_; refine hK3 _ _ ?_; refine sr fun _ hJ52 => ?_; refine hJ52 _ _ ?_; refine run_ret ?_; (try simp only [Then, InBlock, NoGoto]); refine answer_tmp2 rfl (.inr rfl) ?_
                 have hv : h = 0 := by
                   rw [hB9] at c9; simp at c9
                   rw [hB14] at c14; simp at c14
                   rw [hB18] at c18; simp at c18
                   rw [hh]; unfold hasN; rw [if_neg (by simpa [hkn] using c5)]; rw [if_neg (by simpa [hkn] using c7)]; rw [if_neg (by simp [c9])]; rw [if_neg (by simpa [hkn] using c12)]; rw [if_neg (by simp [c14])]; rw [if_neg (by simp [c18])]; rw [if_neg (by simpa [hkn] using c21)]; rw [if_neg (by simpa [hkn] using c23)]; rw [if_neg (by simpa [hkn] using c25)]; rw [if_neg (by simpa [hkn] using c27)]; rw [if_neg (by simpa [hkn] using c29)]; rw [if_neg (by simpa [hkn] using c31)]
                 subst hv
                 exact ⟨by simp [F], rfl⟩
         case cx24 =>
          intro K24 hK24
          refine sr fun _ hJ54 => ?_; refine hJ54 _ _ ?_; refine cs (fun c18 => ?_) (fun c18 => ?_)
          · (try exact nope c18); all_goals have c18p := c18; try simp [F] at c18p
            all_goals
             replace F := aF c18 F; (try replace F := aF c18p F); refine run_skip ?_; refine hK24 (()) _ _ ⟨kp, ?_, lp⟩
             · rw [hB18]
               simp [hkn, F]
               try rfl
          (try exact nope c18); all_goals have c18p := c18; try simp [F] at c18p
          all_goals
           replace F := aF c18 F; (try replace F := aF c18p F); refine rg' (h := fun J55 hJ55 => ?_); refine hJ55 _ _ ?_; refine hK24 (()) _ _ ⟨kp, ?_, lp⟩
           · rw [hB18]
             simp [hkn, F]
             try rfl
       case cx21 =>
        intro K21 hK21
        refine sr fun _ hJ57 => ?_; refine hJ57 _ _ ?_; refine cs (fun c14 => ?_) (fun c14 => ?_)
        · (try exact nope c14); all_goals have c14p := c14; try simp [F] at c14p
          all_goals
           replace F := aF c14 F; (try replace F := aF c14p F); refine run_skip ?_; refine hK21 (()) _ _ ⟨kp, ?_, lp⟩
           · rw [hB14]
             simp [hkn, F]
             try rfl
        (try exact nope c14); all_goals have c14p := c14; try simp [F] at c14p
        all_goals
         replace F := aF c14 F; (try replace F := aF c14p F); refine sr fun _ hJ59 => ?_; refine hJ59 _ _ ?_; refine cs (fun c14 => ?_) (fun c14 => ?_)
         · (try exact nope c14); all_goals have c14p := c14; try simp [F] at c14p
           all_goals
            replace F := aF c14 F; (try replace F := aF c14p F); refine run_skip ?_; refine hK21 (()) _ _ ⟨kp, ?_, lp⟩
            · rw [hB14]
              simp [hkn, F]
              try rfl
         (try exact nope c14); all_goals have c14p := c14; try simp [F] at c14p
         all_goals
          replace F := aF c14 F; (try replace F := aF c14p F); refine rg' (h := fun J60 hJ60 => ?_); refine hJ60 _ _ ?_; refine hK21 (()) _ _ ⟨kp, ?_, lp⟩
          · rw [hB14]
            simp [hkn, F]
            try rfl
    case cx14 =>
     intro K14 hK14
     refine sr fun _ hJ62 => ?_; refine hJ62 _ _ ?_; refine cs (fun c9 => ?_) (fun c9 => ?_)
     · (try exact nope c9); all_goals have c9p := c9; try simp [F] at c9p
       all_goals
        replace F := aF c9 F; (try replace F := aF c9p F); refine run_skip ?_; refine hK14 (()) _ _ ⟨kp, ?_, lp⟩
        · rw [hB9]
          simp [hkn, F]
          try rfl
     (try exact nope c9); all_goals have c9p := c9; try simp [F] at c9p
     all_goals
      replace F := aF c9 F; (try replace F := aF c9p F); refine rg' (h := fun J63 hJ63 => ?_); refine hJ63 _ _ ?_; refine hK14 (()) _ _ ⟨kp, ?_, lp⟩
      · rw [hB9]
        simp [hkn, F]
        try rfl

set_option maxHeartbeats 1600000 in
attribute [local simp] undefA List.getElem?_cons_zero List.getElem?_cons_succ in
theorem osame1_ok {σ : St} {x y : Out} (hx : x.c.length ≤ 9223372036854775807) (hy : y.c.length ≤ 9223372036854775807) :
    CallsA Try.prog 110 [.agg (outC x), .agg (outC y)] σ (fun av σ' => av = .v (.bool (decide (x = y))) ∧ σ = σ') := by
  refine callsA_gcS ?_ rfl
  obtain ⟨l, c⟩ := x
  obtain ⟨l2, c2⟩ := y
  simp only [Out.mk.injEq, outC, Bool.decide_and]
  have F := True.intro
  refine callsA_body Try.func110 rfl rfl rfl ?_; refine sr fun _ hJ2 => ?_; refine hJ2 _ _ ?_; refine sr fun _ hJ4 => ?_; refine gs 10 (fun g1_5 => ?_) (fun g1_5 => ?_)
  · (try exact nope g1_5); all_goals have g1_5p := g1_5; try simp [F] at g1_5p
    all_goals
     replace F := aF g1_5 F; try replace F := aF g1_5p F
     have hl : l = l2 := by have h := g1_5; simp at h; exact UInt8.toNat_inj.1 (by omega)
     replace F := aF hl F; (iterate 4 refine go2 (k := ?_)); refine ca (c := csame_ok hx hy) (k := ?_); rintro _ _ ⟨rfl, rfl⟩; (repeat (first | simp [F] | simp (disch := omega) only [wC, if_pos, if_neg])); refine hJ4 _ _ ?_; refine ra ?_; exact gcr
  (try exact nope g1_5); all_goals have g1_5p := g1_5; try simp [F] at g1_5p
  all_goals
   replace F := aF g1_5 F; try replace F := aF g1_5p F
   have hl : ¬ l = l2 := by have h := g1_5; simp at h; intro e; subst e; exact h rfl
   replace F := aF hl F; (iterate 5 refine no2 (k := ?_)); refine hJ4 _ _ ?_; refine ra ?_; exact gcr

set_option maxHeartbeats 1600000 in
attribute [local simp] undefA List.getElem?_cons_zero List.getElem?_cons_succ outC outsC_noObj in
theorem oequal_ok {σ : St} {a b : List Out} {ta tb : Tail} (hla : a.length ≤ 9223372036854775807) (hlb : b.length ≤ 9223372036854775807) (ha : ∀ x ∈ a, x.c.length ≤ 9223372036854775807) (hb : ∀ x ∈ b, x.c.length ≤ 9223372036854775807) :
    CallsA Try.prog 109 [.sl 2 (outsC a) a.length ta, .sl 2 (outsC b) b.length tb, .fn 110 []] σ (fun av σ' => av = .v (.bool (decide (a = b))) ∧ σ = σ') := by
  refine callsA_gcS ?_ rfl
  have F := True.intro
  refine callsA_body Try.func109 rfl rfl rfl ?_; refine sr fun _ hJ2 => ?_; refine hJ2 _ _ ?_; refine sq fun K3 hK3 => ?_; refine sr fun _ hJ5 => ?_; refine hJ5 _ _ ?_; refine cs (fun c14 => ?_) (fun c14 => ?_)
  · (try exact nope c14); all_goals have c14p := c14; try simp [F] at c14p
    all_goals
     replace F := aF c14 F; try replace F := aF c14p F
     have hne : ¬ a = b := fun e => by subst e; simp at c14
     replace F := aF hne F; refine sr fun _ hJ7 => ?_; refine hJ7 _ _ ?_; refine ra ?_; exact gcr
  (try exact nope c14); all_goals have c14p := c14; try simp [F] at c14p
  all_goals
   replace F := aF c14 F; (try replace F := aF c14p F); refine run_skip ?_; refine hK3 _ _ ?_; refine sq fun K8 hK8 => ?_; refine sq fun K9 hK9 => ?_
   have hlen : a.length = b.length := by have h := c14; simp at h; omega
   refine rg' (h := fun J10 hJ10 => ?_); refine hJ10 _ _ ?_; refine hK9 _ _ ?_; refine run_block_k ?_; refine run_loopG (X := Nat) [1, 2, 15, 16] (fun i ρ σ1 => (i ≤ a.length) ∧ (a.take i = b.take i) ∧ (ρ 17 = .v (.int .i64 i)) ∧ (σ1 = σ)) (fun i => a.length - i) (0) ?st1 ?rd1
   case st1 =>
    refine ⟨lp, ?_, lp, ?_⟩
    · rfl
    · rfl
   case rd1 =>
    rintro i ρ1 σ1 hF1 ⟨hi, hE, h13, hσ⟩; obtain rfl := hσ.symm
    have f1 := keepL hF1
    (try simp [KeepL, F] at f1); replace F := aF h13 F; (try replace F := aF f1 F); refine sr fun _ hJ12 => ?_; refine hJ12 _ _ ?_; refine sq fun K13 hK13 => ?_; refine cs (fun c18 => ?_) (fun c18 => ?_)
    · (try exact nope c18); all_goals have c18p := c18; try simp [F] at c18p
      all_goals
       replace F := aF c18 F; (try replace F := aF c18p F); refine run_skip ?_; refine hK13 _ _ ?_; refine sq fun K14 hK14 => ?_; refine run_block_k ?_; refine sq fun K15 hK15 => ?_
       have hlt : i < a.length := by simp at c18; omega
       have hltb : i < b.length := by omega
       have hat := outsC_at hlt
       have hatb := outsC_at hltb
       have hb1 : i * 2 + 2 ≤ a.length * 2 := by omega
       have hb2 : i * 2 + 2 ≤ b.length * 2 := by omega
       obtain ⟨x, hx⟩ : ∃ x, x = a[i] := ⟨_, rfl⟩
       obtain ⟨y, hy⟩ : ∃ y, y = b[i] := ⟨_, rfl⟩
       rw [← hx] at hat
       rw [← hy] at hatb
       have hta : a.take (i + 1) = a.take i ++ [x] := by rw [hx]; exact (List.take_append_getElem hlt).symm
       have htb : b.take (i + 1) = b.take i ++ [y] := by rw [hy]; exact (List.take_append_getElem hltb).symm
       have hxl := ha x (by rw [hx]; exact List.getElem_mem _)
       have hyl := hb y (by rw [hy]; exact List.getElem_mem _)
       replace F := aF hlt F; replace F := aF hltb F; replace F := aF hat F; replace F := aF hatb F; replace F := aF hb1 F; replace F := aF hb2 F; refine rg' (h := fun J16 hJ16 => ?_); refine hJ16 _ _ ?_; refine hK15 _ _ ?_; refine sr fun _ hJ18 => ?_; refine hJ18 _ _ ?_; refine sr fun _ hJ20 => ?_; refine ca (c := (osame1_ok (x := x) (y := y) hxl hyl)) (k := ?_); rintro _ _ ⟨rfl, rfl⟩; (repeat (first | simp [F] | simp (disch := omega) only [wC, if_pos, if_neg])); refine hJ20 _ _ ?_; refine cs (fun c30 => ?_) (fun c30 => ?_)
       · (try exact nope c30); all_goals have c30p := c30; try simp [F] at c30p
         all_goals
          replace F := aF c30 F; try replace F := aF c30p F
          have hne : ¬ a = b := fun e => by subst e; rw [← hx] at hy; subst hy; simp at c30
          replace F := aF hne F; refine sr fun _ hJ22 => ?_; refine hJ22 _ _ ?_; refine ra ?_; exact gcr
       (try exact nope c30); all_goals have c30p := c30; try simp [F] at c30p
       all_goals
        replace F := aF c30 F; try replace F := aF c30p F
        have hxy : x = y := by simpa using c30
        refine run_skip ?_; refine hK14 _ _ ?_; refine rg' (h := fun J23 hJ23 => ?_); refine hJ23 _ _ ?_; refine ⟨gk, (i + 1), ⟨kpG, lpG, ?_, lpG, lpG⟩, lpG⟩
        · rw [hta, htb, hE, hxy]
    (try exact nope c18); all_goals have c18p := c18; try simp [F] at c18p
    all_goals
     replace F := aF c18 F; try replace F := aF c18p F
     have he : a = b := by have h := c18; simp at h; rw [List.take_of_length_le (by omega), List.take_of_length_le (by omega)] at hE; exact hE
     replace F := aF he F; refine run_exit ?_; refine hK8 _ _ ?_; refine sr fun _ hJ25 => ?_; refine hJ25 _ _ ?_; refine ra ?_; exact gcr

theorem cellsEq_numN (x y : Num) : cellsEqA (numA x.v) (numA y.v) = decide (x = y) := by
  exact cellsEq_num x y

set_option maxHeartbeats 1600000 in
attribute [local simp] undefA List.getElem?_cons_zero List.getElem?_cons_succ msgC outsC_noObj persC_noObj in
theorem msame_ok {σ : St} {a b : Msg} (ha : a.Ok) (hb : b.Ok) :
    CallsA Try.prog 58 [.agg (msgC a), .agg (msgC b)] σ (fun av σ' => av = .v (.bool (decide (a = b))) ∧ σ = σ') := by
  refine callsA_gcS ?_ rfl
  have hsp := fun σ => plsame_ok (σ := σ) ha.p hb.p
  obtain ⟨ha1, ha2, ha3, ha4, ha5, -, ha7, ha8⟩ := ha
  obtain ⟨hb1, hb2, hb3, hb4, hb5, -, hb7, hb8⟩ := hb
  obtain ⟨x1, x2, x3, x4, x5, x6, x7, x8, x9, x10, x11, x12, x13, x14⟩ := a
  obtain ⟨y1, y2, y3, y4, y5, y6, y7, y8, y9, y10, y11, y12, y13, y14⟩ := b
  simp only [Msg.mk.injEq] at *
  obtain ⟨D, hD⟩ : ∃ D, D = decide (x11 = y11) := ⟨_, rfl⟩
  simp only [Bool.decide_and]
  rw [← hD]
  simp only [← hD] at hsp
  clear hD
  have hbb : ∀ (o : BinOp) (xo yo : Operand) (a b : Bool), binA Try.prog .eql 4 xo yo (.v (.bool a)) (.v (.bool b)) = some (.v (.bool (a == b))) := by intro o xo yo a b; cases a <;> cases b <;> rfl
  have hbn : ∀ (o : BinOp) (xo yo : Operand) (a b : Bool), binA Try.prog .neq 4 xo yo (.v (.bool a)) (.v (.bool b)) = some (.v (.bool (a != b))) := by intro o xo yo a b; cases a <;> cases b <;> rfl
  have hnn : cellsEqA [.v (.int .u64 (limb x8.v 0)), .v (.int .u64 (limb x8.v 1)), .v (.int .u64 (limb x8.v 2)), .v (.int .u64 (limb x8.v 3))] [.v (.int .u64 (limb y8.v 0)), .v (.int .u64 (limb y8.v 1)), .v (.int .u64 (limb y8.v 2)), .v (.int .u64 (limb y8.v 3))] = decide (x8 = y8) := by
    have h := cellsEq_numN x8 y8
    simp only [numA] at h
    exact h
  obtain ⟨xpk, xps, xpe, xpt, xpq⟩ := x11
  obtain ⟨ypk, yps, ype, ypt, ypq⟩ := y11
  simp only [plnC] at hsp
  have F := And.intro hbb (And.intro hnn (True.intro))
  refine callsA_body Try.func58 rfl rfl rfl ?_; refine sr fun _ hJ2 => ?_; refine hJ2 _ _ ?_; refine sr fun _ hJ4 => ?_; refine gs 10 (fun g1_5 => ?_) (fun g1_5 => ?_)
  · (try exact nope g1_5); all_goals have g1_5p := g1_5; try simp [F] at g1_5p
    all_goals
     replace F := aF g1_5 F; try replace F := aF g1_5p F
     have hl1 : x1 = y1 := by have h := g1_5; simp at h; exact UInt8.toNat_inj.1 (by omega)
     replace F := aF hl1 F; (iterate 5 refine go2 (k := ?_)); refine gs 17 (fun g1_12 => ?_) (fun g1_12 => ?_)
     · (try exact nope g1_12); all_goals have g1_12p := g1_12; try simp [F] at g1_12p
       all_goals
        replace F := aF g1_12 F; try replace F := aF g1_12p F
        have hl2 : x2 = y2 := by have h := g1_12; simp at h; exact UInt8.toNat_inj.1 (by omega)
        replace F := aF hl2 F; (iterate 5 refine go2 (k := ?_)); refine gs 24 (fun g1_19 => ?_) (fun g1_19 => ?_)
        · (try exact nope g1_19); all_goals have g1_19p := g1_19; try simp [F] at g1_19p
          all_goals
           replace F := aF g1_19 F; try replace F := aF g1_19p F
           have hl3 : x3 = y3 := by have h := g1_19; simp at h; omega
           replace F := aF hl3 F; (iterate 5 refine go2 (k := ?_)); refine gs 31 (fun g1_26 => ?_) (fun g1_26 => ?_)
           · (try exact nope g1_26); all_goals have g1_26p := g1_26; try simp [F] at g1_26p
             all_goals
              replace F := aF g1_26 F; try replace F := aF g1_26p F
              have hl5 : x5 = y5 := by have h := g1_26; simp at h; exact UInt8.toNat_inj.1 (by omega)
              replace F := aF hl5 F; (iterate 5 refine go2 (k := ?_)); refine gs 38 (fun g1_33 => ?_) (fun g1_33 => ?_)
              · (try exact nope g1_33); all_goals have g1_33p := g1_33; try simp [F] at g1_33p
                all_goals
                 replace F := aF g1_33 F; try replace F := aF g1_33p F
                 have hl6 : x6 = y6 := by have h := g1_33; simp at h; exact UInt8.toNat_inj.1 (by omega)
                 replace F := aF hl6 F; (iterate 5 refine go2 (k := ?_)); refine gs 45 (fun g1_40 => ?_) (fun g1_40 => ?_)
                 · (try exact nope g1_40); all_goals have g1_40p := g1_40; try simp [F] at g1_40p
                   all_goals
                    replace F := aF g1_40 F; try replace F := aF g1_40p F
                    have hl7 : x7 = y7 := by have h := g1_40; simp at h; exact UInt8.toNat_inj.1 (by omega)
                    replace F := aF hl7 F; (iterate 5 refine go2 (k := ?_)); refine gs 52 (fun g1_47 => ?_) (fun g1_47 => ?_)
                    · (try exact nope g1_47); all_goals have g1_47p := g1_47; try simp [F] at g1_47p
                      all_goals
                       replace F := aF g1_47 F; try replace F := aF g1_47p F
                       have hl8 : x8 = y8 := by simpa using g1_47
                       replace F := aF hl8 F; (iterate 5 refine go2 (k := ?_)); refine gs 59 (fun g1_54 => ?_) (fun g1_54 => ?_)
                       · (try exact nope g1_54); all_goals have g1_54p := g1_54; try simp [F] at g1_54p
                         all_goals
                          replace F := aF g1_54 F; try replace F := aF g1_54p F
                          have hl12 : x12 = y12 := by have h := g1_54; simp at h; omega
                          replace F := aF hl12 F; (iterate 5 refine go2 (k := ?_)); refine gs 66 (fun g1_61 => ?_) (fun g1_61 => ?_)
                          · (try exact nope g1_61); all_goals have g1_61p := g1_61; try simp [F] at g1_61p
                            all_goals
                             replace F := aF g1_61 F; try replace F := aF g1_61p F
                             have hl13 : x13 = y13 := by have h := g1_61; simp at h; omega
                             replace F := aF hl13 F; (iterate 5 refine go2 (k := ?_)); refine gs 73 (fun g1_68 => ?_) (fun g1_68 => ?_)
                             · (try exact nope g1_68); all_goals have g1_68p := g1_68; try simp [F] at g1_68p
                               all_goals
                                replace F := aF g1_68 F; try replace F := aF g1_68p F
                                have hl14 : x14 = y14 := by have h := g1_68; simp at h; exact h
                                replace F := aF hl14 F; (iterate 4 refine go2 (k := ?_)); refine ca (c := csame_ok ha2 hb2) (k := ?_); rintro _ _ ⟨rfl, rfl⟩; (repeat (first | simp [F] | simp (disch := omega) only [wC, if_pos, if_neg])); refine gs 80 (fun g1_75 => ?_) (fun g1_75 => ?_)
                                · (try exact nope g1_75); all_goals have g1_75p := g1_75; try simp [F] at g1_75p
                                  all_goals
                                   replace F := aF g1_75 F; try replace F := aF g1_75p F
                                   have hl4 : x4 = y4 := by simpa using g1_75
                                   replace F := aF hl4 F; (iterate 4 refine go2 (k := ?_)); refine ca (c := csame_ok ha3 hb3) (k := ?_); rintro _ _ ⟨rfl, rfl⟩; (repeat (first | simp [F] | simp (disch := omega) only [wC, if_pos, if_neg])); refine gs 87 (fun g1_82 => ?_) (fun g1_82 => ?_)
                                   · (try exact nope g1_82); all_goals have g1_82p := g1_82; try simp [F] at g1_82p
                                     all_goals
                                      replace F := aF g1_82 F; try replace F := aF g1_82p F
                                      have hl9 : x9 = y9 := by simpa using g1_82
                                      replace F := aF hl9 F; (iterate 4 refine go2 (k := ?_)); refine ca (c := hsp _) (k := ?_); rintro _ _ ⟨rfl, rfl⟩; (repeat (first | simp [F] | simp (disch := omega) only [wC, if_pos, if_neg])); refine gs 94 (fun g1_89 => ?_) (fun g1_89 => ?_)
                                      · (try exact nope g1_89); all_goals have g1_89p := g1_89; try simp [F] at g1_89p
                                        all_goals
                                         replace F := aF g1_89 F; (try replace F := aF g1_89p F); (iterate 4 refine go2 (k := ?_)); refine ca (c := oequal_ok ha4 hb4 ha5 hb5) (k := ?_); rintro _ _ ⟨rfl, rfl⟩; (repeat (first | simp [F] | simp (disch := omega) only [wC, if_pos, if_neg])); refine hJ4 _ _ ?_; refine ra ?_; exact gcr
                                      (try exact nope g1_89); all_goals have g1_89p := g1_89; try simp [F] at g1_89p
                                      all_goals
                                       replace F := aF g1_89 F; (try replace F := aF g1_89p F); (iterate 5 refine no2 (k := ?_)); refine hJ4 _ _ ?_; refine ra ?_; exact gcr
                                   (try exact nope g1_82); all_goals have g1_82p := g1_82; try simp [F] at g1_82p
                                   all_goals
                                    replace F := aF g1_82 F; try replace F := aF g1_82p F
                                    have hl9 : ¬ x9 = y9 := by simpa using g1_82
                                    replace F := aF hl9 F; (iterate 10 refine no2 (k := ?_)); refine hJ4 _ _ ?_; refine ra ?_; exact gcr
                                (try exact nope g1_75); all_goals have g1_75p := g1_75; try simp [F] at g1_75p
                                all_goals
                                 replace F := aF g1_75 F; try replace F := aF g1_75p F
                                 have hl4 : ¬ x4 = y4 := by simpa using g1_75
                                 replace F := aF hl4 F; (iterate 15 refine no2 (k := ?_)); refine hJ4 _ _ ?_; refine ra ?_; exact gcr
                             (try exact nope g1_68); all_goals have g1_68p := g1_68; try simp [F] at g1_68p
                             all_goals
                              replace F := aF g1_68 F; try replace F := aF g1_68p F
                              have hl14 : ¬ x14 = y14 := by have h := g1_68; intro e; subst e; simp at h
                              replace F := aF hl14 F; (iterate 20 refine no2 (k := ?_)); refine hJ4 _ _ ?_; refine ra ?_; exact gcr
                          (try exact nope g1_61); all_goals have g1_61p := g1_61; try simp [F] at g1_61p
                          all_goals
                           replace F := aF g1_61 F; try replace F := aF g1_61p F
                           have hl13 : ¬ x13 = y13 := by have h := g1_61; simp at h; omega
                           replace F := aF hl13 F; (iterate 25 refine no2 (k := ?_)); refine hJ4 _ _ ?_; refine ra ?_; exact gcr
                       (try exact nope g1_54); all_goals have g1_54p := g1_54; try simp [F] at g1_54p
                       all_goals
                        replace F := aF g1_54 F; try replace F := aF g1_54p F
                        have hl12 : ¬ x12 = y12 := by have h := g1_54; simp at h; omega
                        replace F := aF hl12 F; (iterate 30 refine no2 (k := ?_)); refine hJ4 _ _ ?_; refine ra ?_; exact gcr
                    (try exact nope g1_47); all_goals have g1_47p := g1_47; try simp [F] at g1_47p
                    all_goals
                     replace F := aF g1_47 F; try replace F := aF g1_47p F
                     have hl8 : ¬ x8 = y8 := by simpa using g1_47
                     replace F := aF hl8 F; (iterate 35 refine no2 (k := ?_)); refine hJ4 _ _ ?_; refine ra ?_; exact gcr
                 (try exact nope g1_40); all_goals have g1_40p := g1_40; try simp [F] at g1_40p
                 all_goals
                  replace F := aF g1_40 F; try replace F := aF g1_40p F
                  have hl7 : ¬ x7 = y7 := by have h := g1_40; simp at h; intro e; subst e; exact h rfl
                  replace F := aF hl7 F; (iterate 40 refine no2 (k := ?_)); refine hJ4 _ _ ?_; refine ra ?_; exact gcr
              (try exact nope g1_33); all_goals have g1_33p := g1_33; try simp [F] at g1_33p
              all_goals
               replace F := aF g1_33 F; try replace F := aF g1_33p F
               have hl6 : ¬ x6 = y6 := by have h := g1_33; simp at h; intro e; subst e; exact h rfl
               replace F := aF hl6 F; (iterate 45 refine no2 (k := ?_)); refine hJ4 _ _ ?_; refine ra ?_; exact gcr
           (try exact nope g1_26); all_goals have g1_26p := g1_26; try simp [F] at g1_26p
           all_goals
            replace F := aF g1_26 F; try replace F := aF g1_26p F
            have hl5 : ¬ x5 = y5 := by have h := g1_26; simp at h; intro e; subst e; exact h rfl
            replace F := aF hl5 F; (iterate 50 refine no2 (k := ?_)); refine hJ4 _ _ ?_; refine ra ?_; exact gcr
        (try exact nope g1_19); all_goals have g1_19p := g1_19; try simp [F] at g1_19p
        all_goals
         replace F := aF g1_19 F; try replace F := aF g1_19p F
         have hl3 : ¬ x3 = y3 := by have h := g1_19; simp at h; omega
         replace F := aF hl3 F; (iterate 55 refine no2 (k := ?_)); refine hJ4 _ _ ?_; refine ra ?_; exact gcr
     (try exact nope g1_12); all_goals have g1_12p := g1_12; try simp [F] at g1_12p
     all_goals
      replace F := aF g1_12 F; try replace F := aF g1_12p F
      have hl2 : ¬ x2 = y2 := by have h := g1_12; simp at h; intro e; subst e; exact h rfl
      replace F := aF hl2 F; (iterate 60 refine no2 (k := ?_)); refine hJ4 _ _ ?_; refine ra ?_; exact gcr
  (try exact nope g1_5); all_goals have g1_5p := g1_5; try simp [F] at g1_5p
  all_goals
   replace F := aF g1_5 F; try replace F := aF g1_5p F
   have hl1 : ¬ x1 = y1 := by have h := g1_5; simp at h; intro e; subst e; exact h rfl
   replace F := aF hl1 F; (iterate 65 refine no2 (k := ?_)); refine hJ4 _ _ ?_; refine ra ?_; exact gcr
set_option maxHeartbeats 1600000 in
attribute [local simp] undefA List.getElem?_cons_zero List.getElem?_cons_succ msgC outsC_noObj persC_noObj outC in
theorem rmsame_ok {σ : St} {a b : Msg} (ha : a.Ok) (hb : b.Ok) :
    CallsA Try.prog 57 [.agg (msgC a), .agg (msgC b)] σ (fun av σ' => av = .v (.bool (decide (a = b))) ∧ σ = σ') := by
  obtain ⟨D0, hD0⟩ : ∃ D, D = decide (a = b) := ⟨_, rfl⟩
  rw [← hD0]
  refine callsA_gcS ?_ rfl
  have hsp := fun σ => rplsame_ok (σ := σ) ha.p hb.p
  obtain ⟨ha1, ha2, ha3, ha4, ha5, -, ha7, ha8⟩ := ha
  obtain ⟨hb1, hb2, hb3, hb4, hb5, -, hb7, hb8⟩ := hb
  obtain ⟨x1, x2, x3, x4, x5, x6, x7, x8, x9, x10, x11, x12, x13, x14⟩ := a
  obtain ⟨y1, y2, y3, y4, y5, y6, y7, y8, y9, y10, y11, y12, y13, y14⟩ := b
  simp only [Msg.mk.injEq] at *
  obtain ⟨D, hD⟩ : ∃ D, D = decide (x11 = y11) := ⟨_, rfl⟩
  have hno : ¬ (x1 = y1 ∧ x2 = y2 ∧ x3 = y3 ∧ x4 = y4 ∧ x5 = y5 ∧ x6 = y6 ∧ x7 = y7 ∧ x8 = y8 ∧ x9 = y9 ∧ x10 = y10 ∧ x11 = y11 ∧ x12 = y12 ∧ x13 = y13 ∧ x14 = y14) → D0 = false := fun h => by rw [hD0]; exact decide_eq_false h
  have hyes : (x1 = y1 ∧ x2 = y2 ∧ x3 = y3 ∧ x4 = y4 ∧ x5 = y5 ∧ x6 = y6 ∧ x7 = y7 ∧ x8 = y8 ∧ x9 = y9 ∧ x10 = y10 ∧ x11 = y11 ∧ x12 = y12 ∧ x13 = y13 ∧ x14 = y14) → D0 = true := fun h => by rw [hD0]; exact decide_eq_true h
  have hDe : D = true → x11 = y11 := fun h => by rw [hD] at h; exact of_decide_eq_true h
  have hDy : x11 = y11 → D = true := fun h => by rw [hD]; exact decide_eq_true h
  have hDn : D = false → ¬ x11 = y11 := fun h => by rw [hD] at h; exact of_decide_eq_false h
  simp only [← hD] at hsp
  clear hD hD0
  have hbb : ∀ (o : BinOp) (xo yo : Operand) (a b : Bool), binA Try.prog .eql 4 xo yo (.v (.bool a)) (.v (.bool b)) = some (.v (.bool (a == b))) := by intro o xo yo a b; cases a <;> cases b <;> rfl
  have hbn : ∀ (o : BinOp) (xo yo : Operand) (a b : Bool), binA Try.prog .neq 4 xo yo (.v (.bool a)) (.v (.bool b)) = some (.v (.bool (a != b))) := by intro o xo yo a b; cases a <;> cases b <;> rfl
  have hnn : cellsEqA [.v (.int .u64 (limb x8.v 0)), .v (.int .u64 (limb x8.v 1)), .v (.int .u64 (limb x8.v 2)), .v (.int .u64 (limb x8.v 3))] [.v (.int .u64 (limb y8.v 0)), .v (.int .u64 (limb y8.v 1)), .v (.int .u64 (limb y8.v 2)), .v (.int .u64 (limb y8.v 3))] = decide (x8 = y8) := by
    have h := cellsEq_numN x8 y8
    simp only [numA] at h
    exact h
  obtain ⟨xpk, xps, xpe, xpt, xpq⟩ := x11
  obtain ⟨ypk, yps, ype, ypt, ypq⟩ := y11
  simp only [plnC] at hsp
  obtain ⟨B1, hB1⟩ : ∃ B, B = !(decide (x1 = y1) && decide (x2 = y2) && decide (x3 = y3) && decide (x5 = y5) && decide (x6 = y6) && decide (x7 = y7) && decide (x8 = y8)) := ⟨_, rfl⟩
  obtain ⟨B2, hB2⟩ : ∃ B, B = !(decide (x12 = y12) && decide (x13 = y13) && decide (x14 = y14) && decide (x4 = y4) && decide (x9 = y9) && D && decide (x10.length = y10.length)) := ⟨_, rfl⟩
  have F := And.intro hbn (And.intro hnn (True.intro))
  refine callsA_body Try.func57 rfl rfl rfl ?_; refine sr fun _ hJ2 => ?_; refine hJ2 _ _ ?_; refine sq fun K3 hK3 => ?_; refine sqc (X := Unit) [2, 3, 4] (fun z ρ σ1 => (ρ 52 = .v (.bool B1)) ∧ (σ1 = { σ with objs := σ.objs ++ [[.v (.int .u8 x1.toNat), .v (.int .u8 x2.toNat), .v (.int .u64 x3), .sl 5 (coinsC x4) x4.length .shut, .v (.int .u8 x5.toNat), .v (.int .u8 x6.toNat), .v (.int .u8 x7.toNat), .v (.int .u64 (limb x8.v 0)), .v (.int .u64 (limb x8.v 1)), .v (.int .u64 (limb x8.v 2)), .v (.int .u64 (limb x8.v 3)), .sl 5 (coinsC x9) x9.length .shut, .sl 2 (outsC x10) x10.length .shut, .v (.int .u8 xpk.toNat), .v (.int .u64 xps), .v (.int .u64 xpe), .sl 5 (coinsC xpt) xpt.length .shut, .sl 2 (persC xpq) xpq.length .shut, .v (.int .u64 x12), .v (.int .u16 x13), .v (.bool x14)], [.v (.int .u8 y1.toNat), .v (.int .u8 y2.toNat), .v (.int .u64 y3), .sl 5 (coinsC y4) y4.length .shut, .v (.int .u8 y5.toNat), .v (.int .u8 y6.toNat), .v (.int .u8 y7.toNat), .v (.int .u64 (limb y8.v 0)), .v (.int .u64 (limb y8.v 1)), .v (.int .u64 (limb y8.v 2)), .v (.int .u64 (limb y8.v 3)), .sl 5 (coinsC y9) y9.length .shut, .sl 2 (outsC y10) y10.length .shut, .v (.int .u8 ypk.toNat), .v (.int .u64 yps), .v (.int .u64 ype), .sl 5 (coinsC ypt) ypt.length .shut, .sl 2 (persC ypq) ypq.length .shut, .v (.int .u64 y12), .v (.int .u16 y13), .v (.bool y14)]] })) ?cy4 ?cx4
  case cy4 =>
   rintro z ρCr1 σ1 hFCr1 ⟨h52, hσ⟩; obtain rfl := hσ.symm
   have fCr1 := keepL hFCr1
   (try simp [KeepL, F] at fCr1); replace F := aF h52 F; (try replace F := aF fCr1 F); refine cs (t := B1) (fun c52 => ?_) (fun c52 => ?_)
   · (try exact nope c52); all_goals have c52p := c52; try simp [F] at c52p
     all_goals
      replace F := aF c52 F; try replace F := aF c52p F
      have h0 : D0 = false := hno (fun e => by rw [hB1] at c52; simp [e] at c52)
      replace F := aF h0 F; refine sr fun _ hJ6 => ?_; refine hJ6 _ _ ?_; refine ra ?_; exact gcr
   (try exact nope c52); all_goals have c52p := c52; try simp [F] at c52p
   all_goals
    replace F := aF c52 F; try replace F := aF c52p F
    have e1 : x1 = y1 ∧ x2 = y2 ∧ x3 = y3 ∧ x5 = y5 ∧ x6 = y6 ∧ x7 = y7 ∧ x8 = y8 := by rw [hB1] at c52; simp at c52; simp [c52]
    refine run_skip ?_; refine hK3 _ _ ?_; refine sq fun K7 hK7 => ?_; refine sqc (X := Unit) [2, 3, 4] (fun z ρ σ1 => (ρ 104 = .v (.bool B2)) ∧ (σ1 = { σ with objs := σ.objs ++ [[.v (.int .u8 x1.toNat), .v (.int .u8 x2.toNat), .v (.int .u64 x3), .sl 5 (coinsC x4) x4.length .shut, .v (.int .u8 x5.toNat), .v (.int .u8 x6.toNat), .v (.int .u8 x7.toNat), .v (.int .u64 (limb x8.v 0)), .v (.int .u64 (limb x8.v 1)), .v (.int .u64 (limb x8.v 2)), .v (.int .u64 (limb x8.v 3)), .sl 5 (coinsC x9) x9.length .shut, .sl 2 (outsC x10) x10.length .shut, .v (.int .u8 xpk.toNat), .v (.int .u64 xps), .v (.int .u64 xpe), .sl 5 (coinsC xpt) xpt.length .shut, .sl 2 (persC xpq) xpq.length .shut, .v (.int .u64 x12), .v (.int .u16 x13), .v (.bool x14)], [.v (.int .u8 y1.toNat), .v (.int .u8 y2.toNat), .v (.int .u64 y3), .sl 5 (coinsC y4) y4.length .shut, .v (.int .u8 y5.toNat), .v (.int .u8 y6.toNat), .v (.int .u8 y7.toNat), .v (.int .u64 (limb y8.v 0)), .v (.int .u64 (limb y8.v 1)), .v (.int .u64 (limb y8.v 2)), .v (.int .u64 (limb y8.v 3)), .sl 5 (coinsC y9) y9.length .shut, .sl 2 (outsC y10) y10.length .shut, .v (.int .u8 ypk.toNat), .v (.int .u64 yps), .v (.int .u64 ype), .sl 5 (coinsC ypt) ypt.length .shut, .sl 2 (persC ypq) ypq.length .shut, .v (.int .u64 y12), .v (.int .u16 y13), .v (.bool y14)]] })) ?cy8 ?cx8
    case cy8 =>
     rintro z ρCr3 σ1 hFCr3 ⟨h104, hσ⟩; obtain rfl := hσ.symm
     have fCr3 := keepL hFCr3
     (try simp [KeepL, F] at fCr3); replace F := aF h104 F; (try replace F := aF fCr3 F); refine cs (t := B2) (fun c104 => ?_) (fun c104 => ?_)
     · (try exact nope c104); all_goals have c104p := c104; try simp [F] at c104p
       all_goals
        replace F := aF c104 F; try replace F := aF c104p F
        have h0 : D0 = false := hno (fun e => by have hd := hDy e.2.2.2.2.2.2.2.2.2.2.1; rw [hB2] at c104; simp [e, hd] at c104)
        replace F := aF h0 F; refine sr fun _ hJ10 => ?_; refine hJ10 _ _ ?_; refine ra ?_; exact gcr
     (try exact nope c104); all_goals have c104p := c104; try simp [F] at c104p
     all_goals
      replace F := aF c104 F; try replace F := aF c104p F
      have e2 : x12 = y12 ∧ x13 = y13 ∧ x14 = y14 ∧ x4 = y4 ∧ x9 = y9 ∧ D = true ∧ x10.length = y10.length := by rw [hB2] at c104; simp at c104; simp [c104]
      have e3 := e2.2.2.2.2.2.2
      refine run_skip ?_; refine hK7 _ _ ?_; refine sq fun K11 hK11 => ?_; refine sr fun _ hJ13 => ?_; refine hJ13 _ _ ?_; refine run_block_k ?_; refine run_loopF (X := Nat) [2, 3] (fun i ρ σ1 => (i ≤ x10.length) ∧ (x10.take i = y10.take i) ∧ (ρ 5 = .v (.int .i64 i)) ∧ (σ1 = { σ with objs := σ.objs ++ [[.v (.int .u8 x1.toNat), .v (.int .u8 x2.toNat), .v (.int .u64 x3), .sl 5 (coinsC x4) x4.length .shut, .v (.int .u8 x5.toNat), .v (.int .u8 x6.toNat), .v (.int .u8 x7.toNat), .v (.int .u64 (limb x8.v 0)), .v (.int .u64 (limb x8.v 1)), .v (.int .u64 (limb x8.v 2)), .v (.int .u64 (limb x8.v 3)), .sl 5 (coinsC x9) x9.length .shut, .sl 2 (outsC x10) x10.length .shut, .v (.int .u8 xpk.toNat), .v (.int .u64 xps), .v (.int .u64 xpe), .sl 5 (coinsC xpt) xpt.length .shut, .sl 2 (persC xpq) xpq.length .shut, .v (.int .u64 x12), .v (.int .u16 x13), .v (.bool x14)], [.v (.int .u8 y1.toNat), .v (.int .u8 y2.toNat), .v (.int .u64 y3), .sl 5 (coinsC y4) y4.length .shut, .v (.int .u8 y5.toNat), .v (.int .u8 y6.toNat), .v (.int .u8 y7.toNat), .v (.int .u64 (limb y8.v 0)), .v (.int .u64 (limb y8.v 1)), .v (.int .u64 (limb y8.v 2)), .v (.int .u64 (limb y8.v 3)), .sl 5 (coinsC y9) y9.length .shut, .sl 2 (outsC y10) y10.length .shut, .v (.int .u8 ypk.toNat), .v (.int .u64 yps), .v (.int .u64 ype), .sl 5 (coinsC ypt) ypt.length .shut, .sl 2 (persC ypq) ypq.length .shut, .v (.int .u64 y12), .v (.int .u16 y13), .v (.bool y14)]] })) (fun i => x10.length - i) (0) ?st1 ?rd1
      case st1 =>
       refine ⟨lp, ?_, lp, ?_⟩
       · rfl
       · rfl
      case rd1 =>
       rintro i ρ1 σ1 hF1 ⟨hi, hE, h5, hσ⟩; obtain rfl := hσ.symm
       have f1 := keepL hF1
       (try simp [KeepL, F] at f1); replace F := aF h5 F; (try replace F := aF f1 F); refine sq fun K14 hK14 => ?_; refine sr fun _ hJ16 => ?_; refine hJ16 _ _ ?_; refine cs (fun c109 => ?_) (fun c109 => ?_)
       · (try exact nope c109); all_goals have c109p := c109; try simp [F] at c109p
         all_goals
          replace F := aF c109 F; (try replace F := aF c109p F); refine run_skip ?_; refine hK14 _ _ ?_; refine sq fun K17 hK17 => ?_; refine run_block_k ?_; refine sq fun K18 hK18 => ?_
          have hlt : i < x10.length := by have h := c109; simp at h; omega
          have hlt2 : i < y10.length := by omega
          have hat := outsC_at hlt
          have hat2 := outsC_at hlt2
          have hq1 : i * 2 + 2 ≤ x10.length * 2 := by omega
          have hq2 : i * 2 + 2 ≤ y10.length * 2 := by omega
          have hx5 := ha5 _ (List.getElem_mem hlt)
          have hy5 := hb5 _ (List.getElem_mem hlt2)
          have htx : x10.take (i + 1) = x10.take i ++ [x10[i]] := (List.take_append_getElem hlt).symm
          have hty : y10.take (i + 1) = y10.take i ++ [y10[i]] := (List.take_append_getElem hlt2).symm
          have hxy : x10 = y10 → x10[i] = y10[i] := fun e => by subst e; rfl
          obtain ⟨x, hx⟩ : ∃ x, x = x10[i] := ⟨_, rfl⟩
          obtain ⟨y, hy⟩ : ∃ y, y = y10[i] := ⟨_, rfl⟩
          rw [← hx] at hat hx5 htx hxy
          rw [← hy] at hat2 hy5 hty hxy
          obtain ⟨xl, xc⟩ := x
          obtain ⟨yl, yc⟩ := y
          simp only [Out.mk.injEq] at hx5 hy5 hxy
          replace F := aF hlt F; replace F := aF hlt2 F; replace F := aF hat F; replace F := aF hat2 F; replace F := aF hq1 F; replace F := aF hq2 F
          refine run_draw (by kernel_rfl) fun J19 hJ19 => ?_
          refine rp2 0 (k := ?_); refine rp2 1 (k := ?_); refine rp2 2 (k := ?_); refine rp2 3 (k := ?_); refine rp2 4 (k := ?_); refine rp2 5 (k := ?_); refine rp2 6 (k := ?_); refine rp2 7 (k := ?_); refine rp2 8 (k := ?_); refine rp2 9 (k := ?_); refine rp2 10 (k := ?_); refine rp2 11 (k := ?_); refine rp2 12 (k := ?_); refine rp2 13 (k := ?_); refine gd 125 (fun g8_13 => ?_) (fun g8_13 => ?_)
          · (try exact nope g8_13); all_goals have g8_13p := g8_13; try simp [F] at g8_13p
            all_goals
             replace F := aF g8_13 F; try replace F := aF g8_13p F
             have hm : ¬ xl = yl := by have h := g8_13; simp at h; intro e; subst e; exact h rfl
             have h0 : D0 = false := hno (fun e => hm (hxy e.2.2.2.2.2.2.2.2.2.1).1)
             replace F := aF h0 F; refine rp2 14 (k := ?_); refine rp2 15 (k := ?_); refine rp2 16 (k := ?_); refine rp2 17 (k := ?_); refine rp2 18 (k := ?_); refine rp2 19 (k := ?_); refine rp2 20 (k := ?_); refine rp2 21 (k := ?_); refine rp2 22 (k := ?_); refine rp2 23 (k := ?_); refine rp2 24 (k := ?_); refine rp2 25 (k := ?_); refine dop 26 rfl ?_; (repeat (first | simp [F] | simp (disch := omega) only [wC, if_pos, if_neg])); refine rp2 27 (k := ?_); refine rp2 28 (k := ?_); refine dd ?_; refine hJ19 _ _ ?_; refine hK18 _ _ ?_; refine ct ?_; refine sr fun _ hJ21 => ?_; refine hJ21 _ _ ?_; refine ra ?_; exact gcr
          (try exact nope g8_13); all_goals have g8_13p := g8_13; try simp [F] at g8_13p
          all_goals
           replace F := aF g8_13 F; try replace F := aF g8_13p F
           have hm : xl = yl := by have h := g8_13; simp at h; exact UInt8.toNat_inj.1 (by omega)
           refine rp2 14 (k := ?_); refine rp2 15 (k := ?_); refine rp2 16 (k := ?_); refine rp2 17 (k := ?_); refine rp2 18 (k := ?_); refine rp2 19 (k := ?_); refine rp2 20 (k := ?_); refine rp2 21 (k := ?_); refine rp2 22 (k := ?_); refine rp2 23 (k := ?_); refine rp2 24 (k := ?_); refine rp2 25 (k := ?_); refine dc 26 rfl (c := rsame_ok hx5 hy5) (k := ?_); rintro _ _ ⟨rfl, rfl⟩
           refine ⟨by first | exact fun _ _ h => h | (refine later_list [24, 23, 22, 21, 20, 18, 17, 16, 15, 14, 12, 11, 10, 9, 8, 7, 6, 5, 4, 3, 2, 1, 0] (by kernel_rfl) (List.forall_mem_cons.2 ⟨fun _ => fact2 rfl rfl ?_, List.forall_mem_cons.2 ⟨fun _ => fact2 rfl rfl ?_, List.forall_mem_cons.2 ⟨fun _ => fact2 rfl rfl ?_, List.forall_mem_cons.2 ⟨fun _ => fact2 rfl rfl ?_, List.forall_mem_cons.2 ⟨fun _ => fact2 rfl rfl ?_, List.forall_mem_cons.2 ⟨fun _ => fact2 rfl rfl ?_, List.forall_mem_cons.2 ⟨fun _ => fact2 rfl rfl ?_, List.forall_mem_cons.2 ⟨fun _ => fact2 rfl rfl ?_, List.forall_mem_cons.2 ⟨fun _ => fact2 rfl rfl ?_, List.forall_mem_cons.2 ⟨fun _ => fact2 rfl rfl ?_, List.forall_mem_cons.2 ⟨fun _ => fact2 rfl rfl ?_, List.forall_mem_cons.2 ⟨fun _ => fact2 rfl rfl ?_, List.forall_mem_cons.2 ⟨fun _ => fact2 rfl rfl ?_, List.forall_mem_cons.2 ⟨fun _ => fact2 rfl rfl ?_, List.forall_mem_cons.2 ⟨fun _ => fact2 rfl rfl ?_, List.forall_mem_cons.2 ⟨fun _ => fact2 rfl rfl ?_, List.forall_mem_cons.2 ⟨fun _ => fact2 rfl rfl ?_, List.forall_mem_cons.2 ⟨fun _ => fact2 rfl rfl ?_, List.forall_mem_cons.2 ⟨fun _ => fact2 rfl rfl ?_, List.forall_mem_cons.2 ⟨fun _ => fact2 rfl rfl ?_, List.forall_mem_cons.2 ⟨fun _ => fact2 rfl rfl ?_, List.forall_mem_cons.2 ⟨fun _ => fact2 rfl rfl ?_, List.forall_mem_cons.2 ⟨fun _ => fact2 rfl rfl ?_, fun _ h => absurd h List.not_mem_nil⟩⟩⟩⟩⟩⟩⟩⟩⟩⟩⟩⟩⟩⟩⟩⟩⟩⟩⟩⟩⟩⟩⟩) <;> constructor <;> first | rfl | (simp [F]; done)), ?_⟩
           (repeat (first | simp [F] | simp (disch := omega) only [wC, if_pos, if_neg])); refine rp2 27 (k := ?_); refine rp2 28 (k := ?_); refine dd ?_; refine hJ19 _ _ ?_; refine hK18 _ _ ?_; refine cs (fun c140 => ?_) (fun c140 => ?_)
           · (try exact nope c140); all_goals have c140p := c140; try simp [F] at c140p
             all_goals
              replace F := aF c140 F; try replace F := aF c140p F
              have h0 : D0 = false := hno (fun e => by have h := c140; simp at h; exact h (hxy e.2.2.2.2.2.2.2.2.2.1).2)
              replace F := aF h0 F; refine sr fun _ hJ23 => ?_; refine hJ23 _ _ ?_; refine ra ?_; exact gcr
           (try exact nope c140); all_goals have c140p := c140; try simp [F] at c140p
           all_goals
            replace F := aF c140 F; try replace F := aF c140p F
            have hc : xc = yc := by have h := c140; simp at h; exact h
            refine run_skip ?_; refine hK17 _ _ ?_; refine rg' (h := fun J24 hJ24 => ?_); refine hJ24 _ _ ?_; refine ⟨(i + 1), ⟨kp, lp, ?_, lp, lp⟩, lp⟩
            · rw [htx, hty, hE, hm, hc]
       (try exact nope c109); all_goals have c109p := c109; try simp [F] at c109p
       all_goals
        replace F := aF c109 F; try replace F := aF c109p F
        have h0 : D0 = true := hyes ⟨e1.1, e1.2.1, e1.2.2.1, e2.2.2.2.1, e1.2.2.2.1, e1.2.2.2.2.1, e1.2.2.2.2.2.1, e1.2.2.2.2.2.2, e2.2.2.2.2.1, by rw [List.take_of_length_le (by have h := c109; simp at h; omega), List.take_of_length_le (by have h := c109; simp at h; omega)] at hE; exact hE, hDe e2.2.2.2.2.2.1, e2.1, e2.2.1, e2.2.2.1⟩
        replace F := aF h0 F; refine run_exit ?_; refine hK11 _ _ ?_; refine sr fun _ hJ26 => ?_; refine hJ26 _ _ ?_; refine ra ?_; exact gcr
    case cx8 =>
     intro K8 hK8
     refine rg' (h := fun J27 hJ27 => ?_); refine gs 58 (fun g3_5 => ?_) (fun g3_5 => ?_)
     · (try exact nope g3_5); all_goals have g3_5p := g3_5; try simp [F] at g3_5p
       all_goals
        replace F := aF g3_5 F; try replace F := aF g3_5p F
        have hl12 : ¬ x12 = y12 := by have h := g3_5; simp at h; omega
        replace F := aF hl12 F; (iterate 35 refine no2 (k := ?_)); refine hJ27 _ _ ?_; refine hK8 (()) _ _ ⟨kp, ?_, lp⟩
        · rw [hB2]
          simp [F]
          try (rw [Bool.eq_iff_iff]; simp; omega)
     (try exact nope g3_5); all_goals have g3_5p := g3_5; try simp [F] at g3_5p
     all_goals
      replace F := aF g3_5 F; try replace F := aF g3_5p F
      have hl12 : x12 = y12 := by have h := g3_5; simp at h; omega
      replace F := aF hl12 F; (iterate 5 refine go2 (k := ?_)); refine gs 65 (fun g3_12 => ?_) (fun g3_12 => ?_)
      · (try exact nope g3_12); all_goals have g3_12p := g3_12; try simp [F] at g3_12p
        all_goals
         replace F := aF g3_12 F; try replace F := aF g3_12p F
         have hl13 : ¬ x13 = y13 := by have h := g3_12; simp at h; omega
         replace F := aF hl13 F; (iterate 30 refine no2 (k := ?_)); refine hJ27 _ _ ?_; refine hK8 (()) _ _ ⟨kp, ?_, lp⟩
         · rw [hB2]
           simp [F]
           try (rw [Bool.eq_iff_iff]; simp; omega)
      (try exact nope g3_12); all_goals have g3_12p := g3_12; try simp [F] at g3_12p
      all_goals
       replace F := aF g3_12 F; try replace F := aF g3_12p F
       have hl13 : x13 = y13 := by have h := g3_12; simp at h; omega
       replace F := aF hl13 F; (iterate 5 refine go2 (k := ?_)); refine gs 72 (fun g3_19 => ?_) (fun g3_19 => ?_)
       · (try exact nope g3_19); all_goals have g3_19p := g3_19; try simp [F] at g3_19p
         all_goals
          replace F := aF g3_19 F; try replace F := aF g3_19p F
          have hl14 : ¬ x14 = y14 := by have h := g3_19; intro e; subst e; simp at h
          replace F := aF hl14 F; (iterate 25 refine no2 (k := ?_)); refine hJ27 _ _ ?_; refine hK8 (()) _ _ ⟨kp, ?_, lp⟩
          · rw [hB2]
            simp [F]
            try (rw [Bool.eq_iff_iff]; simp; omega)
       (try exact nope g3_19); all_goals have g3_19p := g3_19; try simp [F] at g3_19p
       all_goals
        replace F := aF g3_19 F; try replace F := aF g3_19p F
        have hl14 : x14 = y14 := by have h := g3_19; simp at h; exact h
        replace F := aF hl14 F; (iterate 4 refine go2 (k := ?_)); refine ca (c := rsame_ok ha2 hb2) (k := ?_); rintro _ _ ⟨rfl, rfl⟩; (repeat (first | simp [F] | simp (disch := omega) only [wC, if_pos, if_neg])); refine go2 (k := ?_); refine gs 80 (fun g3_27 => ?_) (fun g3_27 => ?_)
        · (try exact nope g3_27); all_goals have g3_27p := g3_27; try simp [F] at g3_27p
          all_goals
           replace F := aF g3_27 F; try replace F := aF g3_27p F
           have hl4 : ¬ x4 = y4 := by simpa using g3_27
           replace F := aF hl4 F; (iterate 19 refine no2 (k := ?_)); refine hJ27 _ _ ?_; refine hK8 (()) _ _ ⟨kp, ?_, lp⟩
           · rw [hB2]
             simp [F]
             try (rw [Bool.eq_iff_iff]; simp; omega)
        (try exact nope g3_27); all_goals have g3_27p := g3_27; try simp [F] at g3_27p
        all_goals
         replace F := aF g3_27 F; try replace F := aF g3_27p F
         have hl4 : x4 = y4 := by simpa using g3_27
         replace F := aF hl4 F; (iterate 4 refine go2 (k := ?_)); refine ca (c := rsame_ok ha3 hb3) (k := ?_); rintro _ _ ⟨rfl, rfl⟩; (repeat (first | simp [F] | simp (disch := omega) only [wC, if_pos, if_neg])); refine go2 (k := ?_); refine gs 88 (fun g3_35 => ?_) (fun g3_35 => ?_)
         · (try exact nope g3_35); all_goals have g3_35p := g3_35; try simp [F] at g3_35p
           all_goals
            replace F := aF g3_35 F; try replace F := aF g3_35p F
            have hl9 : ¬ x9 = y9 := by simpa using g3_35
            replace F := aF hl9 F; (iterate 13 refine no2 (k := ?_)); refine hJ27 _ _ ?_; refine hK8 (()) _ _ ⟨kp, ?_, lp⟩
            · rw [hB2]
              simp [F]
              try (rw [Bool.eq_iff_iff]; simp; omega)
         (try exact nope g3_35); all_goals have g3_35p := g3_35; try simp [F] at g3_35p
         all_goals
          replace F := aF g3_35 F; try replace F := aF g3_35p F
          have hl9 : x9 = y9 := by simpa using g3_35
          replace F := aF hl9 F; (iterate 4 refine go2 (k := ?_)); refine ca (c := hsp _) (k := ?_); rintro _ _ ⟨rfl, rfl⟩; (repeat (first | simp [F] | simp (disch := omega) only [wC, if_pos, if_neg])); refine go2 (k := ?_); refine gs 96 (fun g3_43 => ?_) (fun g3_43 => ?_)
          · (try exact nope g3_43); all_goals have g3_43p := g3_43; try simp [F] at g3_43p
            all_goals
             replace F := aF g3_43 F; try replace F := aF g3_43p F
             have hDt : D = false := by simpa using g3_43
             replace F := aF hDt F; (iterate 7 refine no2 (k := ?_)); refine hJ27 _ _ ?_; refine hK8 (()) _ _ ⟨kp, ?_, lp⟩
             · rw [hB2]
               simp [F]
               try (rw [Bool.eq_iff_iff]; simp; omega)
          (try exact nope g3_43); all_goals have g3_43p := g3_43; try simp [F] at g3_43p
          all_goals
           replace F := aF g3_43 F; try replace F := aF g3_43p F
           have hDt : D = true := by simpa using g3_43
           replace F := aF hDt F; (iterate 7 refine go2 (k := ?_)); refine hJ27 _ _ ?_; refine hK8 (()) _ _ ⟨kp, ?_, lp⟩
           · rw [hB2]
             simp [F]
             try (rw [Bool.eq_iff_iff]; simp; omega)
  case cx4 =>
   intro K4 hK4
   refine rg' (h := fun J28 hJ28 => ?_); refine gs 11 (fun g1_5 => ?_) (fun g1_5 => ?_)
   · (try exact nope g1_5); all_goals have g1_5p := g1_5; try simp [F] at g1_5p
     all_goals
      replace F := aF g1_5 F; try replace F := aF g1_5p F
      have hl1 : ¬ x1 = y1 := by have h := g1_5; simp at h; intro e; subst e; exact h rfl
      replace F := aF hl1 F; (iterate 30 refine no2 (k := ?_)); refine hJ28 _ _ ?_; refine hK4 (()) _ _ ⟨kp, ?_, lp⟩
      · rw [hB1]
        simp [F]
        try rfl
   (try exact nope g1_5); all_goals have g1_5p := g1_5; try simp [F] at g1_5p
   all_goals
    replace F := aF g1_5 F; try replace F := aF g1_5p F
    have hl1 : x1 = y1 := by have h := g1_5; simp at h; exact UInt8.toNat_inj.1 (by omega)
    replace F := aF hl1 F; (iterate 5 refine go2 (k := ?_)); refine gs 18 (fun g1_12 => ?_) (fun g1_12 => ?_)
    · (try exact nope g1_12); all_goals have g1_12p := g1_12; try simp [F] at g1_12p
      all_goals
       replace F := aF g1_12 F; try replace F := aF g1_12p F
       have hl2 : ¬ x2 = y2 := by have h := g1_12; simp at h; intro e; subst e; exact h rfl
       replace F := aF hl2 F; (iterate 25 refine no2 (k := ?_)); refine hJ28 _ _ ?_; refine hK4 (()) _ _ ⟨kp, ?_, lp⟩
       · rw [hB1]
         simp [F]
         try rfl
    (try exact nope g1_12); all_goals have g1_12p := g1_12; try simp [F] at g1_12p
    all_goals
     replace F := aF g1_12 F; try replace F := aF g1_12p F
     have hl2 : x2 = y2 := by have h := g1_12; simp at h; exact UInt8.toNat_inj.1 (by omega)
     replace F := aF hl2 F; (iterate 5 refine go2 (k := ?_)); refine gs 25 (fun g1_19 => ?_) (fun g1_19 => ?_)
     · (try exact nope g1_19); all_goals have g1_19p := g1_19; try simp [F] at g1_19p
       all_goals
        replace F := aF g1_19 F; try replace F := aF g1_19p F
        have hl3 : ¬ x3 = y3 := by have h := g1_19; simp at h; omega
        replace F := aF hl3 F; (iterate 20 refine no2 (k := ?_)); refine hJ28 _ _ ?_; refine hK4 (()) _ _ ⟨kp, ?_, lp⟩
        · rw [hB1]
          simp [F]
          try rfl
     (try exact nope g1_19); all_goals have g1_19p := g1_19; try simp [F] at g1_19p
     all_goals
      replace F := aF g1_19 F; try replace F := aF g1_19p F
      have hl3 : x3 = y3 := by have h := g1_19; simp at h; omega
      replace F := aF hl3 F; (iterate 5 refine go2 (k := ?_)); refine gs 32 (fun g1_26 => ?_) (fun g1_26 => ?_)
      · (try exact nope g1_26); all_goals have g1_26p := g1_26; try simp [F] at g1_26p
        all_goals
         replace F := aF g1_26 F; try replace F := aF g1_26p F
         have hl5 : ¬ x5 = y5 := by have h := g1_26; simp at h; intro e; subst e; exact h rfl
         replace F := aF hl5 F; (iterate 15 refine no2 (k := ?_)); refine hJ28 _ _ ?_; refine hK4 (()) _ _ ⟨kp, ?_, lp⟩
         · rw [hB1]
           simp [F]
           try rfl
      (try exact nope g1_26); all_goals have g1_26p := g1_26; try simp [F] at g1_26p
      all_goals
       replace F := aF g1_26 F; try replace F := aF g1_26p F
       have hl5 : x5 = y5 := by have h := g1_26; simp at h; exact UInt8.toNat_inj.1 (by omega)
       replace F := aF hl5 F; (iterate 5 refine go2 (k := ?_)); refine gs 39 (fun g1_33 => ?_) (fun g1_33 => ?_)
       · (try exact nope g1_33); all_goals have g1_33p := g1_33; try simp [F] at g1_33p
         all_goals
          replace F := aF g1_33 F; try replace F := aF g1_33p F
          have hl6 : ¬ x6 = y6 := by have h := g1_33; simp at h; intro e; subst e; exact h rfl
          replace F := aF hl6 F; (iterate 10 refine no2 (k := ?_)); refine hJ28 _ _ ?_; refine hK4 (()) _ _ ⟨kp, ?_, lp⟩
          · rw [hB1]
            simp [F]
            try rfl
       (try exact nope g1_33); all_goals have g1_33p := g1_33; try simp [F] at g1_33p
       all_goals
        replace F := aF g1_33 F; try replace F := aF g1_33p F
        have hl6 : x6 = y6 := by have h := g1_33; simp at h; exact UInt8.toNat_inj.1 (by omega)
        replace F := aF hl6 F; (iterate 5 refine go2 (k := ?_)); refine gs 46 (fun g1_40 => ?_) (fun g1_40 => ?_)
        · (try exact nope g1_40); all_goals have g1_40p := g1_40; try simp [F] at g1_40p
          all_goals
           replace F := aF g1_40 F; try replace F := aF g1_40p F
           have hl7 : ¬ x7 = y7 := by have h := g1_40; simp at h; intro e; subst e; exact h rfl
           replace F := aF hl7 F; (iterate 5 refine no2 (k := ?_)); refine hJ28 _ _ ?_; refine hK4 (()) _ _ ⟨kp, ?_, lp⟩
           · rw [hB1]
             simp [F]
             try rfl
        (try exact nope g1_40); all_goals have g1_40p := g1_40; try simp [F] at g1_40p
        all_goals
         replace F := aF g1_40 F; try replace F := aF g1_40p F
         have hl7 : x7 = y7 := by have h := g1_40; simp at h; exact UInt8.toNat_inj.1 (by omega)
         replace F := aF hl7 F; (iterate 5 refine go2 (k := ?_)); refine hJ28 _ _ ?_; refine hK4 (()) _ _ ⟨kp, ?_, lp⟩
         · rw [hB1]
           simp [F]
           try rfl
end Go.Proofs.Ytdbaddholggkbaa

/-
  A message without what its kind has not, by the program..
-/
namespace Go.Proofs.Ytdbaddholggkbaa
set_option linter.unnecessarySimpa false
set_option maxRecDepth 100000
open Go Go.Vm
set_option linter.unusedSimpArgs false
set_option linter.unusedVariables false
attribute [local simp] evalL wantedA isCall opA evalA evalAll evalsA evalOpt ofValue ofCell plain binA_eql_pn binA_neq_pn binA_gtr binA_lss binA_geq binA_leq binA_add binA_sub binA_eql binA_neq binA_orI binA_shl binA_shr binA_mul binA_quo binA_rem binA_agg_eql binA_agg_neq convA_int unA_not fieldAddrA loadA partA pickA_true pickA_false pickA_bb lenA builtinA storeA splice AV.cells AV.isCell sliceA boundA intA callOf indexAddrA newObjA buildA fillA zeroA ofCells buildSliceA indexA fieldA numA_len4 numA_take4 numA_drop4 set_appN get_appN take_appN List.getElem?_cons_zero List.getElem?_cons_succ makeA zeros64

theorem bitNe {e : Nat} : (((e : Nat) : Int) != 0) = decide (e ≠ 0) := by
  rw [Bool.eq_iff_iff]; simp
theorem wk_all {b : Bool} {l m : List Coin} (h : m = bif b then l else []) : Wk (allA b l) (.sl 5 (coinsC m) m.length .shut) := by
  subst h; cases b
  · exact Wk.nil _ _ _
  · exact Wk.refl _
theorem wk_out {b : Bool} {l m : List Out} (h : m = bif b then l else []) : Wk (outA b l) (.sl 2 (outsC m) m.length .shut) := by
  subst h; cases b
  · exact Wk.nil _ _ _
  · exact Wk.refl _
theorem wk_per {b : Bool} {l m : List Per} (h : m = bif b then l else []) : Wk (perA b l) (.sl 2 (persC m) m.length .shut) := by
  subst h; cases b
  · exact Wk.nil _ _ _
  · exact Wk.refl _
theorem wk_eq {a b : AV} (h : a = b) : Wk a b := h ▸ Wk.refl _

set_option maxHeartbeats 1600000 in
attribute [local simp] undefA List.getElem?_cons_zero List.getElem?_cons_succ msgC outsC_noObj persC_noObj in
theorem monly_ok {σ : St} {m : Msg} :
    CallsA Try.prog 96 [.agg (msgC m)] σ (fun av σ' => av = .agg (msgC (onlyM m)) ∧ σ = σ') := by
  refine callsA_gcS ?_ (by simp [AV.under, underL, msgC, persC_under, outsC_under])
  obtain ⟨A, hA⟩ : ∃ A, A = onlyM m := ⟨_, rfl⟩
  rw [← hA]
  obtain ⟨x1, x2, x3, x4, x5, x6, x7, x8, x9, x10, x11, x12, x13, x14⟩ := m
  obtain ⟨xpk, xps, xpe, xpt, xpq⟩ := x11
  have hhas := fun σ => has_ok (σ := σ) (k := x1)
  obtain ⟨h, hh⟩ : ∃ h, h = hasN x1 := ⟨_, rfl⟩
  have hlt : h < 4096 := by rw [hh]; exact hasN_lt _
  rw [← hh] at hhas
  obtain ⟨eE, heE⟩ : ∃ e, e = h &&& 1024 := ⟨_, rfl⟩
  have handE : ∀ xo yo, binA Try.prog .and 3 xo yo (.v (.int .i64 (h : Nat))) (.v (.int .i64 1024)) = some (.v (.int .i64 (eE : Nat))) := fun xo yo => by rw [heE]; exact binA_andN _ xo yo hlt (by decide)
  obtain ⟨bE, hbE⟩ : ∃ b, b = hB x1 1024 := ⟨_, rfl⟩
  have hneE : (((eE : Nat) : Int) != 0) = bE := by rw [hbE, hB, ← hh, ← heE]; simp [bne, Int.natCast_eq_zero]; rw [Bool.eq_iff_iff]; simp
  obtain ⟨eT, heT⟩ : ∃ e, e = h &&& 1 := ⟨_, rfl⟩
  have handT : ∀ xo yo, binA Try.prog .and 3 xo yo (.v (.int .i64 (h : Nat))) (.v (.int .i64 1)) = some (.v (.int .i64 (eT : Nat))) := fun xo yo => by rw [heT]; exact binA_andN _ xo yo hlt (by decide)
  obtain ⟨bT, hbT⟩ : ∃ b, b = hB x1 1 := ⟨_, rfl⟩
  have hneT : (((eT : Nat) : Int) != 0) = bT := by rw [hbT, hB, ← hh, ← heT]; simp [bne, Int.natCast_eq_zero]; rw [Bool.eq_iff_iff]; simp
  obtain ⟨eV, heV⟩ : ∃ e, e = h &&& 2 := ⟨_, rfl⟩
  have handV : ∀ xo yo, binA Try.prog .and 3 xo yo (.v (.int .i64 (h : Nat))) (.v (.int .i64 2)) = some (.v (.int .i64 (eV : Nat))) := fun xo yo => by rw [heV]; exact binA_andN _ xo yo hlt (by decide)
  obtain ⟨bV, hbV⟩ : ∃ b, b = hB x1 2 := ⟨_, rfl⟩
  have hneV : (((eV : Nat) : Int) != 0) = bV := by rw [hbV, hB, ← hh, ← heV]; simp [bne, Int.natCast_eq_zero]; rw [Bool.eq_iff_iff]; simp
  obtain ⟨eO, heO⟩ : ∃ e, e = h &&& 4 := ⟨_, rfl⟩
  have handO : ∀ xo yo, binA Try.prog .and 3 xo yo (.v (.int .i64 (h : Nat))) (.v (.int .i64 4)) = some (.v (.int .i64 (eO : Nat))) := fun xo yo => by rw [heO]; exact binA_andN _ xo yo hlt (by decide)
  obtain ⟨bO, hbO⟩ : ∃ b, b = hB x1 4 := ⟨_, rfl⟩
  have hneO : (((eO : Nat) : Int) != 0) = bO := by rw [hbO, hB, ← hh, ← heO]; simp [bne, Int.natCast_eq_zero]; rw [Bool.eq_iff_iff]; simp
  obtain ⟨eN, heN⟩ : ∃ e, e = h &&& 8 := ⟨_, rfl⟩
  have handN : ∀ xo yo, binA Try.prog .and 3 xo yo (.v (.int .i64 (h : Nat))) (.v (.int .i64 8)) = some (.v (.int .i64 (eN : Nat))) := fun xo yo => by rw [heN]; exact binA_andN _ xo yo hlt (by decide)
  obtain ⟨bN, hbN⟩ : ∃ b, b = hB x1 8 := ⟨_, rfl⟩
  have hneN : (((eN : Nat) : Int) != 0) = bN := by rw [hbN, hB, ← hh, ← heN]; simp [bne, Int.natCast_eq_zero]; rw [Bool.eq_iff_iff]; simp
  obtain ⟨eC, heC⟩ : ∃ e, e = h &&& 16 := ⟨_, rfl⟩
  have handC : ∀ xo yo, binA Try.prog .and 3 xo yo (.v (.int .i64 (h : Nat))) (.v (.int .i64 16)) = some (.v (.int .i64 (eC : Nat))) := fun xo yo => by rw [heC]; exact binA_andN _ xo yo hlt (by decide)
  obtain ⟨bC, hbC⟩ : ∃ b, b = hB x1 16 := ⟨_, rfl⟩
  have hneC : (((eC : Nat) : Int) != 0) = bC := by rw [hbC, hB, ← hh, ← heC]; simp [bne, Int.natCast_eq_zero]; rw [Bool.eq_iff_iff]; simp
  obtain ⟨eU, heU⟩ : ∃ e, e = h &&& 32 := ⟨_, rfl⟩
  have handU : ∀ xo yo, binA Try.prog .and 3 xo yo (.v (.int .i64 (h : Nat))) (.v (.int .i64 32)) = some (.v (.int .i64 (eU : Nat))) := fun xo yo => by rw [heU]; exact binA_andN _ xo yo hlt (by decide)
  obtain ⟨bU, hbU⟩ : ∃ b, b = hB x1 32 := ⟨_, rfl⟩
  have hneU : (((eU : Nat) : Int) != 0) = bU := by rw [hbU, hB, ← hh, ← heU]; simp [bne, Int.natCast_eq_zero]; rw [Bool.eq_iff_iff]; simp
  obtain ⟨eP, heP⟩ : ∃ e, e = h &&& 64 := ⟨_, rfl⟩
  have handP : ∀ xo yo, binA Try.prog .and 3 xo yo (.v (.int .i64 (h : Nat))) (.v (.int .i64 64)) = some (.v (.int .i64 (eP : Nat))) := fun xo yo => by rw [heP]; exact binA_andN _ xo yo hlt (by decide)
  obtain ⟨bP, hbP⟩ : ∃ b, b = hB x1 64 := ⟨_, rfl⟩
  have hneP : (((eP : Nat) : Int) != 0) = bP := by rw [hbP, hB, ← hh, ← heP]; simp [bne, Int.natCast_eq_zero]; rw [Bool.eq_iff_iff]; simp
  obtain ⟨eM, heM⟩ : ∃ e, e = h &&& 128 := ⟨_, rfl⟩
  have handM : ∀ xo yo, binA Try.prog .and 3 xo yo (.v (.int .i64 (h : Nat))) (.v (.int .i64 128)) = some (.v (.int .i64 (eM : Nat))) := fun xo yo => by rw [heM]; exact binA_andN _ xo yo hlt (by decide)
  obtain ⟨bM, hbM⟩ : ∃ b, b = hB x1 128 := ⟨_, rfl⟩
  have hneM : (((eM : Nat) : Int) != 0) = bM := by rw [hbM, hB, ← hh, ← heM]; simp [bne, Int.natCast_eq_zero]; rw [Bool.eq_iff_iff]; simp
  obtain ⟨eQ, heQ⟩ : ∃ e, e = h &&& 256 := ⟨_, rfl⟩
  have handQ : ∀ xo yo, binA Try.prog .and 3 xo yo (.v (.int .i64 (h : Nat))) (.v (.int .i64 256)) = some (.v (.int .i64 (eQ : Nat))) := fun xo yo => by rw [heQ]; exact binA_andN _ xo yo hlt (by decide)
  obtain ⟨bQ, hbQ⟩ : ∃ b, b = hB x1 256 := ⟨_, rfl⟩
  have hneQ : (((eQ : Nat) : Int) != 0) = bQ := by rw [hbQ, hB, ← hh, ← heQ]; simp [bne, Int.natCast_eq_zero]; rw [Bool.eq_iff_iff]; simp
  obtain ⟨eJ, heJ⟩ : ∃ e, e = h &&& 512 := ⟨_, rfl⟩
  have handJ : ∀ xo yo, binA Try.prog .and 3 xo yo (.v (.int .i64 (h : Nat))) (.v (.int .i64 512)) = some (.v (.int .i64 (eJ : Nat))) := fun xo yo => by rw [heJ]; exact binA_andN _ xo yo hlt (by decide)
  obtain ⟨bJ, hbJ⟩ : ∃ b, b = hB x1 512 := ⟨_, rfl⟩
  have hneJ : (((eJ : Nat) : Int) != 0) = bJ := by rw [hbJ, hB, ← hh, ← heJ]; simp [bne, Int.natCast_eq_zero]; rw [Bool.eq_iff_iff]; simp
  have heqE : (((eE : Nat) : Int) == 0) = !bE := by rw [← hneE]; simp [bne]
  have hW : ∀ j, (bJ && x14) = j → WkL [.v (.int .u8 x1.toNat), .v (.int .u8 (bif bE then 0 else x2 : UInt8).toNat), .v (.int .u64 (bif bE then 0 else x3 : Nat)), allA (!bE) x4, .v (.int .u8 (bif bT then x5 else 0 : UInt8).toNat), .v (.int .u8 (bif bV then x6 else 0 : UInt8).toNat), .v (.int .u8 (bif bO then x7 else 0 : UInt8).toNat), .v (.int .u64 (limb (bif bN then x8.v else 0 : Nat) 0)), .v (.int .u64 (limb (bif bN then x8.v else 0 : Nat) 1)), .v (.int .u64 (limb (bif bN then x8.v else 0 : Nat) 2)), .v (.int .u64 (limb (bif bN then x8.v else 0 : Nat) 3)), allA bC x9, outA bU x10, .v (.int .u8 (bif bP then xpk else 0 : UInt8).toNat), .v (.int .u64 (bif bP then xps else 0 : Nat)), .v (.int .u64 (bif bP then xpe else 0 : Nat)), allA bP xpt, perA bP xpq, .v (.int .u64 (bif bM then x12 else 0 : Nat)), .v (.int .u16 (bif bQ then x13 else 0 : Nat)), .v (.bool j)] (msgC A) := by
    intro j hj
    rw [hA]
    simp only [msgC, onlyM, ← hbE, ← hbT, ← hbV, ← hbO, ← hbN, ← hbC, ← hbU, ← hbP, ← hbM, ← hbQ, ← hbJ]
    refine .cons (Wk.refl _) (.cons (Wk.refl _) (.cons (wk_eq ?_) (.cons (wk_all ?_) (.cons (Wk.refl _) (.cons (Wk.refl _) (.cons (Wk.refl _) (.cons (wk_eq ?_) (.cons (wk_eq ?_) (.cons (wk_eq ?_) (.cons (wk_eq ?_) (.cons (wk_all ?_) (.cons (wk_out ?_) (.cons (wk_eq ?_) (.cons (wk_eq ?_) (.cons (wk_eq ?_) (.cons (wk_all ?_) (.cons (wk_per ?_) (.cons (Wk.refl _) (.cons (Wk.refl _) (.cons (wk_eq ?_) .nil))))))))))))))))))))
    all_goals first | rfl | (cases bE <;> rfl) | (cases bN <;> rfl) | (cases bP <;> rfl) | (rw [hj])
  clear hA hh hbE hbT hbV hbO hbN hbC hbU hbP hbM hbQ hbJ heE heT heV heO heN heC heU heP heM heQ heJ
  have hd21 : ∀ f : Nat → AV, List.drop 21 (List.map f (List.range 21)) = [] := fun _ => rfl
  have hl0 : ∀ i, limb 0 i = 0 := by intro i; simp [limb]
  have ic1 : ∀ (b : Bool) (l : List Coin), (allA b l).isCell = true := fun b l => by cases b <;> rfl
  have ic2 : ∀ (b : Bool) (l : List Out), (outA b l).isCell = true := fun b l => by cases b <;> rfl
  have ic3 : ∀ (b : Bool) (l : List Per), (perA b l).isCell = true := fun b l => by cases b <;> rfl
  simp only [AV.isCell] at ic1 ic2 ic3
  have F := And.intro hd21 (And.intro hl0 (And.intro ic1 (And.intro ic2 (And.intro ic3 (And.intro handE (And.intro handT (And.intro handV (And.intro handO (And.intro handN (And.intro handC (And.intro handU (And.intro handP (And.intro handM (And.intro handQ (And.intro handJ (And.intro hneE (And.intro hneT (And.intro hneV (And.intro hneO (And.intro hneN (And.intro hneC (And.intro hneU (And.intro hneP (And.intro hneM (And.intro hneQ (And.intro hneJ (And.intro heqE (True.intro))))))))))))))))))))))))))))
  refine callsA_body Try.func96 rfl rfl rfl ?_; refine sr fun _ hJ2 => ?_; refine hJ2 _ _ ?_; refine sr fun _ hJ4 => ?_; refine ca (c := hhas _) (k := ?_); rintro _ _ ⟨rfl, rfl⟩; (repeat (first | simp [F] | simp (disch := omega) only [wC, if_pos, if_neg])); refine hJ4 _ _ ?_; refine sr fun _ hJ6 => ?_; refine hJ6 _ _ ?_; refine sqc (X := Unit) [1, 2, 3, 5] (fun z ρ σ1 => (σ1 = { σ with objs := σ.objs ++ [[.v (.int .u8 x1.toNat), .v (.int .u8 x2.toNat), .v (.int .u64 x3), .sl 5 (coinsC x4) x4.length .shut, .v (.int .u8 x5.toNat), .v (.int .u8 x6.toNat), .v (.int .u8 x7.toNat), .v (.int .u64 (limb x8.v 0)), .v (.int .u64 (limb x8.v 1)), .v (.int .u64 (limb x8.v 2)), .v (.int .u64 (limb x8.v 3)), .sl 5 (coinsC x9) x9.length .shut, .sl 2 (outsC x10) x10.length .shut, .v (.int .u8 xpk.toNat), .v (.int .u64 xps), .v (.int .u64 xpe), .sl 5 (coinsC xpt) xpt.length .shut, .sl 2 (persC xpq) xpq.length .shut, .v (.int .u64 x12), .v (.int .u16 x13), .v (.bool x14)], [.v (.int .u8 0), .v (.int .u8 0), .v (.int .u64 0), .sl 0 [] 0 .full, .v (.int .u8 0), .v (.int .u8 0), .v (.int .u8 0), .v (.int .u64 0), .v (.int .u64 0), .v (.int .u64 0), .v (.int .u64 0), .sl 0 [] 0 .full, .sl 0 [] 0 .full, .v (.int .u8 0), .v (.int .u64 0), .v (.int .u64 0), .sl 0 [] 0 .full, .sl 0 [] 0 .full, .v (.int .u64 0), .v (.int .u16 0), .v (.bool false)], [.v (.int .u8 x1.toNat), .v (.int .u8 (bif bE then 0 else x2 : UInt8).toNat), .v (.int .u64 (bif bE then 0 else x3 : Nat)), allA (!bE) x4, .v (.int .u8 0), .v (.int .u8 0), .v (.int .u8 0), .v (.int .u64 0), .v (.int .u64 0), .v (.int .u64 0), .v (.int .u64 0), .sl 0 [] 0 .full, .sl 0 [] 0 .full, .v (.int .u8 0), .v (.int .u64 0), .v (.int .u64 0), .sl 0 [] 0 .full, .sl 0 [] 0 .full, .v (.int .u64 0), .v (.int .u16 0), .v (.bool false)]] })) ?cy7 ?cx7
  case cy7 =>
   rintro z ρCc17 σ1 hFCc17 hσ; obtain rfl := hσ.symm
   have fCc17 := keepL hFCc17
   (try simp [KeepL, F] at fCc17); (try replace F := aF fCc17 F); refine sqc (X := Unit) [1, 2, 3, 5] (fun z ρ σ1 => (σ1 = { σ with objs := σ.objs ++ [[.v (.int .u8 x1.toNat), .v (.int .u8 x2.toNat), .v (.int .u64 x3), .sl 5 (coinsC x4) x4.length .shut, .v (.int .u8 x5.toNat), .v (.int .u8 x6.toNat), .v (.int .u8 x7.toNat), .v (.int .u64 (limb x8.v 0)), .v (.int .u64 (limb x8.v 1)), .v (.int .u64 (limb x8.v 2)), .v (.int .u64 (limb x8.v 3)), .sl 5 (coinsC x9) x9.length .shut, .sl 2 (outsC x10) x10.length .shut, .v (.int .u8 xpk.toNat), .v (.int .u64 xps), .v (.int .u64 xpe), .sl 5 (coinsC xpt) xpt.length .shut, .sl 2 (persC xpq) xpq.length .shut, .v (.int .u64 x12), .v (.int .u16 x13), .v (.bool x14)], [.v (.int .u8 0), .v (.int .u8 0), .v (.int .u64 0), .sl 0 [] 0 .full, .v (.int .u8 0), .v (.int .u8 0), .v (.int .u8 0), .v (.int .u64 0), .v (.int .u64 0), .v (.int .u64 0), .v (.int .u64 0), .sl 0 [] 0 .full, .sl 0 [] 0 .full, .v (.int .u8 0), .v (.int .u64 0), .v (.int .u64 0), .sl 0 [] 0 .full, .sl 0 [] 0 .full, .v (.int .u64 0), .v (.int .u16 0), .v (.bool false)], [.v (.int .u8 x1.toNat), .v (.int .u8 (bif bE then 0 else x2 : UInt8).toNat), .v (.int .u64 (bif bE then 0 else x3 : Nat)), allA (!bE) x4, .v (.int .u8 (bif bT then x5 else 0 : UInt8).toNat), .v (.int .u8 0), .v (.int .u8 0), .v (.int .u64 0), .v (.int .u64 0), .v (.int .u64 0), .v (.int .u64 0), .sl 0 [] 0 .full, .sl 0 [] 0 .full, .v (.int .u8 0), .v (.int .u64 0), .v (.int .u64 0), .sl 0 [] 0 .full, .sl 0 [] 0 .full, .v (.int .u64 0), .v (.int .u16 0), .v (.bool false)]] })) ?cy8 ?cx8
   case cy8 =>
    rintro z ρCc29 σ1 hFCc29 hσ; obtain rfl := hσ.symm
    have fCc29 := keepL hFCc29
    (try simp [KeepL, F] at fCc29); (try replace F := aF fCc29 F); refine sqc (X := Unit) [1, 2, 3, 5] (fun z ρ σ1 => (σ1 = { σ with objs := σ.objs ++ [[.v (.int .u8 x1.toNat), .v (.int .u8 x2.toNat), .v (.int .u64 x3), .sl 5 (coinsC x4) x4.length .shut, .v (.int .u8 x5.toNat), .v (.int .u8 x6.toNat), .v (.int .u8 x7.toNat), .v (.int .u64 (limb x8.v 0)), .v (.int .u64 (limb x8.v 1)), .v (.int .u64 (limb x8.v 2)), .v (.int .u64 (limb x8.v 3)), .sl 5 (coinsC x9) x9.length .shut, .sl 2 (outsC x10) x10.length .shut, .v (.int .u8 xpk.toNat), .v (.int .u64 xps), .v (.int .u64 xpe), .sl 5 (coinsC xpt) xpt.length .shut, .sl 2 (persC xpq) xpq.length .shut, .v (.int .u64 x12), .v (.int .u16 x13), .v (.bool x14)], [.v (.int .u8 0), .v (.int .u8 0), .v (.int .u64 0), .sl 0 [] 0 .full, .v (.int .u8 0), .v (.int .u8 0), .v (.int .u8 0), .v (.int .u64 0), .v (.int .u64 0), .v (.int .u64 0), .v (.int .u64 0), .sl 0 [] 0 .full, .sl 0 [] 0 .full, .v (.int .u8 0), .v (.int .u64 0), .v (.int .u64 0), .sl 0 [] 0 .full, .sl 0 [] 0 .full, .v (.int .u64 0), .v (.int .u16 0), .v (.bool false)], [.v (.int .u8 x1.toNat), .v (.int .u8 (bif bE then 0 else x2 : UInt8).toNat), .v (.int .u64 (bif bE then 0 else x3 : Nat)), allA (!bE) x4, .v (.int .u8 (bif bT then x5 else 0 : UInt8).toNat), .v (.int .u8 (bif bV then x6 else 0 : UInt8).toNat), .v (.int .u8 0), .v (.int .u64 0), .v (.int .u64 0), .v (.int .u64 0), .v (.int .u64 0), .sl 0 [] 0 .full, .sl 0 [] 0 .full, .v (.int .u8 0), .v (.int .u64 0), .v (.int .u64 0), .sl 0 [] 0 .full, .sl 0 [] 0 .full, .v (.int .u64 0), .v (.int .u16 0), .v (.bool false)]] })) ?cy9 ?cx9
    case cy9 =>
     rintro z ρCc35 σ1 hFCc35 hσ; obtain rfl := hσ.symm
     have fCc35 := keepL hFCc35
     (try simp [KeepL, F] at fCc35); (try replace F := aF fCc35 F); refine sqc (X := Unit) [1, 2, 3, 5] (fun z ρ σ1 => (σ1 = { σ with objs := σ.objs ++ [[.v (.int .u8 x1.toNat), .v (.int .u8 x2.toNat), .v (.int .u64 x3), .sl 5 (coinsC x4) x4.length .shut, .v (.int .u8 x5.toNat), .v (.int .u8 x6.toNat), .v (.int .u8 x7.toNat), .v (.int .u64 (limb x8.v 0)), .v (.int .u64 (limb x8.v 1)), .v (.int .u64 (limb x8.v 2)), .v (.int .u64 (limb x8.v 3)), .sl 5 (coinsC x9) x9.length .shut, .sl 2 (outsC x10) x10.length .shut, .v (.int .u8 xpk.toNat), .v (.int .u64 xps), .v (.int .u64 xpe), .sl 5 (coinsC xpt) xpt.length .shut, .sl 2 (persC xpq) xpq.length .shut, .v (.int .u64 x12), .v (.int .u16 x13), .v (.bool x14)], [.v (.int .u8 0), .v (.int .u8 0), .v (.int .u64 0), .sl 0 [] 0 .full, .v (.int .u8 0), .v (.int .u8 0), .v (.int .u8 0), .v (.int .u64 0), .v (.int .u64 0), .v (.int .u64 0), .v (.int .u64 0), .sl 0 [] 0 .full, .sl 0 [] 0 .full, .v (.int .u8 0), .v (.int .u64 0), .v (.int .u64 0), .sl 0 [] 0 .full, .sl 0 [] 0 .full, .v (.int .u64 0), .v (.int .u16 0), .v (.bool false)], [.v (.int .u8 x1.toNat), .v (.int .u8 (bif bE then 0 else x2 : UInt8).toNat), .v (.int .u64 (bif bE then 0 else x3 : Nat)), allA (!bE) x4, .v (.int .u8 (bif bT then x5 else 0 : UInt8).toNat), .v (.int .u8 (bif bV then x6 else 0 : UInt8).toNat), .v (.int .u8 (bif bO then x7 else 0 : UInt8).toNat), .v (.int .u64 0), .v (.int .u64 0), .v (.int .u64 0), .v (.int .u64 0), .sl 0 [] 0 .full, .sl 0 [] 0 .full, .v (.int .u8 0), .v (.int .u64 0), .v (.int .u64 0), .sl 0 [] 0 .full, .sl 0 [] 0 .full, .v (.int .u64 0), .v (.int .u16 0), .v (.bool false)]] })) ?cy10 ?cx10
     case cy10 =>
      rintro z ρCc41 σ1 hFCc41 hσ; obtain rfl := hσ.symm
      have fCc41 := keepL hFCc41
      (try simp [KeepL, F] at fCc41); (try replace F := aF fCc41 F); refine sqc (X := Unit) [1, 2, 3, 5] (fun z ρ σ1 => (σ1 = { σ with objs := σ.objs ++ [[.v (.int .u8 x1.toNat), .v (.int .u8 x2.toNat), .v (.int .u64 x3), .sl 5 (coinsC x4) x4.length .shut, .v (.int .u8 x5.toNat), .v (.int .u8 x6.toNat), .v (.int .u8 x7.toNat), .v (.int .u64 (limb x8.v 0)), .v (.int .u64 (limb x8.v 1)), .v (.int .u64 (limb x8.v 2)), .v (.int .u64 (limb x8.v 3)), .sl 5 (coinsC x9) x9.length .shut, .sl 2 (outsC x10) x10.length .shut, .v (.int .u8 xpk.toNat), .v (.int .u64 xps), .v (.int .u64 xpe), .sl 5 (coinsC xpt) xpt.length .shut, .sl 2 (persC xpq) xpq.length .shut, .v (.int .u64 x12), .v (.int .u16 x13), .v (.bool x14)], [.v (.int .u8 0), .v (.int .u8 0), .v (.int .u64 0), .sl 0 [] 0 .full, .v (.int .u8 0), .v (.int .u8 0), .v (.int .u8 0), .v (.int .u64 0), .v (.int .u64 0), .v (.int .u64 0), .v (.int .u64 0), .sl 0 [] 0 .full, .sl 0 [] 0 .full, .v (.int .u8 0), .v (.int .u64 0), .v (.int .u64 0), .sl 0 [] 0 .full, .sl 0 [] 0 .full, .v (.int .u64 0), .v (.int .u16 0), .v (.bool false)], [.v (.int .u8 x1.toNat), .v (.int .u8 (bif bE then 0 else x2 : UInt8).toNat), .v (.int .u64 (bif bE then 0 else x3 : Nat)), allA (!bE) x4, .v (.int .u8 (bif bT then x5 else 0 : UInt8).toNat), .v (.int .u8 (bif bV then x6 else 0 : UInt8).toNat), .v (.int .u8 (bif bO then x7 else 0 : UInt8).toNat), .v (.int .u64 (limb (bif bN then x8.v else 0 : Nat) 0)), .v (.int .u64 (limb (bif bN then x8.v else 0 : Nat) 1)), .v (.int .u64 (limb (bif bN then x8.v else 0 : Nat) 2)), .v (.int .u64 (limb (bif bN then x8.v else 0 : Nat) 3)), .sl 0 [] 0 .full, .sl 0 [] 0 .full, .v (.int .u8 0), .v (.int .u64 0), .v (.int .u64 0), .sl 0 [] 0 .full, .sl 0 [] 0 .full, .v (.int .u64 0), .v (.int .u16 0), .v (.bool false)]] })) ?cy11 ?cx11
      case cy11 =>
       rintro z ρCc47 σ1 hFCc47 hσ; obtain rfl := hσ.symm
       have fCc47 := keepL hFCc47
       (try simp [KeepL, F] at fCc47); (try replace F := aF fCc47 F); refine sqc (X := Unit) [1, 2, 3, 5] (fun z ρ σ1 => (σ1 = { σ with objs := σ.objs ++ [[.v (.int .u8 x1.toNat), .v (.int .u8 x2.toNat), .v (.int .u64 x3), .sl 5 (coinsC x4) x4.length .shut, .v (.int .u8 x5.toNat), .v (.int .u8 x6.toNat), .v (.int .u8 x7.toNat), .v (.int .u64 (limb x8.v 0)), .v (.int .u64 (limb x8.v 1)), .v (.int .u64 (limb x8.v 2)), .v (.int .u64 (limb x8.v 3)), .sl 5 (coinsC x9) x9.length .shut, .sl 2 (outsC x10) x10.length .shut, .v (.int .u8 xpk.toNat), .v (.int .u64 xps), .v (.int .u64 xpe), .sl 5 (coinsC xpt) xpt.length .shut, .sl 2 (persC xpq) xpq.length .shut, .v (.int .u64 x12), .v (.int .u16 x13), .v (.bool x14)], [.v (.int .u8 0), .v (.int .u8 0), .v (.int .u64 0), .sl 0 [] 0 .full, .v (.int .u8 0), .v (.int .u8 0), .v (.int .u8 0), .v (.int .u64 0), .v (.int .u64 0), .v (.int .u64 0), .v (.int .u64 0), .sl 0 [] 0 .full, .sl 0 [] 0 .full, .v (.int .u8 0), .v (.int .u64 0), .v (.int .u64 0), .sl 0 [] 0 .full, .sl 0 [] 0 .full, .v (.int .u64 0), .v (.int .u16 0), .v (.bool false)], [.v (.int .u8 x1.toNat), .v (.int .u8 (bif bE then 0 else x2 : UInt8).toNat), .v (.int .u64 (bif bE then 0 else x3 : Nat)), allA (!bE) x4, .v (.int .u8 (bif bT then x5 else 0 : UInt8).toNat), .v (.int .u8 (bif bV then x6 else 0 : UInt8).toNat), .v (.int .u8 (bif bO then x7 else 0 : UInt8).toNat), .v (.int .u64 (limb (bif bN then x8.v else 0 : Nat) 0)), .v (.int .u64 (limb (bif bN then x8.v else 0 : Nat) 1)), .v (.int .u64 (limb (bif bN then x8.v else 0 : Nat) 2)), .v (.int .u64 (limb (bif bN then x8.v else 0 : Nat) 3)), allA bC x9, .sl 0 [] 0 .full, .v (.int .u8 0), .v (.int .u64 0), .v (.int .u64 0), .sl 0 [] 0 .full, .sl 0 [] 0 .full, .v (.int .u64 0), .v (.int .u16 0), .v (.bool false)]] })) ?cy12 ?cx12
       case cy12 =>
        rintro z ρCc53 σ1 hFCc53 hσ; obtain rfl := hσ.symm
        have fCc53 := keepL hFCc53
        (try simp [KeepL, F] at fCc53); (try replace F := aF fCc53 F); refine sqc (X := Unit) [1, 2, 3, 5] (fun z ρ σ1 => (σ1 = { σ with objs := σ.objs ++ [[.v (.int .u8 x1.toNat), .v (.int .u8 x2.toNat), .v (.int .u64 x3), .sl 5 (coinsC x4) x4.length .shut, .v (.int .u8 x5.toNat), .v (.int .u8 x6.toNat), .v (.int .u8 x7.toNat), .v (.int .u64 (limb x8.v 0)), .v (.int .u64 (limb x8.v 1)), .v (.int .u64 (limb x8.v 2)), .v (.int .u64 (limb x8.v 3)), .sl 5 (coinsC x9) x9.length .shut, .sl 2 (outsC x10) x10.length .shut, .v (.int .u8 xpk.toNat), .v (.int .u64 xps), .v (.int .u64 xpe), .sl 5 (coinsC xpt) xpt.length .shut, .sl 2 (persC xpq) xpq.length .shut, .v (.int .u64 x12), .v (.int .u16 x13), .v (.bool x14)], [.v (.int .u8 0), .v (.int .u8 0), .v (.int .u64 0), .sl 0 [] 0 .full, .v (.int .u8 0), .v (.int .u8 0), .v (.int .u8 0), .v (.int .u64 0), .v (.int .u64 0), .v (.int .u64 0), .v (.int .u64 0), .sl 0 [] 0 .full, .sl 0 [] 0 .full, .v (.int .u8 0), .v (.int .u64 0), .v (.int .u64 0), .sl 0 [] 0 .full, .sl 0 [] 0 .full, .v (.int .u64 0), .v (.int .u16 0), .v (.bool false)], [.v (.int .u8 x1.toNat), .v (.int .u8 (bif bE then 0 else x2 : UInt8).toNat), .v (.int .u64 (bif bE then 0 else x3 : Nat)), allA (!bE) x4, .v (.int .u8 (bif bT then x5 else 0 : UInt8).toNat), .v (.int .u8 (bif bV then x6 else 0 : UInt8).toNat), .v (.int .u8 (bif bO then x7 else 0 : UInt8).toNat), .v (.int .u64 (limb (bif bN then x8.v else 0 : Nat) 0)), .v (.int .u64 (limb (bif bN then x8.v else 0 : Nat) 1)), .v (.int .u64 (limb (bif bN then x8.v else 0 : Nat) 2)), .v (.int .u64 (limb (bif bN then x8.v else 0 : Nat) 3)), allA bC x9, outA bU x10, .v (.int .u8 0), .v (.int .u64 0), .v (.int .u64 0), .sl 0 [] 0 .full, .sl 0 [] 0 .full, .v (.int .u64 0), .v (.int .u16 0), .v (.bool false)]] })) ?cy13 ?cx13
        case cy13 =>
         rintro z ρCc59 σ1 hFCc59 hσ; obtain rfl := hσ.symm
         have fCc59 := keepL hFCc59
         (try simp [KeepL, F] at fCc59); (try replace F := aF fCc59 F); refine sqc (X := Unit) [1, 2, 3, 5] (fun z ρ σ1 => (σ1 = { σ with objs := σ.objs ++ [[.v (.int .u8 x1.toNat), .v (.int .u8 x2.toNat), .v (.int .u64 x3), .sl 5 (coinsC x4) x4.length .shut, .v (.int .u8 x5.toNat), .v (.int .u8 x6.toNat), .v (.int .u8 x7.toNat), .v (.int .u64 (limb x8.v 0)), .v (.int .u64 (limb x8.v 1)), .v (.int .u64 (limb x8.v 2)), .v (.int .u64 (limb x8.v 3)), .sl 5 (coinsC x9) x9.length .shut, .sl 2 (outsC x10) x10.length .shut, .v (.int .u8 xpk.toNat), .v (.int .u64 xps), .v (.int .u64 xpe), .sl 5 (coinsC xpt) xpt.length .shut, .sl 2 (persC xpq) xpq.length .shut, .v (.int .u64 x12), .v (.int .u16 x13), .v (.bool x14)], [.v (.int .u8 0), .v (.int .u8 0), .v (.int .u64 0), .sl 0 [] 0 .full, .v (.int .u8 0), .v (.int .u8 0), .v (.int .u8 0), .v (.int .u64 0), .v (.int .u64 0), .v (.int .u64 0), .v (.int .u64 0), .sl 0 [] 0 .full, .sl 0 [] 0 .full, .v (.int .u8 0), .v (.int .u64 0), .v (.int .u64 0), .sl 0 [] 0 .full, .sl 0 [] 0 .full, .v (.int .u64 0), .v (.int .u16 0), .v (.bool false)], [.v (.int .u8 x1.toNat), .v (.int .u8 (bif bE then 0 else x2 : UInt8).toNat), .v (.int .u64 (bif bE then 0 else x3 : Nat)), allA (!bE) x4, .v (.int .u8 (bif bT then x5 else 0 : UInt8).toNat), .v (.int .u8 (bif bV then x6 else 0 : UInt8).toNat), .v (.int .u8 (bif bO then x7 else 0 : UInt8).toNat), .v (.int .u64 (limb (bif bN then x8.v else 0 : Nat) 0)), .v (.int .u64 (limb (bif bN then x8.v else 0 : Nat) 1)), .v (.int .u64 (limb (bif bN then x8.v else 0 : Nat) 2)), .v (.int .u64 (limb (bif bN then x8.v else 0 : Nat) 3)), allA bC x9, outA bU x10, .v (.int .u8 (bif bP then xpk else 0 : UInt8).toNat), .v (.int .u64 (bif bP then xps else 0 : Nat)), .v (.int .u64 (bif bP then xpe else 0 : Nat)), allA bP xpt, perA bP xpq, .v (.int .u64 0), .v (.int .u16 0), .v (.bool false)]] })) ?cy14 ?cx14
         case cy14 =>
          rintro z ρCc65 σ1 hFCc65 hσ; obtain rfl := hσ.symm
          have fCc65 := keepL hFCc65
          (try simp [KeepL, F] at fCc65); (try replace F := aF fCc65 F); refine sqc (X := Unit) [1, 2, 3, 5] (fun z ρ σ1 => (σ1 = { σ with objs := σ.objs ++ [[.v (.int .u8 x1.toNat), .v (.int .u8 x2.toNat), .v (.int .u64 x3), .sl 5 (coinsC x4) x4.length .shut, .v (.int .u8 x5.toNat), .v (.int .u8 x6.toNat), .v (.int .u8 x7.toNat), .v (.int .u64 (limb x8.v 0)), .v (.int .u64 (limb x8.v 1)), .v (.int .u64 (limb x8.v 2)), .v (.int .u64 (limb x8.v 3)), .sl 5 (coinsC x9) x9.length .shut, .sl 2 (outsC x10) x10.length .shut, .v (.int .u8 xpk.toNat), .v (.int .u64 xps), .v (.int .u64 xpe), .sl 5 (coinsC xpt) xpt.length .shut, .sl 2 (persC xpq) xpq.length .shut, .v (.int .u64 x12), .v (.int .u16 x13), .v (.bool x14)], [.v (.int .u8 0), .v (.int .u8 0), .v (.int .u64 0), .sl 0 [] 0 .full, .v (.int .u8 0), .v (.int .u8 0), .v (.int .u8 0), .v (.int .u64 0), .v (.int .u64 0), .v (.int .u64 0), .v (.int .u64 0), .sl 0 [] 0 .full, .sl 0 [] 0 .full, .v (.int .u8 0), .v (.int .u64 0), .v (.int .u64 0), .sl 0 [] 0 .full, .sl 0 [] 0 .full, .v (.int .u64 0), .v (.int .u16 0), .v (.bool false)], [.v (.int .u8 x1.toNat), .v (.int .u8 (bif bE then 0 else x2 : UInt8).toNat), .v (.int .u64 (bif bE then 0 else x3 : Nat)), allA (!bE) x4, .v (.int .u8 (bif bT then x5 else 0 : UInt8).toNat), .v (.int .u8 (bif bV then x6 else 0 : UInt8).toNat), .v (.int .u8 (bif bO then x7 else 0 : UInt8).toNat), .v (.int .u64 (limb (bif bN then x8.v else 0 : Nat) 0)), .v (.int .u64 (limb (bif bN then x8.v else 0 : Nat) 1)), .v (.int .u64 (limb (bif bN then x8.v else 0 : Nat) 2)), .v (.int .u64 (limb (bif bN then x8.v else 0 : Nat) 3)), allA bC x9, outA bU x10, .v (.int .u8 (bif bP then xpk else 0 : UInt8).toNat), .v (.int .u64 (bif bP then xps else 0 : Nat)), .v (.int .u64 (bif bP then xpe else 0 : Nat)), allA bP xpt, perA bP xpq, .v (.int .u64 (bif bM then x12 else 0 : Nat)), .v (.int .u16 0), .v (.bool false)]] })) ?cy15 ?cx15
          case cy15 =>
           rintro z ρCc71 σ1 hFCc71 hσ; obtain rfl := hσ.symm
           have fCc71 := keepL hFCc71
           (try simp [KeepL, F] at fCc71); (try replace F := aF fCc71 F); refine sqc (X := Unit) [1, 2, 3, 5] (fun z ρ σ1 => (σ1 = { σ with objs := σ.objs ++ [[.v (.int .u8 x1.toNat), .v (.int .u8 x2.toNat), .v (.int .u64 x3), .sl 5 (coinsC x4) x4.length .shut, .v (.int .u8 x5.toNat), .v (.int .u8 x6.toNat), .v (.int .u8 x7.toNat), .v (.int .u64 (limb x8.v 0)), .v (.int .u64 (limb x8.v 1)), .v (.int .u64 (limb x8.v 2)), .v (.int .u64 (limb x8.v 3)), .sl 5 (coinsC x9) x9.length .shut, .sl 2 (outsC x10) x10.length .shut, .v (.int .u8 xpk.toNat), .v (.int .u64 xps), .v (.int .u64 xpe), .sl 5 (coinsC xpt) xpt.length .shut, .sl 2 (persC xpq) xpq.length .shut, .v (.int .u64 x12), .v (.int .u16 x13), .v (.bool x14)], [.v (.int .u8 0), .v (.int .u8 0), .v (.int .u64 0), .sl 0 [] 0 .full, .v (.int .u8 0), .v (.int .u8 0), .v (.int .u8 0), .v (.int .u64 0), .v (.int .u64 0), .v (.int .u64 0), .v (.int .u64 0), .sl 0 [] 0 .full, .sl 0 [] 0 .full, .v (.int .u8 0), .v (.int .u64 0), .v (.int .u64 0), .sl 0 [] 0 .full, .sl 0 [] 0 .full, .v (.int .u64 0), .v (.int .u16 0), .v (.bool false)], [.v (.int .u8 x1.toNat), .v (.int .u8 (bif bE then 0 else x2 : UInt8).toNat), .v (.int .u64 (bif bE then 0 else x3 : Nat)), allA (!bE) x4, .v (.int .u8 (bif bT then x5 else 0 : UInt8).toNat), .v (.int .u8 (bif bV then x6 else 0 : UInt8).toNat), .v (.int .u8 (bif bO then x7 else 0 : UInt8).toNat), .v (.int .u64 (limb (bif bN then x8.v else 0 : Nat) 0)), .v (.int .u64 (limb (bif bN then x8.v else 0 : Nat) 1)), .v (.int .u64 (limb (bif bN then x8.v else 0 : Nat) 2)), .v (.int .u64 (limb (bif bN then x8.v else 0 : Nat) 3)), allA bC x9, outA bU x10, .v (.int .u8 (bif bP then xpk else 0 : UInt8).toNat), .v (.int .u64 (bif bP then xps else 0 : Nat)), .v (.int .u64 (bif bP then xpe else 0 : Nat)), allA bP xpt, perA bP xpq, .v (.int .u64 (bif bM then x12 else 0 : Nat)), .v (.int .u16 (bif bQ then x13 else 0 : Nat)), .v (.bool false)]] })) ?cy16 ?cx16
           case cy16 =>
            rintro z ρCc77 σ1 hFCc77 hσ; obtain rfl := hσ.symm
            have fCc77 := keepL hFCc77
            (try simp [KeepL, F] at fCc77); (try replace F := aF fCc77 F); refine sr fun _ hJ18 => ?_; refine gs 84 (fun g23_3 => ?_) (fun g23_3 => ?_)
            · (try exact nope g23_3); all_goals have g23_3p := g23_3; try simp [F] at g23_3p
              all_goals
               replace F := aF g23_3 F; (try replace F := aF g23_3p F); (iterate 2 refine go2 (k := ?_)); refine hJ18 _ _ ?_; refine sr fun _ hJ20 => ?_; refine hJ20 _ _ ?_; refine run_ret ?_; (try simp only [Then, InBlock, NoGoto]); refine acell (h := ?_)
               show Wk _ _ ∧ _
               refine gcr (hA := ?_); exact WkL.agg (hW _ (by simp [F]))
            (try exact nope g23_3); all_goals have g23_3p := g23_3; try simp [F] at g23_3p
            all_goals
             replace F := aF g23_3 F; (try replace F := aF g23_3p F); (iterate 2 refine no2 (k := ?_)); refine hJ18 _ _ ?_; refine sr fun _ hJ22 => ?_; refine hJ22 _ _ ?_; refine run_ret ?_; (try simp only [Then, InBlock, NoGoto]); refine acell (h := ?_)
             show Wk _ _ ∧ _
             refine gcr (hA := ?_); exact WkL.agg (hW _ (by simp [F]))
           case cx16 =>
            intro K16 hK16
            refine sr fun _ hJ24 => ?_; refine hJ24 _ _ ?_; refine cs (t := bQ) (fun c77 => ?_) (fun c77 => ?_)
            · (try exact nope c77); all_goals have c77p := c77; try simp [F] at c77p
              all_goals
               replace F := aF c77 F; (try replace F := aF c77p F); refine rg' (h := fun J25 hJ25 => ?_); refine hJ25 _ _ ?_; refine hK16 (()) _ _ ⟨kp, ?_⟩
               · simp [F]
            (try exact nope c77); all_goals have c77p := c77; try simp [F] at c77p
            all_goals
             replace F := aF c77 F; (try replace F := aF c77p F); refine run_skip ?_; refine hK16 (()) _ _ ⟨kp, ?_⟩
             · simp [F]
          case cx15 =>
           intro K15 hK15
           refine sr fun _ hJ27 => ?_; refine hJ27 _ _ ?_; refine cs (t := bM) (fun c71 => ?_) (fun c71 => ?_)
           · (try exact nope c71); all_goals have c71p := c71; try simp [F] at c71p
             all_goals
              replace F := aF c71 F; (try replace F := aF c71p F); refine rg' (h := fun J28 hJ28 => ?_); refine hJ28 _ _ ?_; refine hK15 (()) _ _ ⟨kp, ?_⟩
              · simp [F]
           (try exact nope c71); all_goals have c71p := c71; try simp [F] at c71p
           all_goals
            replace F := aF c71 F; (try replace F := aF c71p F); refine run_skip ?_; refine hK15 (()) _ _ ⟨kp, ?_⟩
            · simp [F]
         case cx14 =>
          intro K14 hK14
          refine sr fun _ hJ30 => ?_; refine hJ30 _ _ ?_; refine cs (t := bP) (fun c65 => ?_) (fun c65 => ?_)
          · (try exact nope c65); all_goals have c65p := c65; try simp [F] at c65p
            all_goals
             replace F := aF c65 F; (try replace F := aF c65p F); refine rg' (h := fun J31 hJ31 => ?_); refine hJ31 _ _ ?_; refine hK14 (()) _ _ ⟨kp, ?_⟩
             · simp [F]
          (try exact nope c65); all_goals have c65p := c65; try simp [F] at c65p
          all_goals
           replace F := aF c65 F; (try replace F := aF c65p F); refine run_skip ?_; refine hK14 (()) _ _ ⟨kp, ?_⟩
           · simp [F]
        case cx13 =>
         intro K13 hK13
         refine sr fun _ hJ33 => ?_; refine hJ33 _ _ ?_; refine cs (t := bU) (fun c59 => ?_) (fun c59 => ?_)
         · (try exact nope c59); all_goals have c59p := c59; try simp [F] at c59p
           all_goals
            replace F := aF c59 F; (try replace F := aF c59p F); refine rg' (h := fun J34 hJ34 => ?_); refine hJ34 _ _ ?_; refine hK13 (()) _ _ ⟨kp, ?_⟩
            · simp [F]
         (try exact nope c59); all_goals have c59p := c59; try simp [F] at c59p
         all_goals
          replace F := aF c59 F; (try replace F := aF c59p F); refine run_skip ?_; refine hK13 (()) _ _ ⟨kp, ?_⟩
          · simp [F]
       case cx12 =>
        intro K12 hK12
        refine sr fun _ hJ36 => ?_; refine hJ36 _ _ ?_; refine cs (t := bC) (fun c53 => ?_) (fun c53 => ?_)
        · (try exact nope c53); all_goals have c53p := c53; try simp [F] at c53p
          all_goals
           replace F := aF c53 F; (try replace F := aF c53p F); refine rg' (h := fun J37 hJ37 => ?_); refine hJ37 _ _ ?_; refine hK12 (()) _ _ ⟨kp, ?_⟩
           · simp [F]
        (try exact nope c53); all_goals have c53p := c53; try simp [F] at c53p
        all_goals
         replace F := aF c53 F; (try replace F := aF c53p F); refine run_skip ?_; refine hK12 (()) _ _ ⟨kp, ?_⟩
         · simp [F]
      case cx11 =>
       intro K11 hK11
       refine sr fun _ hJ39 => ?_; refine hJ39 _ _ ?_; refine cs (t := bN) (fun c47 => ?_) (fun c47 => ?_)
       · (try exact nope c47); all_goals have c47p := c47; try simp [F] at c47p
         all_goals
          replace F := aF c47 F; (try replace F := aF c47p F); refine rg' (h := fun J40 hJ40 => ?_); refine hJ40 _ _ ?_; refine hK11 (()) _ _ ⟨kp, ?_⟩
          · simp [F]
       (try exact nope c47); all_goals have c47p := c47; try simp [F] at c47p
       all_goals
        replace F := aF c47 F; (try replace F := aF c47p F); refine run_skip ?_; refine hK11 (()) _ _ ⟨kp, ?_⟩
        · simp [F]
     case cx10 =>
      intro K10 hK10
      refine sr fun _ hJ42 => ?_; refine hJ42 _ _ ?_; refine cs (t := bO) (fun c41 => ?_) (fun c41 => ?_)
      · (try exact nope c41); all_goals have c41p := c41; try simp [F] at c41p
        all_goals
         replace F := aF c41 F; (try replace F := aF c41p F); refine rg' (h := fun J43 hJ43 => ?_); refine hJ43 _ _ ?_; refine hK10 (()) _ _ ⟨kp, ?_⟩
         · simp [F]
      (try exact nope c41); all_goals have c41p := c41; try simp [F] at c41p
      all_goals
       replace F := aF c41 F; (try replace F := aF c41p F); refine run_skip ?_; refine hK10 (()) _ _ ⟨kp, ?_⟩
       · simp [F]
    case cx9 =>
     intro K9 hK9
     refine sr fun _ hJ45 => ?_; refine hJ45 _ _ ?_; refine cs (t := bV) (fun c35 => ?_) (fun c35 => ?_)
     · (try exact nope c35); all_goals have c35p := c35; try simp [F] at c35p
       all_goals
        replace F := aF c35 F; (try replace F := aF c35p F); refine rg' (h := fun J46 hJ46 => ?_); refine hJ46 _ _ ?_; refine hK9 (()) _ _ ⟨kp, ?_⟩
        · simp [F]
     (try exact nope c35); all_goals have c35p := c35; try simp [F] at c35p
     all_goals
      replace F := aF c35 F; (try replace F := aF c35p F); refine run_skip ?_; refine hK9 (()) _ _ ⟨kp, ?_⟩
      · simp [F]
   case cx8 =>
    intro K8 hK8
    refine sr fun _ hJ48 => ?_; refine hJ48 _ _ ?_; refine cs (t := bT) (fun c29 => ?_) (fun c29 => ?_)
    · (try exact nope c29); all_goals have c29p := c29; try simp [F] at c29p
      all_goals
       replace F := aF c29 F; (try replace F := aF c29p F); refine rg' (h := fun J49 hJ49 => ?_); refine hJ49 _ _ ?_; refine hK8 (()) _ _ ⟨kp, ?_⟩
       · simp [F]
    (try exact nope c29); all_goals have c29p := c29; try simp [F] at c29p
    all_goals
     replace F := aF c29 F; (try replace F := aF c29p F); refine run_skip ?_; refine hK8 (()) _ _ ⟨kp, ?_⟩
     · simp [F]
  case cx7 =>
   intro K7 hK7
   refine sr fun _ hJ51 => ?_; refine hJ51 _ _ ?_; refine cs (t := !bE) (fun c17 => ?_) (fun c17 => ?_)
   · (try exact nope c17); all_goals have c17p := c17; try simp [F] at c17p
     all_goals
      replace F := aF c17 F; try replace F := aF c17p F
      refine run_draw (by kernel_rfl) fun J52 hJ52 => ?_
      refine rp2 0 (k := ?_); refine rp2 1 (k := ?_); refine rp2 2 (k := ?_); refine rp2 3 (k := ?_); refine rp2 4 (k := ?_); refine rp2 5 (k := ?_); refine rp2 6 (k := ?_); refine dop 7 rfl ?_; repeat (first | simp [F] | simp (disch := omega) only [wC, if_pos, if_neg])
      refine ⟨by first | exact fun _ _ h => h | (refine later_list [5, 4, 3, 2] (by kernel_rfl) (List.forall_mem_cons.2 ⟨fun _ => fact2 rfl rfl ?_, List.forall_mem_cons.2 ⟨fun _ => fact2 rfl rfl ?_, List.forall_mem_cons.2 ⟨fun _ => fact2 rfl rfl ?_, List.forall_mem_cons.2 ⟨fun _ => fact2 rfl rfl ?_, fun _ h => absurd h List.not_mem_nil⟩⟩⟩⟩) <;> constructor <;> first | rfl | (simp [F]; done)), ?_⟩
      refine rp2 8 (k := ?_); refine dop 9 rfl ?_; repeat (first | simp [F] | simp (disch := omega) only [wC, if_pos, if_neg])
      refine ⟨by first | exact fun _ _ h => h | (refine later_list [5, 4] (by kernel_rfl) (List.forall_mem_cons.2 ⟨fun _ => fact2 rfl rfl ?_, List.forall_mem_cons.2 ⟨fun _ => fact2 rfl rfl ?_, fun _ h => absurd h List.not_mem_nil⟩⟩) <;> constructor <;> first | rfl | (simp [F]; done)), ?_⟩
      refine rp2 10 (k := ?_); refine dop 11 rfl ?_; (repeat (first | simp [F] | simp (disch := omega) only [wC, if_pos, if_neg])); refine ⟨ln, ?_⟩; refine dd ?_; refine hJ52 _ _ ?_; refine hK7 (()) _ _ ⟨kp, ?_⟩
      · simp [F]
   (try exact nope c17); all_goals have c17p := c17; try simp [F] at c17p
   all_goals
    replace F := aF c17 F; (try replace F := aF c17p F); refine run_skip ?_; refine hK7 (()) _ _ ⟨kp, ?_⟩
    · simp [F]

set_option maxHeartbeats 1600000 in
attribute [local simp] undefA List.getElem?_cons_zero List.getElem?_cons_succ msgC outsC_noObj persC_noObj in
theorem rmonly_ok {σ : St} {m : Msg} :
    CallsA Try.prog 101 [.agg (msgC m)] σ (fun av σ' => av = .agg (msgC (onlyM m)) ∧ σ = σ') := by
  refine callsA_gcS ?_ (by simp [AV.under, underL, msgC, persC_under, outsC_under])
  obtain ⟨x1, x2, x3, x4, x5, x6, x7, x8, x9, x10, x11, x12, x13, x14⟩ := m
  obtain ⟨xpk, xps, xpe, xpt, xpq⟩ := x11
  have hkn : ∀ n : UInt8, x1 = n ↔ (x1.toNat : Int) = (n.toNat : Int) := fun n => ⟨fun e => by rw [e], fun e => UInt8.toNat_inj.1 (Int.ofNat_inj.1 e)⟩
  have hd21 : ∀ f : Nat → AV, List.drop 21 (List.map f (List.range 21)) = [] := fun _ => rfl
  have hl0 : ∀ i, limb 0 i = 0 := by intro i; simp [limb]
  obtain ⟨B61, hB61⟩ : ∃ b, b = (decide (x1 = 3) || decide (x1 = 4)) := ⟨_, rfl⟩
  obtain ⟨B81, hB81⟩ : ∃ b, b = (decide (x1 = 6) || decide (x1 = 7) || decide (x1 = 11)) := ⟨_, rfl⟩
  obtain ⟨B88, hB88⟩ : ∃ b, b = (decide (x1 = 8) || decide (x1 = 10)) := ⟨_, rfl⟩
  have F := And.intro hd21 (True.intro)
  refine callsA_body Try.func101 rfl rfl rfl ?_; refine sr fun _ hJ2 => ?_; refine hJ2 _ _ ?_; refine sq fun K3 hK3 => ?_; refine sr fun _ hJ5 => ?_; refine hJ5 _ _ ?_; refine run_block_k ?_; refine sr fun _ hJ7 => ?_; refine hJ7 _ _ ?_; refine cs (fun c6 => ?_) (fun c6 => ?_)
  · (try exact nope c6); all_goals have c6p := c6; try simp [F] at c6p
    all_goals
     replace F := aF c6 F; (try replace F := aF c6p F); refine sr fun _ hJ9 => ?_; refine hJ9 _ _ ?_; refine run_ret ?_; (try simp only [Then, InBlock, NoGoto]); refine acell (h := ?_)
     have hk : x1 = 32 := (hkn 32).2 (by simpa using c6)
     have hv : hasN x1 = 1152 := by rw [hk]; decide
     try subst hk
     show Wk _ _ ∧ _
     refine gcr (hA := WkL.agg ?_); simp [msgC, onlyM, hB, hv, hl0]
     repeat (first | exact WkL.nil | exact WkL.cons (Wk.refl _) WkL.nil | refine WkL.cons (Wk.refl _) ?_ | refine WkL.cons (Wk.nil _ _ _) ?_)
  (try exact nope c6); all_goals have c6p := c6; try simp [F] at c6p
  all_goals
   replace F := aF c6 F; (try replace F := aF c6p F); refine sr fun _ hJ11 => ?_; refine hJ11 _ _ ?_; refine cs (fun c11 => ?_) (fun c11 => ?_)
   · (try exact nope c11); all_goals have c11p := c11; try simp [F] at c11p
     all_goals
      replace F := aF c11 F; (try replace F := aF c11p F); refine sr fun _ hJ13 => ?_; refine hJ13 _ _ ?_; refine run_ret ?_; (try simp only [Then, InBlock, NoGoto]); refine acell (h := ?_)
      have hk : x1 = 33 := (hkn 33).2 (by simpa using c11)
      have hv : hasN x1 = 1922 := by rw [hk]; decide
      try subst hk
      show Wk _ _ ∧ _
      refine gcr (hA := WkL.agg ?_); simp [msgC, onlyM, hB, hv, hl0]
      repeat (first | exact WkL.nil | exact WkL.cons (Wk.refl _) WkL.nil | refine WkL.cons (Wk.refl _) ?_ | refine WkL.cons (Wk.nil _ _ _) ?_)
   (try exact nope c11); all_goals have c11p := c11; try simp [F] at c11p
   all_goals
    replace F := aF c11 F; (try replace F := aF c11p F); refine sr fun _ hJ15 => ?_; refine hJ15 _ _ ?_; refine cs (fun c22 => ?_) (fun c22 => ?_)
    · (try exact nope c22); all_goals have c22p := c22; try simp [F] at c22p
      all_goals
       replace F := aF c22 F; (try replace F := aF c22p F); refine sr fun _ hJ17 => ?_; refine hJ17 _ _ ?_; refine run_ret ?_; (try simp only [Then, InBlock, NoGoto]); refine acell (h := ?_)
       have hk : x1 = 34 := (hkn 34).2 (by simpa using c22)
       have hv : hasN x1 = 1042 := by rw [hk]; decide
       try subst hk
       show Wk _ _ ∧ _
       refine gcr (hA := WkL.agg ?_); simp [msgC, onlyM, hB, hv, hl0]
       repeat (first | exact WkL.nil | exact WkL.cons (Wk.refl _) WkL.nil | refine WkL.cons (Wk.refl _) ?_ | refine WkL.cons (Wk.nil _ _ _) ?_)
    (try exact nope c22); all_goals have c22p := c22; try simp [F] at c22p
    all_goals
     replace F := aF c22 F; (try replace F := aF c22p F); refine sr fun _ hJ19 => ?_; refine hJ19 _ _ ?_; refine cs (fun c29 => ?_) (fun c29 => ?_)
     · (try exact nope c29); all_goals have c29p := c29; try simp [F] at c29p
       all_goals
        replace F := aF c29 F; (try replace F := aF c29p F); refine sr fun _ hJ21 => ?_; refine hJ21 _ _ ?_; refine run_ret ?_; (try simp only [Then, InBlock, NoGoto]); refine acell (h := ?_)
        have hk : x1 = 35 := (hkn 35).2 (by simpa using c29)
        have hv : hasN x1 = 1026 := by rw [hk]; decide
        try subst hk
        show Wk _ _ ∧ _
        refine gcr (hA := WkL.agg ?_); simp [msgC, onlyM, hB, hv, hl0]
        repeat (first | exact WkL.nil | exact WkL.cons (Wk.refl _) WkL.nil | refine WkL.cons (Wk.refl _) ?_ | refine WkL.cons (Wk.nil _ _ _) ?_)
     (try exact nope c29); all_goals have c29p := c29; try simp [F] at c29p
     all_goals
      replace F := aF c29 F; (try replace F := aF c29p F); refine sr fun _ hJ23 => ?_; refine hJ23 _ _ ?_; refine cs (fun c34 => ?_) (fun c34 => ?_)
      · (try exact nope c34); all_goals have c34p := c34; try simp [F] at c34p
        all_goals
         replace F := aF c34 F; (try replace F := aF c34p F); refine sr fun _ hJ25 => ?_; refine hJ25 _ _ ?_; refine run_ret ?_; (try simp only [Then, InBlock, NoGoto]); refine acell (h := ?_)
         have hk : x1 = 36 := (hkn 36).2 (by simpa using c34)
         have hv : hasN x1 = 1024 := by rw [hk]; decide
         try subst hk
         show Wk _ _ ∧ _
         refine gcr (hA := WkL.agg ?_); simp [msgC, onlyM, hB, hv, hl0]
         repeat (first | exact WkL.nil | exact WkL.cons (Wk.refl _) WkL.nil | refine WkL.cons (Wk.refl _) ?_ | refine WkL.cons (Wk.nil _ _ _) ?_)
      (try exact nope c34); all_goals have c34p := c34; try simp [F] at c34p
      all_goals
       replace F := aF c34 F; (try replace F := aF c34p F); refine run_skip ?_; refine hK3 _ _ ?_; refine sr fun _ hJ27 => ?_; refine hJ27 _ _ ?_; refine sq fun K28 hK28 => ?_; refine sr fun _ hJ30 => ?_; refine hJ30 _ _ ?_; refine run_block_k ?_; refine sr fun _ hJ32 => ?_; refine hJ32 _ _ ?_; refine cs (fun c48 => ?_) (fun c48 => ?_)
       · (try exact nope c48); all_goals have c48p := c48; try simp [F] at c48p
         all_goals
          replace F := aF c48 F; try replace F := aF c48p F
          refine run_draw (by kernel_rfl) fun J33 hJ33 => ?_
          refine rp2 0 (k := ?_); refine rp2 1 (k := ?_); refine rp2 2 (k := ?_); refine rp2 3 (k := ?_); refine rp2 4 (k := ?_); refine dop 5 rfl ?_; repeat (first | simp [F] | simp (disch := omega) only [wC, if_pos, if_neg])
          refine ⟨by first | exact fun _ _ h => h | (refine later_list [3, 2] (by kernel_rfl) (List.forall_mem_cons.2 ⟨fun _ => fact2 rfl rfl ?_, List.forall_mem_cons.2 ⟨fun _ => fact2 rfl rfl ?_, fun _ h => absurd h List.not_mem_nil⟩⟩) <;> constructor <;> first | rfl | (simp [F]; done)), ?_⟩
          refine rp2 6 (k := ?_); refine dop 7 rfl ?_; (repeat (first | simp [F] | simp (disch := omega) only [wC, if_pos, if_neg])); refine ⟨ln, ?_⟩; refine dd ?_; refine hJ33 _ _ ?_; refine hK28 _ _ ?_; refine sr fun _ hJ35 => ?_; refine hJ35 _ _ ?_; refine run_ret ?_; (try simp only [Then, InBlock, NoGoto]); refine acell (h := ?_)
          have hk : x1 = 1 := (hkn 1).2 (by simpa using c48)
          have hv : hasN x1 = 17 := by rw [hk]; decide
          try subst hk
          show Wk _ _ ∧ _
          refine gcr (hA := WkL.agg ?_); simp [msgC, onlyM, hB, hv, hl0]
          repeat (first | exact WkL.nil | exact WkL.cons (Wk.refl _) WkL.nil | refine WkL.cons (Wk.refl _) ?_ | refine WkL.cons (Wk.nil _ _ _) ?_)
       (try exact nope c48); all_goals have c48p := c48; try simp [F] at c48p
       all_goals
        replace F := aF c48 F; (try replace F := aF c48p F); refine sr fun _ hJ37 => ?_; refine hJ37 _ _ ?_; refine cs (fun c56 => ?_) (fun c56 => ?_)
        · (try exact nope c56); all_goals have c56p := c56; try simp [F] at c56p
          all_goals
           replace F := aF c56 F; (try replace F := aF c56p F); refine rg' (h := fun J38 hJ38 => ?_); refine hJ38 _ _ ?_; refine hK28 _ _ ?_; refine sr fun _ hJ40 => ?_; refine hJ40 _ _ ?_; refine run_ret ?_; (try simp only [Then, InBlock, NoGoto]); refine acell (h := ?_)
           have hk : x1 = 2 := (hkn 2).2 (by simpa using c56)
           have hv : hasN x1 = 32 := by rw [hk]; decide
           try subst hk
           show Wk _ _ ∧ _
           refine gcr (hA := WkL.agg ?_); simp [msgC, onlyM, hB, hv, hl0]
           repeat (first | exact WkL.nil | exact WkL.cons (Wk.refl _) WkL.nil | refine WkL.cons (Wk.refl _) ?_ | refine WkL.cons (Wk.nil _ _ _) ?_)
        (try exact nope c56); all_goals have c56p := c56; try simp [F] at c56p
        all_goals
         replace F := aF c56 F; (try replace F := aF c56p F); refine sqc (X := Unit) [1, 2, 3, 47] (fun z ρ σ1 => (ρ 61 = .v (.bool B61)) ∧ (σ1 = { σ with objs := σ.objs ++ [[.v (.int .u8 x1.toNat), .v (.int .u8 x2.toNat), .v (.int .u64 x3), .sl 5 (coinsC x4) x4.length .shut, .v (.int .u8 x5.toNat), .v (.int .u8 x6.toNat), .v (.int .u8 x7.toNat), .v (.int .u64 (limb x8.v 0)), .v (.int .u64 (limb x8.v 1)), .v (.int .u64 (limb x8.v 2)), .v (.int .u64 (limb x8.v 3)), .sl 5 (coinsC x9) x9.length .shut, .sl 2 (outsC x10) x10.length .shut, .v (.int .u8 xpk.toNat), .v (.int .u64 xps), .v (.int .u64 xpe), .sl 5 (coinsC xpt) xpt.length .shut, .sl 2 (persC xpq) xpq.length .shut, .v (.int .u64 x12), .v (.int .u16 x13), .v (.bool x14)], [.v (.int .u8 0), .v (.int .u8 0), .v (.int .u64 0), .sl 0 [] 0 .full, .v (.int .u8 0), .v (.int .u8 0), .v (.int .u8 0), .v (.int .u64 0), .v (.int .u64 0), .v (.int .u64 0), .v (.int .u64 0), .sl 0 [] 0 .full, .sl 0 [] 0 .full, .v (.int .u8 0), .v (.int .u64 0), .v (.int .u64 0), .sl 0 [] 0 .full, .sl 0 [] 0 .full, .v (.int .u64 0), .v (.int .u16 0), .v (.bool false)], [.v (.int .u8 x1.toNat), .v (.int .u8 x2.toNat), .v (.int .u64 x3), .sl 5 (coinsC x4) x4.length .shut, .v (.int .u8 0), .v (.int .u8 0), .v (.int .u8 0), .v (.int .u64 0), .v (.int .u64 0), .v (.int .u64 0), .v (.int .u64 0), .sl 0 [] 0 .full, .sl 0 [] 0 .full, .v (.int .u8 0), .v (.int .u64 0), .v (.int .u64 0), .sl 0 [] 0 .full, .sl 0 [] 0 .full, .v (.int .u64 0), .v (.int .u16 0), .v (.bool false)]] })) ?cy41 ?cx41
         case cy41 =>
          rintro z ρCc61 σ1 hFCc61 ⟨h61, hσ⟩; obtain rfl := hσ.symm
          have fCc61 := keepL hFCc61
          (try simp [KeepL, F] at fCc61); replace F := aF h61 F; (try replace F := aF fCc61 F); refine cs (t := B61) (fun c61 => ?_) (fun c61 => ?_)
          · (try exact nope c61); all_goals have c61p := c61; try simp [F] at c61p
            all_goals
             replace F := aF c61 F; try replace F := aF c61p F
             refine run_draw (by kernel_rfl) fun J42 hJ42 => ?_
             refine rp2 0 (k := ?_); refine rp2 1 (k := ?_); refine rp2 2 (k := ?_); refine rp2 3 (k := ?_); refine rp2 4 (k := ?_); refine dop 5 rfl ?_; repeat (first | simp [F] | simp (disch := omega) only [wC, if_pos, if_neg])
             refine ⟨by first | exact fun _ _ h => h | (refine later_list [3, 2] (by kernel_rfl) (List.forall_mem_cons.2 ⟨fun _ => fact2 rfl rfl ?_, List.forall_mem_cons.2 ⟨fun _ => fact2 rfl rfl ?_, fun _ h => absurd h List.not_mem_nil⟩⟩) <;> constructor <;> first | rfl | (simp [F]; done)), ?_⟩
             refine rp2 6 (k := ?_); refine dop 7 rfl ?_; (repeat (first | simp [F] | simp (disch := omega) only [wC, if_pos, if_neg])); refine ⟨ln, ?_⟩; refine dd ?_; refine hJ42 _ _ ?_; refine hK28 _ _ ?_; refine sr fun _ hJ44 => ?_; refine hJ44 _ _ ?_; refine run_ret ?_; (try simp only [Then, InBlock, NoGoto]); refine acell (h := ?_)
             have hk : x1 = 3 ∨ x1 = 4 := by rw [hB61] at c61; simpa using c61
             have hv : hasN x1 = 10 := by rcases hk with e | e <;> (rw [e]; decide)
             show Wk _ _ ∧ _
             refine gcr (hA := WkL.agg ?_); simp [msgC, onlyM, hB, hv, hl0]
             repeat (first | exact WkL.nil | exact WkL.cons (Wk.refl _) WkL.nil | refine WkL.cons (Wk.refl _) ?_ | refine WkL.cons (Wk.nil _ _ _) ?_)
          (try exact nope c61); all_goals have c61p := c61; try simp [F] at c61p
          all_goals
           replace F := aF c61 F; (try replace F := aF c61p F); refine sr fun _ hJ46 => ?_; refine hJ46 _ _ ?_; refine cs (fun c70 => ?_) (fun c70 => ?_)
           · (try exact nope c70); all_goals have c70p := c70; try simp [F] at c70p
             all_goals
              replace F := aF c70 F; try replace F := aF c70p F
              refine run_draw (by kernel_rfl) fun J47 hJ47 => ?_
              refine rp2 0 (k := ?_); refine rp2 1 (k := ?_); refine rp2 2 (k := ?_); refine rp2 3 (k := ?_); refine rp2 4 (k := ?_); refine rp2 5 (k := ?_); refine rp2 6 (k := ?_); refine dop 7 rfl ?_; repeat (first | simp [F] | simp (disch := omega) only [wC, if_pos, if_neg])
              refine ⟨by first | exact fun _ _ h => h | (refine later_list [5, 4, 3, 2] (by kernel_rfl) (List.forall_mem_cons.2 ⟨fun _ => fact2 rfl rfl ?_, List.forall_mem_cons.2 ⟨fun _ => fact2 rfl rfl ?_, List.forall_mem_cons.2 ⟨fun _ => fact2 rfl rfl ?_, List.forall_mem_cons.2 ⟨fun _ => fact2 rfl rfl ?_, fun _ h => absurd h List.not_mem_nil⟩⟩⟩⟩) <;> constructor <;> first | rfl | (simp [F]; done)), ?_⟩
              refine rp2 8 (k := ?_); refine dop 9 rfl ?_; repeat (first | simp [F] | simp (disch := omega) only [wC, if_pos, if_neg])
              refine ⟨by first | exact fun _ _ h => h | (refine later_list [5, 4] (by kernel_rfl) (List.forall_mem_cons.2 ⟨fun _ => fact2 rfl rfl ?_, List.forall_mem_cons.2 ⟨fun _ => fact2 rfl rfl ?_, fun _ h => absurd h List.not_mem_nil⟩⟩) <;> constructor <;> first | rfl | (simp [F]; done)), ?_⟩
              refine rp2 10 (k := ?_); refine dop 11 rfl ?_; (repeat (first | simp [F] | simp (disch := omega) only [wC, if_pos, if_neg])); refine ⟨ln, ?_⟩; refine dd ?_; refine hJ47 _ _ ?_; refine hK28 _ _ ?_; refine sr fun _ hJ49 => ?_; refine hJ49 _ _ ?_; refine run_ret ?_; (try simp only [Then, InBlock, NoGoto]); refine acell (h := ?_)
              have hk : x1 = 5 := (hkn 5).2 (by simpa using c70)
              have hv : hasN x1 = 14 := by rw [hk]; decide
              try subst hk
              show Wk _ _ ∧ _
              refine gcr (hA := WkL.agg ?_); simp [msgC, onlyM, hB, hv, hl0]
              repeat (first | exact WkL.nil | exact WkL.cons (Wk.refl _) WkL.nil | refine WkL.cons (Wk.refl _) ?_ | refine WkL.cons (Wk.nil _ _ _) ?_)
           (try exact nope c70); all_goals have c70p := c70; try simp [F] at c70p
           all_goals
            replace F := aF c70 F; (try replace F := aF c70p F); refine sqc (X := Unit) [1, 2, 3, 47] (fun z ρ σ1 => (ρ 81 = .v (.bool B81)) ∧ (σ1 = { σ with objs := σ.objs ++ [[.v (.int .u8 x1.toNat), .v (.int .u8 x2.toNat), .v (.int .u64 x3), .sl 5 (coinsC x4) x4.length .shut, .v (.int .u8 x5.toNat), .v (.int .u8 x6.toNat), .v (.int .u8 x7.toNat), .v (.int .u64 (limb x8.v 0)), .v (.int .u64 (limb x8.v 1)), .v (.int .u64 (limb x8.v 2)), .v (.int .u64 (limb x8.v 3)), .sl 5 (coinsC x9) x9.length .shut, .sl 2 (outsC x10) x10.length .shut, .v (.int .u8 xpk.toNat), .v (.int .u64 xps), .v (.int .u64 xpe), .sl 5 (coinsC xpt) xpt.length .shut, .sl 2 (persC xpq) xpq.length .shut, .v (.int .u64 x12), .v (.int .u16 x13), .v (.bool x14)], [.v (.int .u8 0), .v (.int .u8 0), .v (.int .u64 0), .sl 0 [] 0 .full, .v (.int .u8 0), .v (.int .u8 0), .v (.int .u8 0), .v (.int .u64 0), .v (.int .u64 0), .v (.int .u64 0), .v (.int .u64 0), .sl 0 [] 0 .full, .sl 0 [] 0 .full, .v (.int .u8 0), .v (.int .u64 0), .v (.int .u64 0), .sl 0 [] 0 .full, .sl 0 [] 0 .full, .v (.int .u64 0), .v (.int .u16 0), .v (.bool false)], [.v (.int .u8 x1.toNat), .v (.int .u8 x2.toNat), .v (.int .u64 x3), .sl 5 (coinsC x4) x4.length .shut, .v (.int .u8 0), .v (.int .u8 0), .v (.int .u8 0), .v (.int .u64 0), .v (.int .u64 0), .v (.int .u64 0), .v (.int .u64 0), .sl 0 [] 0 .full, .sl 0 [] 0 .full, .v (.int .u8 0), .v (.int .u64 0), .v (.int .u64 0), .sl 0 [] 0 .full, .sl 0 [] 0 .full, .v (.int .u64 0), .v (.int .u16 0), .v (.bool false)]] })) ?cy50 ?cx50
            case cy50 =>
             rintro z ρCc81 σ1 hFCc81 ⟨h81, hσ⟩; obtain rfl := hσ.symm
             have fCc81 := keepL hFCc81
             (try simp [KeepL, F] at fCc81); replace F := aF h81 F; (try replace F := aF fCc81 F); refine cs (t := B81) (fun c81 => ?_) (fun c81 => ?_)
             · (try exact nope c81); all_goals have c81p := c81; try simp [F] at c81p
               all_goals
                replace F := aF c81 F; (try replace F := aF c81p F); refine rg' (h := fun J51 hJ51 => ?_); refine hJ51 _ _ ?_; refine hK28 _ _ ?_; refine sr fun _ hJ53 => ?_; refine hJ53 _ _ ?_; refine run_ret ?_; (try simp only [Then, InBlock, NoGoto]); refine acell (h := ?_)
                have hk : (x1 = 6 ∨ x1 = 7) ∨ x1 = 11 := by rw [hB81] at c81; simpa using c81
                have hv : hasN x1 = 2 := by rcases hk with (e | e) | e <;> (rw [e]; decide)
                show Wk _ _ ∧ _
                refine gcr (hA := WkL.agg ?_); simp [msgC, onlyM, hB, hv, hl0]
                repeat (first | exact WkL.nil | exact WkL.cons (Wk.refl _) WkL.nil | refine WkL.cons (Wk.refl _) ?_ | refine WkL.cons (Wk.nil _ _ _) ?_)
             (try exact nope c81); all_goals have c81p := c81; try simp [F] at c81p
             all_goals
              replace F := aF c81 F; (try replace F := aF c81p F); refine sqc (X := Unit) [1, 2, 3, 47] (fun z ρ σ1 => (ρ 88 = .v (.bool B88)) ∧ (σ1 = { σ with objs := σ.objs ++ [[.v (.int .u8 x1.toNat), .v (.int .u8 x2.toNat), .v (.int .u64 x3), .sl 5 (coinsC x4) x4.length .shut, .v (.int .u8 x5.toNat), .v (.int .u8 x6.toNat), .v (.int .u8 x7.toNat), .v (.int .u64 (limb x8.v 0)), .v (.int .u64 (limb x8.v 1)), .v (.int .u64 (limb x8.v 2)), .v (.int .u64 (limb x8.v 3)), .sl 5 (coinsC x9) x9.length .shut, .sl 2 (outsC x10) x10.length .shut, .v (.int .u8 xpk.toNat), .v (.int .u64 xps), .v (.int .u64 xpe), .sl 5 (coinsC xpt) xpt.length .shut, .sl 2 (persC xpq) xpq.length .shut, .v (.int .u64 x12), .v (.int .u16 x13), .v (.bool x14)], [.v (.int .u8 0), .v (.int .u8 0), .v (.int .u64 0), .sl 0 [] 0 .full, .v (.int .u8 0), .v (.int .u8 0), .v (.int .u8 0), .v (.int .u64 0), .v (.int .u64 0), .v (.int .u64 0), .v (.int .u64 0), .sl 0 [] 0 .full, .sl 0 [] 0 .full, .v (.int .u8 0), .v (.int .u64 0), .v (.int .u64 0), .sl 0 [] 0 .full, .sl 0 [] 0 .full, .v (.int .u64 0), .v (.int .u16 0), .v (.bool false)], [.v (.int .u8 x1.toNat), .v (.int .u8 x2.toNat), .v (.int .u64 x3), .sl 5 (coinsC x4) x4.length .shut, .v (.int .u8 0), .v (.int .u8 0), .v (.int .u8 0), .v (.int .u64 0), .v (.int .u64 0), .v (.int .u64 0), .v (.int .u64 0), .sl 0 [] 0 .full, .sl 0 [] 0 .full, .v (.int .u8 0), .v (.int .u64 0), .v (.int .u64 0), .sl 0 [] 0 .full, .sl 0 [] 0 .full, .v (.int .u64 0), .v (.int .u16 0), .v (.bool false)]] })) ?cy54 ?cx54
              case cy54 =>
               rintro z ρCc88 σ1 hFCc88 ⟨h88, hσ⟩; obtain rfl := hσ.symm
               have fCc88 := keepL hFCc88
               (try simp [KeepL, F] at fCc88); replace F := aF h88 F; (try replace F := aF fCc88 F); refine cs (t := B88) (fun c88 => ?_) (fun c88 => ?_)
               · (try exact nope c88); all_goals have c88p := c88; try simp [F] at c88p
                 all_goals
                  replace F := aF c88 F; (try replace F := aF c88p F); refine rg' (h := fun J55 hJ55 => ?_); refine hJ55 _ _ ?_; refine hK28 _ _ ?_; refine sr fun _ hJ57 => ?_; refine hJ57 _ _ ?_; refine run_ret ?_; (try simp only [Then, InBlock, NoGoto]); refine acell (h := ?_)
                  have hk : x1 = 8 ∨ x1 = 10 := by rw [hB88] at c88; simpa using c88
                  have hv : hasN x1 = 1 := by rcases hk with e | e <;> (rw [e]; decide)
                  show Wk _ _ ∧ _
                  refine gcr (hA := WkL.agg ?_); simp [msgC, onlyM, hB, hv, hl0]
                  repeat (first | exact WkL.nil | exact WkL.cons (Wk.refl _) WkL.nil | refine WkL.cons (Wk.refl _) ?_ | refine WkL.cons (Wk.nil _ _ _) ?_)
               (try exact nope c88); all_goals have c88p := c88; try simp [F] at c88p
               all_goals
                replace F := aF c88 F; (try replace F := aF c88p F); refine sr fun _ hJ59 => ?_; refine hJ59 _ _ ?_; refine cs (fun c94 => ?_) (fun c94 => ?_)
                · (try exact nope c94); all_goals have c94p := c94; try simp [F] at c94p
                  all_goals
                   replace F := aF c94 F; try replace F := aF c94p F
                   refine run_draw (by kernel_rfl) fun J60 hJ60 => ?_
                   refine rp2 0 (k := ?_); refine rp2 1 (k := ?_); refine rp2 2 (k := ?_); refine rp2 3 (k := ?_); refine rp2 4 (k := ?_); refine dop 5 rfl ?_; repeat (first | simp [F] | simp (disch := omega) only [wC, if_pos, if_neg])
                   refine ⟨by first | exact fun _ _ h => h | (refine later_list [3, 2] (by kernel_rfl) (List.forall_mem_cons.2 ⟨fun _ => fact2 rfl rfl ?_, List.forall_mem_cons.2 ⟨fun _ => fact2 rfl rfl ?_, fun _ h => absurd h List.not_mem_nil⟩⟩) <;> constructor <;> first | rfl | (simp [F]; done)), ?_⟩
                   refine rp2 6 (k := ?_); refine dop 7 rfl ?_; (repeat (first | simp [F] | simp (disch := omega) only [wC, if_pos, if_neg])); refine ⟨ln, ?_⟩; refine dd ?_; refine hJ60 _ _ ?_; refine hK28 _ _ ?_; refine sr fun _ hJ62 => ?_; refine hJ62 _ _ ?_; refine run_ret ?_; (try simp only [Then, InBlock, NoGoto]); refine acell (h := ?_)
                   have hk : x1 = 9 := (hkn 9).2 (by simpa using c94)
                   have hv : hasN x1 = 65 := by rw [hk]; decide
                   try subst hk
                   show Wk _ _ ∧ _
                   refine gcr (hA := WkL.agg ?_); simp [msgC, onlyM, hB, hv, hl0]
                   repeat (first | exact WkL.nil | exact WkL.cons (Wk.refl _) WkL.nil | refine WkL.cons (Wk.refl _) ?_ | refine WkL.cons (Wk.nil _ _ _) ?_)
                (try exact nope c94); all_goals have c94p := c94; try simp [F] at c94p
                all_goals
                 replace F := aF c94 F; (try replace F := aF c94p F); refine run_skip ?_; refine hK28 _ _ ?_; refine sr fun _ hJ64 => ?_; refine hJ64 _ _ ?_; refine run_ret ?_; (try simp only [Then, InBlock, NoGoto]); refine acell (h := ?_)
                 have hv : hasN x1 = 0 := by
                   rw [hB61] at c61; simp at c61
                   rw [hB81] at c81; simp at c81
                   rw [hB88] at c88; simp at c88
                   unfold hasN; rw [if_neg (by simpa [hkn] using c48)]; rw [if_neg (by simpa [hkn] using c56)]; rw [if_neg (by simp [c61])]; rw [if_neg (by simpa [hkn] using c70)]; rw [if_neg (by simp [c81])]; rw [if_neg (by simp [c88])]; rw [if_neg (by simpa [hkn] using c94)]; rw [if_neg (by simpa [hkn] using c6)]; rw [if_neg (by simpa [hkn] using c11)]; rw [if_neg (by simpa [hkn] using c22)]; rw [if_neg (by simpa [hkn] using c29)]; rw [if_neg (by simpa [hkn] using c34)]
                 show Wk _ _ ∧ _
                 refine gcr (hA := WkL.agg ?_); simp [msgC, onlyM, hB, hv, hl0]
                 repeat (first | exact WkL.nil | exact WkL.cons (Wk.refl _) WkL.nil | refine WkL.cons (Wk.refl _) ?_ | refine WkL.cons (Wk.nil _ _ _) ?_)
              case cx54 =>
               intro K54 hK54
               refine sr fun _ hJ66 => ?_; refine hJ66 _ _ ?_; refine cs (fun c88 => ?_) (fun c88 => ?_)
               · (try exact nope c88); all_goals have c88p := c88; try simp [F] at c88p
                 all_goals
                  replace F := aF c88 F; (try replace F := aF c88p F); refine run_skip ?_; refine hK54 (()) _ _ ⟨kp, ?_, lp⟩
                  · rw [hB88]
                    simp [hkn, F]
                    try rfl
               (try exact nope c88); all_goals have c88p := c88; try simp [F] at c88p
               all_goals
                replace F := aF c88 F; (try replace F := aF c88p F); refine rg' (h := fun J67 hJ67 => ?_); refine hJ67 _ _ ?_; refine hK54 (()) _ _ ⟨kp, ?_, lp⟩
                · rw [hB88]
                  simp [hkn, F]
                  try rfl
            case cx50 =>
             intro K50 hK50
             refine sr fun _ hJ69 => ?_; refine hJ69 _ _ ?_; refine cs (fun c81 => ?_) (fun c81 => ?_)
             · (try exact nope c81); all_goals have c81p := c81; try simp [F] at c81p
               all_goals
                replace F := aF c81 F; (try replace F := aF c81p F); refine run_skip ?_; refine hK50 (()) _ _ ⟨kp, ?_, lp⟩
                · rw [hB81]
                  simp [hkn, F]
                  try rfl
             (try exact nope c81); all_goals have c81p := c81; try simp [F] at c81p
             all_goals
              replace F := aF c81 F; (try replace F := aF c81p F); refine sr fun _ hJ71 => ?_; refine hJ71 _ _ ?_; refine cs (fun c81 => ?_) (fun c81 => ?_)
              · (try exact nope c81); all_goals have c81p := c81; try simp [F] at c81p
                all_goals
                 replace F := aF c81 F; (try replace F := aF c81p F); refine run_skip ?_; refine hK50 (()) _ _ ⟨kp, ?_, lp⟩
                 · rw [hB81]
                   simp [hkn, F]
                   try rfl
              (try exact nope c81); all_goals have c81p := c81; try simp [F] at c81p
              all_goals
               replace F := aF c81 F; (try replace F := aF c81p F); refine rg' (h := fun J72 hJ72 => ?_); refine hJ72 _ _ ?_; refine hK50 (()) _ _ ⟨kp, ?_, lp⟩
               · rw [hB81]
                 simp [hkn, F]
                 try rfl
         case cx41 =>
          intro K41 hK41
          refine sr fun _ hJ74 => ?_; refine hJ74 _ _ ?_; refine cs (fun c61 => ?_) (fun c61 => ?_)
          · (try exact nope c61); all_goals have c61p := c61; try simp [F] at c61p
            all_goals
             replace F := aF c61 F; (try replace F := aF c61p F); refine run_skip ?_; refine hK41 (()) _ _ ⟨kp, ?_, lp⟩
             · rw [hB61]
               simp [hkn, F]
               try rfl
          (try exact nope c61); all_goals have c61p := c61; try simp [F] at c61p
          all_goals
           replace F := aF c61 F; (try replace F := aF c61p F); refine rg' (h := fun J75 hJ75 => ?_); refine hJ75 _ _ ?_; refine hK41 (()) _ _ ⟨kp, ?_, lp⟩
           · rw [hB61]
             simp [hkn, F]
             try rfl
set_option maxHeartbeats 1600000 in
attribute [local simp] undefA List.getElem?_cons_zero List.getElem?_cons_succ outC in
theorem goes_ok {σ : St} {x : Out} (hx : x.c.length ≤ 9223372036854775807) :
    CallsA Try.prog 100 [.agg (outC x)] σ (fun av σ' => av = .v (.bool (outB x)) ∧ σ = σ') := by
  refine callsA_gcS ?_ rfl
  obtain ⟨l, c⟩ := x
  simp only [outB]
  have F := True.intro
  refine callsA_body Try.func100 rfl rfl rfl ?_; refine sr fun _ hJ2 => ?_; refine hJ2 _ _ ?_; refine sr fun _ hJ4 => ?_; refine gs 6 (fun g1_3 => ?_) (fun g1_3 => ?_)
  · (try exact nope g1_3); all_goals have g1_3p := g1_3; try simp [F] at g1_3p
    all_goals
     replace F := aF g1_3 F; try replace F := aF g1_3p F
     have hl : l.toNat < 200 := by have h := g1_3; simp at h; omega
     replace F := aF hl F; (iterate 2 refine go2 (k := ?_)); refine ca (c := right_ok hx) (k := ?_); rintro _ _ ⟨rfl, rfl⟩; (repeat (first | simp [F] | simp (disch := omega) only [wC, if_pos, if_neg])); refine hJ4 _ _ ?_; refine ra ?_; exact gcr
  (try exact nope g1_3); all_goals have g1_3p := g1_3; try simp [F] at g1_3p
  all_goals
   replace F := aF g1_3 F; try replace F := aF g1_3p F
   have hl : ¬ l.toNat < 200 := by have h := g1_3; simp at h; omega
   replace F := aF hl F; (iterate 3 refine no2 (k := ?_)); refine hJ4 _ _ ?_; refine ra ?_; exact gcr

set_option maxHeartbeats 1600000 in
attribute [local simp] undefA List.getElem?_cons_zero List.getElem?_cons_succ outC in
theorem right1_ok {σ : St} {x : Out} (hx : x.c.length ≤ 9223372036854775807) :
    CallsA Try.prog 99 [.agg (outC x)] σ (fun av σ' => av = .v (.bool (!outB x)) ∧ σ = σ') := by
  refine callsA_gcS ?_ rfl
  have hg := fun σ => goes_ok (σ := σ) hx
  obtain ⟨B, hB⟩ : ∃ B, B = outB x := ⟨_, rfl⟩
  rw [← hB] at hg ⊢
  clear hB
  obtain ⟨l, c⟩ := x
  have F := True.intro
  refine callsA_body Try.func99 rfl rfl rfl ?_; refine sr fun _ hJ2 => ?_; refine hJ2 _ _ ?_; refine sr fun _ hJ4 => ?_; refine ca (c := hg _) (k := ?_); rintro _ _ ⟨rfl, rfl⟩; (repeat (first | simp [F] | simp (disch := omega) only [wC, if_pos, if_neg])); refine hJ4 _ _ ?_; refine ra ?_; exact gcr

def ixO : List Out → Nat → Int
  | [], _ => -1
  | x :: l, i => if outB x then ixO l (i + 1) else i
theorem ixO_all : ∀ (l : List Out) (i : Nat), decide (0 ≤ ixO l i) = !(l.all outB)
  | [], _ => by simp [ixO]
  | x :: l, i => by
    have ih := ixO_all l (i + 1)
    unfold ixO
    cases hx : outB x
    · simp [hx]
    · simp [hx, ih]

set_option maxHeartbeats 1600000 in
attribute [local simp] undefA List.getElem?_cons_zero List.getElem?_cons_succ outC outsC_noObj in
theorem index_ok {σ : St} {l : List Out} {tl : Tail} (hl : l.length ≤ 9223372036854775807) (hx : ∀ x ∈ l, x.c.length ≤ 9223372036854775807) :
    CallsA Try.prog 132 [.sl 2 (outsC l) l.length tl, .fn 99 []] σ (fun av σ' => av = .v (.int .i64 (ixO l 0)) ∧ σ = σ') := by
  refine callsA_gcS ?_ rfl
  have F := True.intro
  refine callsA_body Try.func132 rfl rfl rfl ?_; refine sr fun _ hJ2 => ?_; refine hJ2 _ _ ?_; refine sq fun K3 hK3 => ?_; refine sr fun _ hJ5 => ?_; refine hJ5 _ _ ?_; refine run_block_k ?_; refine run_loopF (X := Nat) [0, 1, 7] (fun i ρ σ1 => (i ≤ l.length) ∧ (ixO l 0 = ixO (l.drop i) i) ∧ (ρ 8 = .v (.int .i64 i)) ∧ (σ1 = σ)) (fun i => l.length - i) (0) ?st1 ?rd1
  case st1 =>
   refine ⟨lp, ?_, lp, ?_⟩
   · rfl
   · rfl
  case rd1 =>
   rintro i ρ1 σ1 hF1 ⟨hi, hE, h8, hσ⟩; obtain rfl := hσ.symm
   have f1 := keepL hF1
   (try simp [KeepL, F] at f1); replace F := aF h8 F; (try replace F := aF f1 F); refine sr fun _ hJ7 => ?_; refine hJ7 _ _ ?_; refine sq fun K8 hK8 => ?_; refine cs (fun c9 => ?_) (fun c9 => ?_)
   · (try exact nope c9); all_goals have c9p := c9; try simp [F] at c9p
     all_goals
      replace F := aF c9 F; (try replace F := aF c9p F); refine run_skip ?_; refine hK8 _ _ ?_; refine sq fun K9 hK9 => ?_; refine run_block_k ?_; refine sr fun _ hJ11 => ?_; refine hJ11 _ _ ?_; refine sq fun K12 hK12 => ?_
      have hlt : i < l.length := by have h := c9; simp at h; omega
      have hat := outsC_at hlt
      have hb1 : i * 2 + 2 ≤ l.length * 2 := by omega
      have hx5 := hx _ (List.getElem_mem hlt)
      have hcons : l.drop i = l[i] :: l.drop (i + 1) := List.drop_eq_getElem_cons hlt
      obtain ⟨x, hxx⟩ : ∃ x, x = l[i] := ⟨_, rfl⟩
      rw [← hxx] at hat hx5 hcons
      rw [hcons] at hE
      simp only [ixO] at hE
      have hc1 := fun σ => right1_ok (σ := σ) hx5
      obtain ⟨B, hB⟩ : ∃ B, B = outB x := ⟨_, rfl⟩
      rw [← hB] at hE
      simp only [← hB] at hc1
      obtain ⟨xl, xc⟩ := x
      replace F := aF hlt F; replace F := aF hat F; replace F := aF hb1 F; refine rg' (h := fun J13 hJ13 => ?_); refine ca (c := hc1 _) (k := ?_); rintro _ _ ⟨rfl, rfl⟩; (repeat (first | simp [F] | simp (disch := omega) only [wC, if_pos, if_neg])); refine hJ13 _ _ ?_; refine hK12 _ _ ?_; refine cs (t := !B) (fun c16 => ?_) (fun c16 => ?_)
      · (try exact nope c16); all_goals have c16p := c16; try simp [F] at c16p
        all_goals
         replace F := aF c16 F; try replace F := aF c16p F
         have hr : ixO l 0 = i := by have h := c16; simp at h; rw [hE, h]; rfl
         replace F := aF hr F; refine sr fun _ hJ15 => ?_; refine hJ15 _ _ ?_; refine ra ?_; exact gcr
      (try exact nope c16); all_goals have c16p := c16; try simp [F] at c16p
      all_goals
       replace F := aF c16 F; (try replace F := aF c16p F); refine run_skip ?_; refine hK9 _ _ ?_; refine rg' (h := fun J16 hJ16 => ?_); refine hJ16 _ _ ?_; refine ⟨(i + 1), ⟨kp, lp, ?_, lp, lp⟩, lp⟩
       · have h := c16
         simp at h
         rw [hE, h]
         rfl
   (try exact nope c9); all_goals have c9p := c9; try simp [F] at c9p
   all_goals
    replace F := aF c9 F; try replace F := aF c9p F
    have hr : ixO l 0 = -1 := by rw [hE, List.drop_of_length_le (by have h := c9; simp at h; omega)]; rfl
    replace F := aF hr F; refine run_exit ?_; refine hK3 _ _ ?_; refine sr fun _ hJ18 => ?_; refine hJ18 _ _ ?_; refine ra ?_; exact gcr

set_option maxHeartbeats 1600000 in
attribute [local simp] undefA List.getElem?_cons_zero List.getElem?_cons_succ outsC_noObj in
theorem contains_ok {σ : St} {l : List Out} {tl : Tail} (hl : l.length ≤ 9223372036854775807) (hx : ∀ x ∈ l, x.c.length ≤ 9223372036854775807) :
    CallsA Try.prog 98 [.sl 2 (outsC l) l.length tl, .fn 99 []] σ (fun av σ' => av = .v (.bool (!(l.all outB))) ∧ σ = σ') := by
  refine callsA_gcS ?_ rfl
  have hi := ixO_all l 0
  obtain ⟨I, hI⟩ : ∃ I, I = ixO l 0 := ⟨_, rfl⟩
  have hc := fun σ => index_ok (σ := σ) (tl := tl) hl hx
  rw [← hI] at hi hc
  have F := And.intro hi (True.intro)
  refine callsA_body Try.func98 rfl rfl rfl ?_; refine sr fun _ hJ2 => ?_; refine hJ2 _ _ ?_; refine sr fun _ hJ4 => ?_; refine ca (c := hc _) (k := ?_); rintro _ _ ⟨rfl, rfl⟩; (repeat (first | simp [F] | simp (disch := omega) only [wC, if_pos, if_neg])); refine hJ4 _ _ ?_; refine ra ?_; exact gcr

set_option maxHeartbeats 1600000 in
attribute [local simp] undefA List.getElem?_cons_zero List.getElem?_cons_succ msgC outsC_noObj persC_noObj in
theorem mright_ok {σ : St} {m : Msg} (hm : m.Ok) :
    CallsA Try.prog 51 [.agg (msgC m)] σ (fun av σ' => av = .v (.bool (rightM m)) ∧ σ = σ') := by
  refine callsA_gcS ?_ rfl
  have hso := fun σ => msame_ok (σ := σ) hm (onlyM_ok hm)
  have hon := fun σ => monly_ok (σ := σ) (m := m)
  have hpr := fun σ => plright_ok (σ := σ) hm.p
  have hcf := fun σ => contains_ok (σ := σ) (tl := .shut) hm.outs hm.out
  have hfe := fun σ => right_ok (σ := σ) (tl := .shut) hm.fee
  have hco := fun σ => right_ok (σ := σ) (tl := .shut) hm.c
  obtain ⟨G, hG⟩ : ∃ G, G = rightM m := ⟨_, rfl⟩
  rw [← hG]
  unfold rightM at hG
  obtain ⟨Y, hY⟩ : ∃ Y, Y = onlyM m := ⟨_, rfl⟩
  obtain ⟨D, hD⟩ : ∃ D, D = decide (m = Y) := ⟨_, rfl⟩
  simp only [← hY] at hso hon hG
  simp only [← hD] at hso hG
  obtain ⟨R1, hR1⟩ : ∃ R, R = decide (Right m.fee) := ⟨_, rfl⟩
  obtain ⟨R2, hR2⟩ : ∃ R, R = decide (Right m.c) := ⟨_, rfl⟩
  obtain ⟨RP, hRP⟩ : ∃ R, R = rightB m.p := ⟨_, rfl⟩
  obtain ⟨A, hA⟩ : ∃ A, A = m.outs.all outB := ⟨_, rfl⟩
  simp only [Bool.decide_and, ← hR1, ← hR2, ← hRP, ← hA] at hG
  simp only [← hR1] at hfe
  simp only [← hR2] at hco
  simp only [← hRP] at hpr
  simp only [← hA] at hcf
  clear hY hD hR1 hR2 hRP hA hm
  obtain ⟨x1, x2, x3, x4, x5, x6, x7, x8, x9, x10, x11, x12, x13, x14⟩ := m
  obtain ⟨xpk, xps, xpe, xpt, xpq⟩ := x11
  simp only at hG hfe hco hcf
  have hhas := fun σ => has_ok (σ := σ) (k := x1)
  obtain ⟨K, hK⟩ : ∃ K, K = hasK x1 := ⟨_, rfl⟩
  rw [← hK] at hG hhas
  obtain ⟨h, hh⟩ : ∃ h, h = hasN x1 := ⟨_, rfl⟩
  have hlt : h < 4096 := by rw [hh]; exact hasN_lt _
  rw [← hh] at hhas
  obtain ⟨eU, heU⟩ : ∃ e, e = h &&& 32 := ⟨_, rfl⟩
  have handU : ∀ xo yo, binA Try.prog .and 3 xo yo (.v (.int .i64 (h : Nat))) (.v (.int .i64 32)) = some (.v (.int .i64 (eU : Nat))) := fun xo yo => by rw [heU]; exact binA_andN _ xo yo hlt (by decide)
  obtain ⟨bU, hbU⟩ : ∃ b, b = hB x1 32 := ⟨_, rfl⟩
  have hneU : (((eU : Nat) : Int) != 0) = bU := by rw [hbU, hB, ← hh, ← heU]; exact bitNe
  obtain ⟨eP, heP⟩ : ∃ e, e = h &&& 64 := ⟨_, rfl⟩
  have handP : ∀ xo yo, binA Try.prog .and 3 xo yo (.v (.int .i64 (h : Nat))) (.v (.int .i64 64)) = some (.v (.int .i64 (eP : Nat))) := fun xo yo => by rw [heP]; exact binA_andN _ xo yo hlt (by decide)
  obtain ⟨bP, hbP⟩ : ∃ b, b = hB x1 64 := ⟨_, rfl⟩
  have hneP : (((eP : Nat) : Int) != 0) = bP := by rw [hbP, hB, ← hh, ← heP]; exact bitNe
  rw [← hbU, ← hbP] at hG
  clear hh hbU hbP heU heP hK
  have hkn : ∀ n : UInt8, xpk = n ↔ (xpk.toNat : Int) = (n.toNat : Int) := fun n => ⟨fun e => by rw [e], fun e => UInt8.toNat_inj.1 (Int.ofNat_inj.1 e)⟩
  obtain ⟨B1, hB1⟩ : ∃ B, B = !(K && D) := ⟨_, rfl⟩
  obtain ⟨B2, hB2⟩ : ∃ B, B = !(decide (x2.toNat < 200) && decide (x5.toNat < 200) && decide (x6.toNat < 16) && decide (x7.toNat < 16)) := ⟨_, rfl⟩
  obtain ⟨B3, hB3⟩ : ∃ B, B = !(R1 && R2) := ⟨_, rfl⟩
  obtain ⟨B4, hB4⟩ : ∃ B, B = (bU && (decide (x10.length = 0) || decide (16 < x10.length))) := ⟨_, rfl⟩
  obtain ⟨B5, hB5⟩ : ∃ B, B = (bP && decide (xpk = 0)) := ⟨_, rfl⟩
  have hG2 : G = (!B1 && !B2 && !B3 && !B4 && !B5 && A && RP && decide (x12 ≤ 2 ^ 40) && decide (x13 ≤ 10000)) := by
    rw [hG, hB1, hB2, hB3, hB4, hB5]; simp [Bool.and_assoc]
  clear hG
  have f1 : B1 = true → G = false := fun e => by rw [hG2, e]; rfl
  have f2 : B2 = true → G = false := fun e => by rw [hG2, e]; simp
  have f3 : B3 = true → G = false := fun e => by rw [hG2, e]; simp
  have f4 : B4 = true → G = false := fun e => by rw [hG2, e]; simp
  have f5 : B5 = true → G = false := fun e => by rw [hG2, e]; simp
  have F := And.intro handU (And.intro handP (And.intro hneU (And.intro hneP (True.intro))))
  refine callsA_body Try.func51 rfl rfl rfl ?_; refine sr fun _ hJ2 => ?_; refine hJ2 _ _ ?_; refine sr fun _ hJ4 => ?_; refine ca (c := hhas _) (k := ?_); rintro _ _ ⟨rfl, rfl⟩; (repeat (first | simp [F] | simp (disch := omega) only [wC, if_pos, if_neg])); refine hJ4 _ _ ?_; refine sq fun K5 hK5 => ?_; refine run_block_k ?_; refine sqc (X := Unit) [1, 2, 3] (fun z ρ σ1 => (ρ 12 = .v (.bool B1)) ∧ (σ1 = { σ with objs := σ.objs ++ [[.v (.int .u8 x1.toNat), .v (.int .u8 x2.toNat), .v (.int .u64 x3), .sl 5 (coinsC x4) x4.length .shut, .v (.int .u8 x5.toNat), .v (.int .u8 x6.toNat), .v (.int .u8 x7.toNat), .v (.int .u64 (limb x8.v 0)), .v (.int .u64 (limb x8.v 1)), .v (.int .u64 (limb x8.v 2)), .v (.int .u64 (limb x8.v 3)), .sl 5 (coinsC x9) x9.length .shut, .sl 2 (outsC x10) x10.length .shut, .v (.int .u8 xpk.toNat), .v (.int .u64 xps), .v (.int .u64 xpe), .sl 5 (coinsC xpt) xpt.length .shut, .sl 2 (persC xpq) xpq.length .shut, .v (.int .u64 x12), .v (.int .u16 x13), .v (.bool x14)]] })) ?cy6 ?cx6
  case cy6 =>
   rintro z ρCr2 σ1 hFCr2 ⟨h12, hσ⟩; obtain rfl := hσ.symm
   have fCr2 := keepL hFCr2
   (try simp [KeepL, F] at fCr2); replace F := aF h12 F; (try replace F := aF fCr2 F); refine cs (t := B1) (fun c12 => ?_) (fun c12 => ?_)
   · (try exact nope c12); all_goals have c12p := c12; try simp [F] at c12p
     all_goals
      replace F := aF c12 F; try replace F := aF c12p F
      have h0 : G = false := f1 c12
      replace F := aF h0 F; refine sr fun _ hJ8 => ?_; refine hJ8 _ _ ?_; refine ra ?_; exact gcr
   (try exact nope c12); all_goals have c12p := c12; try simp [F] at c12p
   all_goals
    replace F := aF c12 F; (try replace F := aF c12p F); refine sqc (X := Unit) [1, 2, 3] (fun z ρ σ1 => (ρ 22 = .v (.bool B2)) ∧ (σ1 = { σ with objs := σ.objs ++ [[.v (.int .u8 x1.toNat), .v (.int .u8 x2.toNat), .v (.int .u64 x3), .sl 5 (coinsC x4) x4.length .shut, .v (.int .u8 x5.toNat), .v (.int .u8 x6.toNat), .v (.int .u8 x7.toNat), .v (.int .u64 (limb x8.v 0)), .v (.int .u64 (limb x8.v 1)), .v (.int .u64 (limb x8.v 2)), .v (.int .u64 (limb x8.v 3)), .sl 5 (coinsC x9) x9.length .shut, .sl 2 (outsC x10) x10.length .shut, .v (.int .u8 xpk.toNat), .v (.int .u64 xps), .v (.int .u64 xpe), .sl 5 (coinsC xpt) xpt.length .shut, .sl 2 (persC xpq) xpq.length .shut, .v (.int .u64 x12), .v (.int .u16 x13), .v (.bool x14)]] })) ?cy9 ?cx9
    case cy9 =>
     rintro z ρCr4 σ1 hFCr4 ⟨h22, hσ⟩; obtain rfl := hσ.symm
     have fCr4 := keepL hFCr4
     (try simp [KeepL, F] at fCr4); replace F := aF h22 F; (try replace F := aF fCr4 F); refine cs (t := B2) (fun c22 => ?_) (fun c22 => ?_)
     · (try exact nope c22); all_goals have c22p := c22; try simp [F] at c22p
       all_goals
        replace F := aF c22 F; try replace F := aF c22p F
        have h0 : G = false := f2 c22
        replace F := aF h0 F; refine sr fun _ hJ11 => ?_; refine hJ11 _ _ ?_; refine ra ?_; exact gcr
     (try exact nope c22); all_goals have c22p := c22; try simp [F] at c22p
     all_goals
      replace F := aF c22 F; (try replace F := aF c22p F); refine sqc (X := Unit) [1, 2, 3] (fun z ρ σ1 => (ρ 41 = .v (.bool B3)) ∧ (σ1 = { σ with objs := σ.objs ++ [[.v (.int .u8 x1.toNat), .v (.int .u8 x2.toNat), .v (.int .u64 x3), .sl 5 (coinsC x4) x4.length .shut, .v (.int .u8 x5.toNat), .v (.int .u8 x6.toNat), .v (.int .u8 x7.toNat), .v (.int .u64 (limb x8.v 0)), .v (.int .u64 (limb x8.v 1)), .v (.int .u64 (limb x8.v 2)), .v (.int .u64 (limb x8.v 3)), .sl 5 (coinsC x9) x9.length .shut, .sl 2 (outsC x10) x10.length .shut, .v (.int .u8 xpk.toNat), .v (.int .u64 xps), .v (.int .u64 xpe), .sl 5 (coinsC xpt) xpt.length .shut, .sl 2 (persC xpq) xpq.length .shut, .v (.int .u64 x12), .v (.int .u16 x13), .v (.bool x14)]] })) ?cy12 ?cx12
      case cy12 =>
       rintro z ρCr6 σ1 hFCr6 ⟨h41, hσ⟩; obtain rfl := hσ.symm
       have fCr6 := keepL hFCr6
       (try simp [KeepL, F] at fCr6); replace F := aF h41 F; (try replace F := aF fCr6 F); refine cs (t := B3) (fun c41 => ?_) (fun c41 => ?_)
       · (try exact nope c41); all_goals have c41p := c41; try simp [F] at c41p
         all_goals
          replace F := aF c41 F; try replace F := aF c41p F
          have h0 : G = false := f3 c41
          replace F := aF h0 F; refine sr fun _ hJ14 => ?_; refine hJ14 _ _ ?_; refine ra ?_; exact gcr
       (try exact nope c41); all_goals have c41p := c41; try simp [F] at c41p
       all_goals
        replace F := aF c41 F; (try replace F := aF c41p F); refine sqc (X := Unit) [1, 2, 3] (fun z ρ σ1 => (ρ 52 = .v (.bool B4)) ∧ (σ1 = { σ with objs := σ.objs ++ [[.v (.int .u8 x1.toNat), .v (.int .u8 x2.toNat), .v (.int .u64 x3), .sl 5 (coinsC x4) x4.length .shut, .v (.int .u8 x5.toNat), .v (.int .u8 x6.toNat), .v (.int .u8 x7.toNat), .v (.int .u64 (limb x8.v 0)), .v (.int .u64 (limb x8.v 1)), .v (.int .u64 (limb x8.v 2)), .v (.int .u64 (limb x8.v 3)), .sl 5 (coinsC x9) x9.length .shut, .sl 2 (outsC x10) x10.length .shut, .v (.int .u8 xpk.toNat), .v (.int .u64 xps), .v (.int .u64 xpe), .sl 5 (coinsC xpt) xpt.length .shut, .sl 2 (persC xpq) xpq.length .shut, .v (.int .u64 x12), .v (.int .u16 x13), .v (.bool x14)]] })) ?cy15 ?cx15
        case cy15 =>
         rintro z ρCr8 σ1 hFCr8 ⟨h52, hσ⟩; obtain rfl := hσ.symm
         have fCr8 := keepL hFCr8
         (try simp [KeepL, F] at fCr8); replace F := aF h52 F; (try replace F := aF fCr8 F); refine cs (t := B4) (fun c52 => ?_) (fun c52 => ?_)
         · (try exact nope c52); all_goals have c52p := c52; try simp [F] at c52p
           all_goals
            replace F := aF c52 F; try replace F := aF c52p F
            have h0 : G = false := f4 c52
            replace F := aF h0 F; refine sr fun _ hJ17 => ?_; refine hJ17 _ _ ?_; refine ra ?_; exact gcr
         (try exact nope c52); all_goals have c52p := c52; try simp [F] at c52p
         all_goals
          replace F := aF c52 F; (try replace F := aF c52p F); refine sqc (X := Unit) [1, 2] (fun z ρ σ1 => (ρ 68 = .v (.bool B5)) ∧ (σ1 = { σ with objs := σ.objs ++ [[.v (.int .u8 x1.toNat), .v (.int .u8 x2.toNat), .v (.int .u64 x3), .sl 5 (coinsC x4) x4.length .shut, .v (.int .u8 x5.toNat), .v (.int .u8 x6.toNat), .v (.int .u8 x7.toNat), .v (.int .u64 (limb x8.v 0)), .v (.int .u64 (limb x8.v 1)), .v (.int .u64 (limb x8.v 2)), .v (.int .u64 (limb x8.v 3)), .sl 5 (coinsC x9) x9.length .shut, .sl 2 (outsC x10) x10.length .shut, .v (.int .u8 xpk.toNat), .v (.int .u64 xps), .v (.int .u64 xpe), .sl 5 (coinsC xpt) xpt.length .shut, .sl 2 (persC xpq) xpq.length .shut, .v (.int .u64 x12), .v (.int .u16 x13), .v (.bool x14)]] })) ?cy18 ?cx18
          case cy18 =>
           rintro z ρCr10 σ1 hFCr10 ⟨h68, hσ⟩; obtain rfl := hσ.symm
           have fCr10 := keepL hFCr10
           (try simp [KeepL, F] at fCr10); replace F := aF h68 F; (try replace F := aF fCr10 F); refine cs (t := B5) (fun c68 => ?_) (fun c68 => ?_)
           · (try exact nope c68); all_goals have c68p := c68; try simp [F] at c68p
             all_goals
              replace F := aF c68 F; try replace F := aF c68p F
              have h0 : G = false := f5 c68
              replace F := aF h0 F; refine sr fun _ hJ20 => ?_; refine hJ20 _ _ ?_; refine ra ?_; exact gcr
           (try exact nope c68); all_goals have c68p := c68; try simp [F] at c68p
           all_goals
            replace F := aF c68 F; (try replace F := aF c68p F); refine run_skip ?_; refine hK5 _ _ ?_; refine sr fun _ hJ22 => ?_; refine ca (c := hcf _) (k := ?_); rintro _ _ ⟨rfl, rfl⟩; (repeat (first | simp [F] | simp (disch := omega) only [wC, if_pos, if_neg])); refine hJ22 _ _ ?_; refine sr fun _ hJ24 => ?_; refine gs 83 (fun g13_2 => ?_) (fun g13_2 => ?_)
            · (try exact nope g13_2); all_goals have g13_2p := g13_2; try simp [F] at g13_2p
              all_goals
               replace F := aF g13_2 F; (try replace F := aF g13_2p F); (iterate 2 refine go2 (k := ?_)); refine ca (c := hpr _) (k := ?_); rintro _ _ ⟨rfl, rfl⟩; (repeat (first | simp [F] | simp (disch := omega) only [wC, if_pos, if_neg])); refine gs 88 (fun g13_7 => ?_) (fun g13_7 => ?_)
               · (try exact nope g13_7); all_goals have g13_7p := g13_7; try simp [F] at g13_7p
                 all_goals
                  replace F := aF g13_7 F; (try replace F := aF g13_7p F); (iterate 3 refine go2 (k := ?_)); refine gs 93 (fun g13_12 => ?_) (fun g13_12 => ?_)
                  · (try exact nope g13_12); all_goals have g13_12p := g13_12; try simp [F] at g13_12p
                    all_goals
                     replace F := aF g13_12 F; try replace F := aF g13_12p F
                     have hq : x12 ≤ 1099511627776 := by have h := g13_12; simp at h; omega
                     replace F := aF hq F; (iterate 3 refine go2 (k := ?_)); refine hJ24 _ _ ?_; refine ra ?_
                     have hg : G = (A && RP && decide (x12 ≤ 1099511627776) && decide (x13 ≤ 10000)) := by rw [hG2, c12, c22, c41, c52, c68]; simp
                     rw [hg]
                     refine gcr (hA := wk_eq ?_); simp [F]
                     try omega
                  (try exact nope g13_12); all_goals have g13_12p := g13_12; try simp [F] at g13_12p
                  all_goals
                   replace F := aF g13_12 F; try replace F := aF g13_12p F
                   have hq : ¬ x12 ≤ 1099511627776 := by have h := g13_12; simp at h; omega
                   replace F := aF hq F; (iterate 3 refine no2 (k := ?_)); refine hJ24 _ _ ?_; refine ra ?_
                   have hg : G = (A && RP && decide (x12 ≤ 1099511627776) && decide (x13 ≤ 10000)) := by rw [hG2, c12, c22, c41, c52, c68]; simp
                   rw [hg]
                   refine gcr (hA := wk_eq ?_); simp [F]
                   try omega
               (try exact nope g13_7); all_goals have g13_7p := g13_7; try simp [F] at g13_7p
               all_goals
                replace F := aF g13_7 F; (try replace F := aF g13_7p F); (iterate 6 refine no2 (k := ?_)); refine hJ24 _ _ ?_; refine ra ?_
                have hg : G = (A && RP && decide (x12 ≤ 1099511627776) && decide (x13 ≤ 10000)) := by rw [hG2, c12, c22, c41, c52, c68]; simp
                rw [hg]
                refine gcr (hA := wk_eq ?_); simp [F]
                try omega
            (try exact nope g13_2); all_goals have g13_2p := g13_2; try simp [F] at g13_2p
            all_goals
             replace F := aF g13_2 F; (try replace F := aF g13_2p F); (iterate 9 refine no2 (k := ?_)); refine hJ24 _ _ ?_; refine ra ?_
             have hg : G = (A && RP && decide (x12 ≤ 1099511627776) && decide (x13 ≤ 10000)) := by rw [hG2, c12, c22, c41, c52, c68]; simp
             rw [hg]
             refine gcr (hA := wk_eq ?_); simp [F]
             try omega
          case cx18 =>
           intro K18 hK18
           refine rg' (h := fun J25 hJ25 => ?_); refine gs 72 (fun g10_3 => ?_) (fun g10_3 => ?_)
           · (try exact nope g10_3); all_goals have g10_3p := g10_3; try simp [F] at g10_3p
             all_goals
              replace F := aF g10_3 F; (try replace F := aF g10_3p F); (iterate 4 refine go2 (k := ?_)); refine hJ25 _ _ ?_; refine hK18 (()) _ _ ⟨kp, ?_, lp⟩
              · rw [hB5]
                simp [F]
                (try (simp [hkn])); try (rw [Bool.eq_iff_iff]; simp)
           (try exact nope g10_3); all_goals have g10_3p := g10_3; try simp [F] at g10_3p
           all_goals
            replace F := aF g10_3 F; (try replace F := aF g10_3p F); (iterate 4 refine no2 (k := ?_)); refine hJ25 _ _ ?_; refine hK18 (()) _ _ ⟨kp, ?_, lp⟩
            · rw [hB5]
              simp [F]
              (try (simp [hkn])); try (rw [Bool.eq_iff_iff]; simp)
        case cx15 =>
         intro K15 hK15
         refine rg' (h := fun J26 hJ26 => ?_); refine gs 56 (fun g8_3 => ?_) (fun g8_3 => ?_)
         · (try exact nope g8_3); all_goals have g8_3p := g8_3; try simp [F] at g8_3p
           all_goals
            replace F := aF g8_3 F; (try replace F := aF g8_3p F); (iterate 5 refine go2 (k := ?_)); refine gs 61 (fun g8_8 => ?_) (fun g8_8 => ?_)
            · (try exact nope g8_8); all_goals have g8_8p := g8_8; try simp [F] at g8_8p
              all_goals
               replace F := aF g8_8 F; (try replace F := aF g8_8p F); (iterate 4 refine no2 (k := ?_)); refine go2 (k := ?_); refine hJ26 _ _ ?_; refine hK15 (()) _ _ ⟨kp, ?_, lp⟩
               · rw [hB4]
                 simp [F]
                 (try (rw [Bool.eq_iff_iff]; simp)); try omega
            (try exact nope g8_8); all_goals have g8_8p := g8_8; try simp [F] at g8_8p
            all_goals
             replace F := aF g8_8 F; (try replace F := aF g8_8p F); (iterate 5 refine go2 (k := ?_)); refine hJ26 _ _ ?_; refine hK15 (()) _ _ ⟨kp, ?_, lp⟩
             · rw [hB4]
               simp [F]
               (try (rw [Bool.eq_iff_iff]; simp)); try omega
         (try exact nope g8_3); all_goals have g8_3p := g8_3; try simp [F] at g8_3p
         all_goals
          replace F := aF g8_3 F; (try replace F := aF g8_3p F); (iterate 10 refine no2 (k := ?_)); refine hJ26 _ _ ?_; refine hK15 (()) _ _ ⟨kp, ?_, lp⟩
          · rw [hB4]
            simp [F]
            (try (rw [Bool.eq_iff_iff]; simp)); try omega
      case cx12 =>
       intro K12 hK12
       refine rg' (h := fun J27 hJ27 => ?_); refine ca (c := hfe _) (k := ?_); rintro _ _ ⟨rfl, rfl⟩; (repeat (first | simp [F] | simp (disch := omega) only [wC, if_pos, if_neg])); refine gs 46 (fun g6_4 => ?_) (fun g6_4 => ?_)
       · (try exact nope g6_4); all_goals have g6_4p := g6_4; try simp [F] at g6_4p
         all_goals
          replace F := aF g6_4 F; (try replace F := aF g6_4p F); (iterate 4 refine no2 (k := ?_)); refine hJ27 _ _ ?_; refine hK12 (()) _ _ ⟨kp, ?_, lp⟩
          · rw [hB3]
            simp [F]
            try rfl
       (try exact nope g6_4); all_goals have g6_4p := g6_4; try simp [F] at g6_4p
       all_goals
        replace F := aF g6_4 F; (try replace F := aF g6_4p F); (iterate 2 refine go2 (k := ?_)); refine ca (c := hco _) (k := ?_); rintro _ _ ⟨rfl, rfl⟩; (repeat (first | simp [F] | simp (disch := omega) only [wC, if_pos, if_neg])); refine go2 (k := ?_); refine hJ27 _ _ ?_; refine hK12 (()) _ _ ⟨kp, ?_, lp⟩
        · rw [hB3]
          simp [F]
          try rfl
    case cx9 =>
     intro K9 hK9
     refine rg' (h := fun J28 hJ28 => ?_); refine gs 26 (fun g4_3 => ?_) (fun g4_3 => ?_)
     · (try exact nope g4_3); all_goals have g4_3p := g4_3; try simp [F] at g4_3p
       all_goals
        replace F := aF g4_3 F; try replace F := aF g4_3p F
        have hq3 : ¬ x2.toNat < 200 := by have h := g4_3; simp at h; omega
        replace F := aF hq3 F; (iterate 9 refine no2 (k := ?_)); refine hJ28 _ _ ?_; refine hK9 (()) _ _ ⟨kp, ?_, lp⟩
        · rw [hB2]
          simp [F]
          try (rw [Bool.eq_iff_iff]; simp; omega)
     (try exact nope g4_3); all_goals have g4_3p := g4_3; try simp [F] at g4_3p
     all_goals
      replace F := aF g4_3 F; try replace F := aF g4_3p F
      have hq3 : x2.toNat < 200 := by have h := g4_3; simp at h; omega
      replace F := aF hq3 F; (iterate 3 refine go2 (k := ?_)); refine gs 31 (fun g4_8 => ?_) (fun g4_8 => ?_)
      · (try exact nope g4_8); all_goals have g4_8p := g4_8; try simp [F] at g4_8p
        all_goals
         replace F := aF g4_8 F; try replace F := aF g4_8p F
         have hq8 : ¬ x5.toNat < 200 := by have h := g4_8; simp at h; omega
         replace F := aF hq8 F; (iterate 6 refine no2 (k := ?_)); refine hJ28 _ _ ?_; refine hK9 (()) _ _ ⟨kp, ?_, lp⟩
         · rw [hB2]
           simp [F]
           try (rw [Bool.eq_iff_iff]; simp; omega)
      (try exact nope g4_8); all_goals have g4_8p := g4_8; try simp [F] at g4_8p
      all_goals
       replace F := aF g4_8 F; try replace F := aF g4_8p F
       have hq8 : x5.toNat < 200 := by have h := g4_8; simp at h; omega
       replace F := aF hq8 F; (iterate 3 refine go2 (k := ?_)); refine gs 36 (fun g4_13 => ?_) (fun g4_13 => ?_)
       · (try exact nope g4_13); all_goals have g4_13p := g4_13; try simp [F] at g4_13p
         all_goals
          replace F := aF g4_13 F; try replace F := aF g4_13p F
          have hq13 : ¬ x6.toNat < 16 := by have h := g4_13; simp at h; omega
          replace F := aF hq13 F; (iterate 3 refine no2 (k := ?_)); refine hJ28 _ _ ?_; refine hK9 (()) _ _ ⟨kp, ?_, lp⟩
          · rw [hB2]
            simp [F]
            try (rw [Bool.eq_iff_iff]; simp; omega)
       (try exact nope g4_13); all_goals have g4_13p := g4_13; try simp [F] at g4_13p
       all_goals
        replace F := aF g4_13 F; try replace F := aF g4_13p F
        have hq13 : x6.toNat < 16 := by have h := g4_13; simp at h; omega
        replace F := aF hq13 F; (iterate 3 refine go2 (k := ?_)); refine hJ28 _ _ ?_; refine hK9 (()) _ _ ⟨kp, ?_, lp⟩
        · rw [hB2]
          simp [F]
          try (rw [Bool.eq_iff_iff]; simp; omega)
  case cx6 =>
   intro K6 hK6
   refine run_draw (by kernel_rfl) fun J29 hJ29 => ?_
   refine rp2 0 (k := ?_); refine rp2 1 (k := ?_); refine rp2 2 (k := ?_); refine gd 15 (fun g2_2 => ?_) (fun g2_2 => ?_)
   · (try exact nope g2_2); all_goals have g2_2p := g2_2; try simp [F] at g2_2p
     all_goals
      replace F := aF g2_2 F; (try replace F := aF g2_2p F); refine rp2 3 (k := ?_); refine rp2 4 (k := ?_); refine dop 5 rfl ?_; (repeat (first | simp [F] | simp (disch := omega) only [wC, if_pos, if_neg])); refine dop 6 rfl ?_; (repeat (first | simp [F] | simp (disch := omega) only [wC, if_pos, if_neg])); refine rp2 7 (k := ?_); refine rp2 8 (k := ?_); refine rp2 9 (k := ?_); refine dd ?_; refine hJ29 _ _ ?_; refine hK6 (()) _ _ ⟨kp, ?_, lp⟩
      · rw [hB1]
        simp [F]
        try rfl
   (try exact nope g2_2); all_goals have g2_2p := g2_2; try simp [F] at g2_2p
   all_goals
    replace F := aF g2_2 F; (try replace F := aF g2_2p F); refine rp2 3 (k := ?_); refine rp2 4 (k := ?_); refine dc 5 rfl (c := hon _) (k := ?_); rintro _ _ ⟨rfl, rfl⟩
    refine ⟨by first | exact fun _ _ h => h | (refine later_list [3, 1, 0] (by kernel_rfl) (List.forall_mem_cons.2 ⟨fun _ => fact2 rfl rfl ?_, List.forall_mem_cons.2 ⟨fun _ => fact2 rfl rfl ?_, List.forall_mem_cons.2 ⟨fun _ => fact2 rfl rfl ?_, fun _ h => absurd h List.not_mem_nil⟩⟩⟩) <;> constructor <;> first | rfl | (simp [F]; done)), ?_⟩
    (repeat (first | simp [F] | simp (disch := omega) only [wC, if_pos, if_neg])); refine dc 6 rfl (c := hso _) (k := ?_); rintro _ _ ⟨rfl, rfl⟩
    refine ⟨by first | exact fun _ _ h => h | (refine later_list [1, 0] (by kernel_rfl) (List.forall_mem_cons.2 ⟨fun _ => fact2 rfl rfl ?_, List.forall_mem_cons.2 ⟨fun _ => fact2 rfl rfl ?_, fun _ h => absurd h List.not_mem_nil⟩⟩) <;> constructor <;> first | rfl | (simp [F]; done)), ?_⟩
    (repeat (first | simp [F] | simp (disch := omega) only [wC, if_pos, if_neg])); refine rp2 7 (k := ?_); refine rp2 8 (k := ?_); refine rp2 9 (k := ?_); refine dd ?_; refine hJ29 _ _ ?_; refine hK6 (()) _ _ ⟨kp, ?_, lp⟩
    · rw [hB1]
      simp [F]
      try rfl
theorem u8_all {p : UInt8 → Prop} (h : ∀ n : Fin 256, p (UInt8.ofNat n.val)) (k : UInt8) : p k := by
  have := h ⟨k.toNat, k.toNat_lt⟩
  simpa using this
theorem hasK_iff (k : UInt8) : hasK k = decide (k.toNat ≠ 0 ∧ ¬ (11 < k.toNat ∧ k.toNat < 32) ∧ k.toNat ≤ 36) := u8_all (p := fun k => hasK k = decide (k.toNat ≠ 0 ∧ ¬ (11 < k.toNat ∧ k.toNat < 32) ∧ k.toNat ≤ 36)) (by decide +kernel) k
end Go.Proofs.Ytdbaddholggkbaa
