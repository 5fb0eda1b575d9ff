import Derived.Test.YtlkajgjaidedkaaZ7
import Derived.Test.YtlkajgjaidedkaaZ14
/-
  Records as9 the document has them; near deeds.
-/
namespace Go.Proofs.Ytlkajgjaidedkaa
set_option linter.unnecessarySimpa false
set_option maxRecDepth 100000
open Go Go.Vm
set_option linter.unusedSimpArgs false
set_option linter.unusedVariables false
attribute [local simp] evalL wantedA isCall opA evalA evalAll evalsA evalOpt ofValue ofCell plain binA_eql_pn binA_neq_pn binA_gtr binA_lss binA_geq binA_leq binA_add binA_sub binA_eql binA_neq binA_orI binA_shl binA_shr binA_mul binA_quo binA_rem binA_agg_eql binA_agg_neq convA_int unA_not fieldAddrA loadA partA pickA_true pickA_false pickA_bb lenA builtinA storeA splice AV.cells AV.isCell sliceA boundA intA callOf indexAddrA newObjA buildA fillA zeroA ofCells buildSliceA indexA fieldA set_appN get_appN take_appN List.getElem?_cons_zero List.getElem?_cons_succ get_sa0 get_sa1 get_sa2 get_sa3 set_sa0 set_sa1 set_sa2 set_sa3 sliceRowA binA_eqn binA_neqn drop_mr

set_option maxHeartbeats 1600000 in
attribute [local simp] undefA List.getElem?_cons_zero List.getElem?_cons_succ lsA_nil lsT_nil lsZ_nil lsL_nil in
theorem items_ok {σ : St} {I : List It} (hI : I.length ≤ 1000000) :
    CallsA Try.prog 51 [.sl 3 (itsC I) I.length .shut] σ (fun av σ' => av = .sl 3 (itsC I) I.length .shut ∧ σ = σ') := by
  refine callsA_gcS ?_ (by simp [AV.under, itsC_under])
  have hic := itsC_len I
  have hap : ∀ (O : List It) (x : It) objs, O.length ≤ 1000000 → appendA Try.prog 64 (lsA σ.toks.length 3 (itsC O) O.length) (.sl 3 [.v (.int .u64 x.d), .v (.int .u64 x.n), .sl 1 (bytesA x.p) x.p.length .shut] 1 .full) ⟨objs, σ.toks ++ lsT O.length, σ.gl, σ.rows⟩ = some (lsA σ.toks.length 3 (itsC (O ++ [x])) (O.length + 1), ⟨objs, σ.toks ++ lsT (O.length + 1), σ.gl, σ.rows⟩) := fun O x objs hO => by
    rw [itsC_app]
    exact append_ls elemT_64 ti_152 (by decide) rfl (fun h => by rw [List.eq_nil_of_length_eq_zero h]; rfl) rfl (by omega) (by simp only [roomA]; omega) (by simp only [maxLen]; omega)
  have F := And.intro hic (True.intro)
  refine callsA_body Try.func51 rfl rfl rfl ?_; refine sr fun _ hJ2 => ?_; refine hJ2 _ _ ?_; refine sr fun _ hJ4 => ?_; refine hJ4 _ _ ?_; refine sq fun K5 hK5 => ?_; refine sr fun _ hJ7 => ?_; refine hJ7 _ _ ?_; refine run_block_k ?_; refine run_loopF (X := Nat) [0, 2] (fun i ρ σ1 => (i ≤ I.length) ∧ (ρ 4 = .v (.int .i64 i)) ∧ (ρ 3 = lsA σ.toks.length 3 (itsC (I.take i)) i) ∧ (σ1 = { σ with toks := σ.toks ++ lsT i })) (fun i => I.length - i) (0) ?st1 ?rd1
  case st1 =>
   refine ⟨lp, lp, lp, ?_⟩
   · simp [lsT_nil]
  case rd1 =>
   rintro i ρ1 σ1 hF1 ⟨h1, h5, h7, hσ⟩; obtain rfl := hσ.symm
   have f1 := keepL hF1
   (try simp [KeepL, F] at f1); replace F := aF h5 F; replace F := aF h7 F; (try replace F := aF f1 F); refine sq fun K8 hK8 => ?_; refine sr fun _ hJ10 => ?_; refine hJ10 _ _ ?_; refine cs (fun c8 => ?_) (fun c8 => ?_)
   · (try exact nope c8); all_goals have c8p := c8; try simp [F] at c8p
     all_goals
      replace F := aF c8 F; try replace F := aF c8p F
      have hlt : i < I.length := by have h := c8; simp at h; omega
      obtain ⟨R1, hR1⟩ := itsC_at (l := I) (i := i) hlt
      obtain ⟨x, hx⟩ : ∃ x, x = I[i] := ⟨_, rfl⟩
      rw [← hx] at hR1
      have e0 := get_drop (l := itsC I) (i := i * 3) (j := 0) (x := .v (.int .u64 (x.d : Nat))) (by rw [hR1]; rfl)
      have e1 := get_drop (l := itsC I) (i := i * 3) (j := 1) (x := .v (.int .u64 (x.n : Nat))) (by rw [hR1]; rfl)
      have e2 := get_drop (l := itsC I) (i := i * 3) (j := 2) (x := .sl 1 (bytesA x.p) x.p.length .shut) (by rw [hR1]; rfl)
      simp only [Nat.add_zero] at e0
      have b0 : i * 3 < I.length * 3 := by omega
      have b1 : i * 3 + 1 < I.length * 3 := by omega
      have b2 : i * 3 + 2 < I.length * 3 := by omega
      have b3 : i * 3 + 3 ≤ I.length * 3 := by omega
      have hi1 : i + 1 ≤ I.length := hlt
      have hTi : (I.take i).length = i := by rw [List.length_take]; omega
      have hta : I.take i ++ [x] = I.take (i + 1) := by rw [hx]; exact List.take_append_getElem hlt
      have hap0 := fun objs => hap (I.take i) x objs (by omega)
      simp only [hta, hTi] at hap0
      replace F := aF hlt (And.intro e0 (And.intro e1 (And.intro e2 (And.intro b0 (And.intro b1 (And.intro b2 (And.intro b3 (And.intro hi1 (And.intro hap0 F))))))))); refine run_skip ?_; refine hK8 _ _ ?_; refine sq fun K11 hK11 => ?_; refine run_block_k ?_
      refine run_draw (by kernel_rfl) fun J12 hJ12 => ?_
      refine rp2 0 (k := ?_); refine rp2 1 (k := ?_); refine rp2 2 (k := ?_); refine rp2 3 (k := ?_); refine rp2 4 (k := ?_); refine rp2 5 (k := ?_); refine rp2 6 (k := ?_); refine rp2 7 (k := ?_); refine rp2 8 (k := ?_); refine rp2 9 (k := ?_); refine rp2 10 (k := ?_); refine rp2 11 (k := ?_); refine rp2 12 (k := ?_); refine rp2 13 (k := ?_); refine rp2 14 (k := ?_); refine rp2 15 (k := ?_); refine rp2 16 (k := ?_); refine rp2 17 (k := ?_); refine dop 18 rfl ?_; repeat (first | simp [F] | simp (disch := omega) only [wC, if_pos, if_neg])
      refine ⟨by first | exact fun _ _ h => h | (refine later_list [16, 15, 14, 13, 12, 11, 10, 9, 8, 7, 6, 5, 4, 3, 2, 1] (by kernel_rfl) (List.forall_mem_cons.2 ⟨fun _ => fact2 rfl rfl ?_, List.forall_mem_cons.2 ⟨fun _ => fact2 rfl rfl ?_, List.forall_mem_cons.2 ⟨fun _ => fact2 rfl rfl ?_, List.forall_mem_cons.2 ⟨fun _ => fact2 rfl rfl ?_, List.forall_mem_cons.2 ⟨fun _ => fact2 rfl rfl ?_, List.forall_mem_cons.2 ⟨fun _ => fact2 rfl rfl ?_, List.forall_mem_cons.2 ⟨fun _ => fact2 rfl rfl ?_, List.forall_mem_cons.2 ⟨fun _ => fact2 rfl rfl ?_, List.forall_mem_cons.2 ⟨fun _ => fact2 rfl rfl ?_, List.forall_mem_cons.2 ⟨fun _ => fact2 rfl rfl ?_, List.forall_mem_cons.2 ⟨fun _ => fact2 rfl rfl ?_, List.forall_mem_cons.2 ⟨fun _ => fact2 rfl rfl ?_, List.forall_mem_cons.2 ⟨fun _ => fact2 rfl rfl ?_, List.forall_mem_cons.2 ⟨fun _ => fact2 rfl rfl ?_, List.forall_mem_cons.2 ⟨fun _ => fact2 rfl rfl ?_, List.forall_mem_cons.2 ⟨fun _ => fact2 rfl rfl ?_, fun _ h => absurd h List.not_mem_nil⟩⟩⟩⟩⟩⟩⟩⟩⟩⟩⟩⟩⟩⟩⟩⟩) <;> constructor <;> first | rfl | (simp [F]; done)), ?_⟩
      refine dop 19 rfl ?_; (repeat (first | simp [F] | simp (disch := omega) only [wC, if_pos, if_neg])); (try refine ⟨ln, ?_⟩); refine dd ?_; refine hJ12 _ _ ?_; refine hK11 _ _ ?_; refine rg' (h := fun J13 hJ13 => ?_); refine hJ13 _ _ ?_; refine ⟨(i + 1), ⟨kp, lp, lp, lp, lp⟩, lp⟩
   (try exact nope c8); all_goals have c8p := c8; try simp [F] at c8p
   all_goals
    replace F := aF c8 F; try replace F := aF c8p F
    have hte : I.take i = I := List.take_of_length_le (by have h := c8; simp at h; omega)
    have hil : i = I.length := by have h := c8; simp at h; omega
    have hwk := lsA_wk (k := σ.toks.length) (sz := 3) (n := i) (cs := itsC I) (fun h => by rw [List.eq_nil_of_length_eq_zero (l := I) (by omega)]; rfl)
    refine run_exit ?_; refine hK5 _ _ ?_; refine sr fun _ hJ15 => ?_; refine hJ15 _ _ ?_; refine ra ?_
    rw [hte] at h7
    rw [← hil]
    exact gcr (hA := by simp only [putA_get]; simp [F]; rw [hte]; exact hwk)

structure En where
  n : Nat
  o : UInt8
  v : UInt8
  m : Nat
  d : Nat
  f : Num
  w : Num
def En.Ok (e : En) : Prop := e.n < 2 ^ 64 ∧ e.m < 2 ^ 64 ∧ e.d < 2 ^ 64
def enC (e : En) : List AV := [.v (.int .u64 e.n), .v (.int .u8 e.o.toNat), .v (.int .u8 e.v.toNat), .v (.int .u64 e.m), .v (.int .u64 e.d), .v (.int .u64 (limb e.f.v 0 : Nat)), .v (.int .u64 (limb e.f.v 1 : Nat)), .v (.int .u64 (limb e.f.v 2 : Nat)), .v (.int .u64 (limb e.f.v 3 : Nat)), .v (.int .u64 (limb e.w.v 0 : Nat)), .v (.int .u64 (limb e.w.v 1 : Nat)), .v (.int .u64 (limb e.w.v 2 : Nat)), .v (.int .u64 (limb e.w.v 3 : Nat))]
def ensC (l : List En) : List AV := l.flatMap enC
structure Hp where
  n : Nat
  o : UInt8
  f : UInt8
  t : UInt8
  m : Nat
  d : Nat
  a : Num
  w : Num
def Hp.Ok (e : Hp) : Prop := e.n < 2 ^ 64 ∧ e.m < 2 ^ 64 ∧ e.d < 2 ^ 64
def hpC (e : Hp) : List AV := [.v (.int .u64 e.n), .v (.int .u8 e.o.toNat), .v (.int .u8 e.f.toNat), .v (.int .u8 e.t.toNat), .v (.int .u64 e.m), .v (.int .u64 e.d), .v (.int .u64 (limb e.a.v 0 : Nat)), .v (.int .u64 (limb e.a.v 1 : Nat)), .v (.int .u64 (limb e.a.v 2 : Nat)), .v (.int .u64 (limb e.a.v 3 : Nat)), .v (.int .u64 (limb e.w.v 0 : Nat)), .v (.int .u64 (limb e.w.v 1 : Nat)), .v (.int .u64 (limb e.w.v 2 : Nat)), .v (.int .u64 (limb e.w.v 3 : Nat))]
def hpsC (l : List Hp) : List AV := l.flatMap hpC
def encE (e : En) : List UInt8 := e.o :: e.v :: (nBytes 8 e.m ++ (encN e.f.v ++ encN e.w.v))
def encH (e : Hp) : List UInt8 := e.o :: e.f :: e.t :: (nBytes 8 e.m ++ (encN e.a.v ++ encN e.w.v))
def itE (e : En) : It := ⟨e.d, e.n, encE e⟩
def itH (e : Hp) : It := ⟨e.d, e.n, encH e⟩
structure Wd where
  E : List En
  H : List Hp
  a : Nat
  b : Nat
def wX (x y : AV) (a b : Nat) : List AV := [.v (.int .u64 0), .sl 0 [] 0 .full, .sl 0 [] 0 .full, .sl 0 [] 0 .full, .sl 0 [] 0 .full, .sl 0 [] 0 .full, x, y, .v (.int .u64 a), .v (.int .u64 b)]
def wC (W : Wd) : List AV := wX (.sl 13 (ensC W.E) W.E.length .shut) (.sl 14 (hpsC W.H) W.H.length .shut) W.a W.b
structure GS (α : Type) where
  i : Nat
  O : List α
  b : Bool
structure HopS (s : Sto) (W : Wd) (n : Nat) : Prop where
  ok : s.Ok n
  le : Ln s.l 101 (W.E.map itE) W.a
  lh : Ln s.l 104 (W.H.map itH) W.b
  oe : ∀ e ∈ W.E, e.Ok
  oh : ∀ e ∈ W.H, e.Ok
  ne : W.E.length ≤ n
  nh : W.H.length ≤ n
  na : W.a ≤ n
  nb : W.b ≤ n
def wd0 : Wd := ⟨[], [], 0, 0⟩
theorem HopS.nil : HopS newSg.s wd0 0 := ⟨newSg_ok, Ln.nil 101, Ln.nil 104, fun e h => by simp [wd0] at h, fun e h => by simp [wd0] at h, Nat.le_refl _, Nat.le_refl _, Nat.le_refl _, Nat.le_refl _⟩
def nearA (a : AL) : AL := ⟨a.f, a.kd, a.d % 5, a.n % 9, a.p⟩
theorem alsC_app (l m : List AL) : alsC (l ++ m) = alsC l ++ alsC m := by simp [alsC]
theorem alsC_under (B : Bd) : ∀ l : List AL, underL B (alsC l) = true
  | [] => rfl
  | a :: l => by
    have ih := alsC_under B l
    simp only [alsC, List.flatMap_cons, alC, List.cons_append, List.nil_append, underL, AV.under, byC_under, Bool.true_and, Bool.and_true] at ih ⊢
    exact ih
theorem alsC_noObj (nb : Nat) : ∀ l : List AL, noObjL nb (alsC l) = true
  | [] => rfl
  | a :: l => by
    have ih := alsC_noObj nb l
    simp only [alsC, List.flatMap_cons, alC, List.cons_append, List.nil_append, noObjL, AV.noObj, byC, bytes_noObj, Bool.true_and, Bool.and_true] at ih ⊢
    exact ih

set_option maxHeartbeats 1600000 in
attribute [local simp] undefA List.getElem?_cons_zero List.getElem?_cons_succ lsA_nil lsT_nil lsZ_nil lsL_nil gcO_ls noObj_ls alsC_noObj bytes_noObj in
theorem near13_ok {σ : St} {l : List AL} (hl : l.length ≤ 1000000) :
    CallsA Try.prog 48 [.sl 5 (alsC l) l.length .shut] σ (fun av σ' => av = .sl 5 (alsC (l.map nearA)) (l.map nearA).length .shut ∧ σ = σ') := by
  refine callsA_gcS ?_ (by simp [AV.under, alsC_under])
  have hlc := alsC_len l
  have hr5 : ∀ (a : AL) xo yo, binA Try.prog .rem 54 xo yo (.v (.int .u64 (a.d : Nat))) (.v (.int .u64 5)) = some (.v (.int .u64 ((a.d % 5 : Nat) : Int))) := fun a xo yo => by rw [binA_rem (h := by decide)]; rfl
  have hr9 : ∀ (a : AL) xo yo, binA Try.prog .rem 54 xo yo (.v (.int .u64 (a.n : Nat))) (.v (.int .u64 9)) = some (.v (.int .u64 ((a.n % 9 : Nat) : Int))) := fun a xo yo => by rw [binA_rem (h := by decide)]; rfl
  obtain ⟨T, hT⟩ : ∃ T, T = l.map nearA := ⟨_, rfl⟩
  have hTl : T.length = l.length := by rw [hT]; simp
  rw [← hT]
  have hap : ∀ (O : List AL) (x : AL) objs, O.length ≤ 1000000 → appendA Try.prog 52 (lsA σ.toks.length 5 (alsC O) O.length) (.sl 5 (alC x) 1 .full) ⟨objs, σ.toks ++ lsT O.length, σ.gl, σ.rows⟩ = some (lsA σ.toks.length 5 (alsC (O ++ [x])) (O.length + 1), ⟨objs, σ.toks ++ lsT (O.length + 1), σ.gl, σ.rows⟩) := fun O x objs hO => by
    rw [alsC_app, show alsC [x] = alC x by simp [alsC]]
    exact append_ls elemT_52 ti_57 (by decide) rfl (fun h => by rw [List.eq_nil_of_length_eq_zero h]; rfl) rfl (by omega) (by simp only [roomA]; omega) (by simp only [maxLen]; omega)
  have F := And.intro hlc (And.intro hr5 (And.intro hr9 (True.intro)))
  refine callsA_body Try.func48 rfl rfl rfl ?_; refine sr fun _ hJ2 => ?_; refine hJ2 _ _ ?_; refine sr fun _ hJ4 => ?_; refine hJ4 _ _ ?_; refine sq fun K5 hK5 => ?_; refine sr fun _ hJ7 => ?_; refine hJ7 _ _ ?_; refine run_block_k ?_; refine run_loopG (X := Nat) [0, 2] (fun i ρ σ1 => (i ≤ l.length) ∧ (ρ 4 = .v (.int .i64 i)) ∧ (ρ 3 = lsA σ.toks.length 5 (alsC (T.take i)) i) ∧ (σ1 = { σ with toks := σ.toks ++ lsT i })) (fun i => l.length - i) (0) ?st1 ?rd1
  case st1 =>
   refine ⟨lp, lp, lp, ?_⟩
   · simp [lsT_nil]
  case rd1 =>
   rintro i ρ1 σ1 hF1 ⟨h1, h5, h7, hσ⟩; obtain rfl := hσ.symm
   have f1 := keepL hF1
   (try simp [KeepL, F] at f1); replace F := aF h5 F; replace F := aF h7 F; (try replace F := aF f1 F); refine sq fun K8 hK8 => ?_; refine sr fun _ hJ10 => ?_; refine hJ10 _ _ ?_; refine cs (fun c9 => ?_) (fun c9 => ?_)
   · (try exact nope c9); all_goals have c9p := c9; try simp [F] at c9p
     all_goals
      replace F := aF c9 F; try replace F := aF c9p F
      have hlt : i < l.length := by have h := c9; simp at h; omega
      obtain ⟨R, hR⟩ := alsC_at (l := l) (i := i) hlt
      obtain ⟨x, hx⟩ : ∃ x, x = l[i] := ⟨_, rfl⟩
      rw [← hx] at hR
      have hR5 : List.take 5 (List.drop (i * 5) (alsC l)) = alC x := by rw [hR]; rfl
      have b5 : i * 5 + 5 ≤ l.length * 5 := by omega
      have hi1 : i + 1 ≤ l.length := hlt
      have hTi : (T.take i).length = i := by rw [List.length_take]; omega
      have hta : T.take i ++ [nearA x] = T.take (i + 1) := by rw [← List.take_append_getElem (show i < T.length by omega)]; simp [hT, hx]
      have hap0 := fun objs => hap (T.take i) (nearA x) objs (by omega)
      simp only [hta, hTi] at hap0
      have e2 : ∀ h2 : 2 < (alC x).length, (alC x)[2]'h2 = .v (.int .u64 (x.d : Nat)) := fun _ => rfl
      have e3 : ∀ h2 : 3 < (alC x).length, (alC x)[3]'h2 = .v (.int .u64 (x.n : Nat)) := fun _ => rfl
      obtain ⟨y, hy⟩ : ∃ y : AL, y = ⟨x.f, x.kd, x.d % 5, x.n, x.p⟩ := ⟨_, rfl⟩
      have s1 : List.take 2 (alC x) ++ AV.v (.int .u64 ((x.d : Int) % 5)) :: List.drop 3 (alC x) = alC y := by subst hy; rfl
      have s2 : List.take 3 (alC y) ++ AV.v (.int .u64 ((x.n : Int) % 9)) :: List.drop 4 (alC y) = alC (nearA x) := by subst hy; rfl
      have c1 : (alC x).length = 5 := rfl
      have c2 : (alC y).length = 5 := rfl
      have c3 : (alC (nearA x)).length = 5 := rfl
      have t3 : List.take 5 (alC (nearA x)) = alC (nearA x) := rfl
      have t1 : List.take 5 (alC x) = alC x := rfl
      have hal : ∀ z : AL, ∀ w ∈ alC z, w.isCell = true := fun z w hw => by simp only [alC, byC, List.mem_cons, List.not_mem_nil, or_false] at hw; rcases hw with rfl | rfl | rfl | rfl | rfl <;> rfl
      have l1 : (∀ w, w ∈ alC x → w.isCell = true) = True := eq_true (hal x)
      have l3 : (∀ w, w ∈ alC (nearA x) → w.isCell = true) = True := eq_true (hal _)
      have o1 : ∀ nb, noObjL nb (alC x) = true := fun nb => by have := alsC_noObj nb [x]; simpa [alsC] using this
      have o3 : ∀ nb, noObjL nb (alC (nearA x)) = true := fun nb => by have := alsC_noObj nb [nearA x]; simpa [alsC] using this
      obtain ⟨X, hX⟩ : ∃ X, X = alC x := ⟨_, rfl⟩
      obtain ⟨Y, hY⟩ : ∃ Y, Y = alC y := ⟨_, rfl⟩
      obtain ⟨Z, hZ⟩ : ∃ Z, Z = alC (nearA x) := ⟨_, rfl⟩
      rw [← hX] at hR5 s1 c1 t1 l1
      simp only [← hX] at e2 e3 o1
      rw [← hY] at s1 s2 c2
      rw [← hZ] at s2 c3 t3 l3
      simp only [← hZ] at o3 hap0
      simp only [AV.isCell] at l1 l3
      have hrx := hr5 x
      have hry := hr9 x
      have hwi : IntKind.i64.wrap ((i : Int) + 1) = (i : Int) + 1 := wrap_i64 _ (by omega) (by omega)
      replace F := aF hwi F; replace F := aF hlt (And.intro hR5 (And.intro b5 (And.intro hi1 (And.intro hrx (And.intro hry (And.intro hap0 F)))))); replace F := aF s1 (And.intro s2 (And.intro c1 (And.intro c2 (And.intro c3 (And.intro t1 (And.intro t3 (And.intro e2 (And.intro e3 (And.intro l1 (And.intro l3 (And.intro o1 (And.intro o3 F)))))))))))); refine run_skip ?_; refine hK8 _ _ ?_; refine sq fun K11 hK11 => ?_; refine run_block_k ?_; refine sr fun _ hJ13 => ?_; refine hJ13 _ _ ?_; refine sr fun _ hJ15 => ?_; refine hJ15 _ _ ?_; refine rg' (h := fun J16 hJ16 => ?_); refine hJ16 _ _ ?_; refine hK11 _ _ ?_; refine rg' (h := fun J17 hJ17 => ?_); refine hJ17 _ _ ?_; refine ⟨gk, (i + 1), ⟨kpG, lpG, lpG, lpG, lpG⟩, lpG⟩
   (try exact nope c9); all_goals have c9p := c9; try simp [F] at c9p
   all_goals
    replace F := aF c9 F; try replace F := aF c9p F
    have hte : T.take i = T := List.take_of_length_le (by have h := c9; simp at h; omega)
    have hil : i = T.length := by have h := c9; simp at h; omega
    have hwk := lsA_wk (k := σ.toks.length) (sz := 5) (n := i) (cs := alsC T) (fun h => by rw [List.eq_nil_of_length_eq_zero (l := T) (by omega)]; rfl)
    refine run_exit ?_; refine hK5 _ _ ?_; refine sr fun _ hJ19 => ?_; refine hJ19 _ _ ?_; refine ra ?_
    rw [hte] at h7
    rw [← hil]
    exact gcr (hA := by simp only [putA_get]; simp [F]; rw [hte]; exact hwk)
structure AH where
  f : UInt8
  e : En
  h : Hp
def AH.Ok (a : AH) : Prop := a.e.Ok ∧ a.h.Ok
theorem HopS.mono {s : Sto} {W : Wd} {n m : Nat} (h : HopS s W n) (hm : n ≤ m) : HopS s W m := ⟨h.ok.mono hm, h.le, h.lh, h.oe, h.oh, Nat.le_trans h.ne hm, Nat.le_trans h.nh hm, Nat.le_trans h.na hm, Nat.le_trans h.nb hm⟩
theorem rem_u64 (n m : Nat) (hm : (m : Int) ≠ 0) (xo yo : Operand) : binA Try.prog .rem 54 xo yo (.v (.int .u64 (n : Nat))) (.v (.int .u64 m)) = some (.v (.int .u64 ((n % m : Nat) : Int))) := by rw [binA_rem (h := hm)]; rfl
theorem rem_u8 (b : UInt8) (m : Nat) (hm : (m : Int) ≠ 0) (xo yo : Operand) : binA Try.prog .rem 5 xo yo (.v (.int .u8 (b.toNat : Nat))) (.v (.int .u8 m)) = some (.v (.int .u8 ((b.toNat % m : Nat) : Int))) := by rw [binA_rem (h := hm)]; rfl
theorem setI_insD {d n : Nat} {p : List UInt8} : ∀ {I : List It}, (∀ x ∈ I, x.n < n) → setI I d n (some p) = insD I d n p
  | [], _ => rfl
  | y :: I, h => by
    have h0 := h y (by simp)
    have ih := setI_insD (d := d) (p := p) (fun z hz => h z (by simp [hz]) : ∀ z ∈ I, z.n < n)
    rw [setI, if_neg (fun e => by have := e.2; omega), insD]
    by_cases e : d < y.d
    · rw [if_pos (.inl e), if_pos e]
    · rw [if_neg (fun q => by rcases q with q | q <;> omega), if_neg e, ih]
theorem insD_len {d n : Nat} {p : List UInt8} : ∀ I : List It, (insD I d n p).length = I.length + 1
  | [] => rfl
  | y :: I => by rw [insD]; split <;> simp [insD_len I]
def SrtI (I : List It) : Prop := I.Pairwise fun x y => x.d < y.d ∨ x.d = y.d ∧ x.n < y.n
theorem setI_at {d n : Nat} : ∀ {I : List It} {i : Nat} (h : i < I.length), SrtI I → I[i].d = d → I[i].n = n → (∀ p, setI I d n (some p) = I.set i ⟨d, n, p⟩) ∧ setI I d n none = I.eraseIdx i
  | y :: I, 0, h, _, h1, h2 => ⟨fun p => by rw [setI, if_pos ⟨h1, h2⟩]; rfl, by rw [setI, if_pos ⟨h1, h2⟩]; rfl⟩
  | y :: I, i + 1, h, hs, h1, h2 => by
    have l1 := List.pairwise_cons.1 hs
    have hi : i < I.length := by simpa using h
    have hy := l1.1 (I[i]) (List.getElem_mem _)
    have h1' : I[i].d = d := by simpa using h1
    have h2' : I[i].n = n := by simpa using h2
    obtain ⟨e1, e2⟩ := setI_at hi l1.2 h1' h2'
    refine ⟨fun p => ?_, ?_⟩
    · rw [setI, if_neg (by omega), if_neg (by omega), e1 p]; rfl
    · rw [setI, if_neg (by omega), if_neg (by omega), e2]; rfl
theorem setI_no {d n : Nat} : ∀ {I : List It}, (∀ x ∈ I, ¬ (x.d = d ∧ x.n = n)) → setI I d n none = I
  | [], _ => rfl
  | y :: I, h => by
    rw [setI, if_neg (h y (by simp))]
    split
    · rfl
    · rw [setI_no (fun z hz => h z (by simp [hz]))]

structure I13 (s : Sto) (Ms : List Rl) (n : Nat) : Prop where
  ok : s.Ok n
  ln : ∀ (k : Nat) (h : k < Ms.length), Ln s.l (UInt8.ofNat k) Ms[k].I Ms[k].c
  sz : ∀ (k : Nat) (h : k < Ms.length), Ms[k].I.length ≤ n ∧ Ms[k].c ≤ n
  pl : ∀ (k : Nat) (h : k < Ms.length), ∀ x ∈ Ms[k].I, x.p.length ≤ 1000000
  len : Ms.length = 3
theorem I13.upd {s s' : Sto} {Ms : List Rl} {n n' kk : Nat} {X : Rl} (h : I13 s Ms n) (hk : kk < Ms.length) (ho : s'.Ok n') (hn : n ≤ n') (hl : Ln s'.l (UInt8.ofNat kk) X.I X.c)
    (hoth : ∀ k' : UInt8, UInt8.ofNat kk ≠ k' → ∀ I c, Ln s.l k' I c → Ln s'.l k' I c) (hs : X.I.length ≤ n' ∧ X.c ≤ n') (hp : ∀ x ∈ X.I, x.p.length ≤ 1000000) : I13 s' (Ms.set kk X) n' := by
  have h3 := h.len
  have hne : ∀ k, k < Ms.length → kk ≠ k → UInt8.ofNat kk ≠ UInt8.ofNat k := fun k hk2 hne e => by
    have := congrArg UInt8.toNat e
    rw [toNat_ofNat (by omega), toNat_ofNat (by omega)] at this
    exact hne this
  refine ⟨ho, fun k hk2 => ?_, fun k hk2 => ?_, fun k hk2 => ?_, by simpa using h3⟩
  · rw [List.length_set] at hk2
    by_cases e : kk = k
    · subst e; simpa using hl
    · simp only [List.getElem_set_ne e]; exact hoth _ (hne k hk2 e) _ _ (h.ln k hk2)
  · rw [List.length_set] at hk2
    by_cases e : kk = k
    · subst e; simpa using hs
    · simp only [List.getElem_set_ne e]; have := h.sz k hk2; omega
  · rw [List.length_set] at hk2
    by_cases e : kk = k
    · subst e; simpa using hp
    · simp only [List.getElem_set_ne e]; exact h.pl k hk2
theorem insD_mem {d n : Nat} {p : List UInt8} : ∀ {I : List It} {x : It}, x ∈ insD I d n p → x = ⟨d, n, p⟩ ∨ x ∈ I
  | [], x, h => by simp [insD] at h; exact .inl h
  | y :: I, x, h => by
    rw [insD] at h
    split at h
    · rcases List.mem_cons.1 h with h | h
      · exact .inl h
      · exact .inr h
    · rcases List.mem_cons.1 h with h | h
      · exact .inr (by simp [h])
      · rcases insD_mem h with h | h
        · exact .inl h
        · exact .inr (by simp [h])
theorem I13.add {s : Sto} {Ms : List Rl} {n kk d q g : Nat} {p : List UInt8} (h : I13 s Ms n) (hk : kk < Ms.length) (hn : n ≤ 1000) (hd : d < 2 ^ 64) (hp : p.length ≤ 1000000) :
    I13 (addL s (UInt8.ofNat kk) d p Ms[kk].c) (Ms.set kk ⟨insD Ms[kk].I d (Ms[kk].c + 1) p, Ms[kk].c + 1, q, g⟩) (n + 2) := by
  have hsz := h.sz kk hk
  have h1 := (h.ln kk hk).add h.ok.srt (p := p) hd (by omega : Ms[kk].c + 1 < 2 ^ 64)
  rw [setI_insD (fun x hx => by have := ((h.ln kk hk).num x hx).2; omega)] at h1
  refine h.upd hk (addL_ok h.ok hp) (by omega) h1 (fun k' hne I c hl => hl.add' h.ok.srt hne) ⟨by rw [insD_len]; omega, by simp only; omega⟩ (fun x hx => ?_)
  rcases insD_mem hx with rfl | hx
  · exact hp
  · exact h.pl kk hk x hx
theorem I13.set {s : Sto} {Ms : List Rl} {n kk d no i q g : Nat} {p : List UInt8} (h : I13 s Ms n) (hk : kk < Ms.length) (hd : d < 2 ^ 64) (hno : no < 2 ^ 64) (hp : p.length ≤ 1000000) (hi : i < Ms[kk].I.length) (e1 : Ms[kk].I[i].d = d) (e2 : Ms[kk].I[i].n = no) :
    I13 (doS s (keyW (UInt8.ofNat kk) d no) (some p)) (Ms.set kk ⟨Ms[kk].I.set i ⟨d, no, p⟩, Ms[kk].c, q, g⟩) (n + 2) := by
  have hsz := h.sz kk hk
  have hnum := (h.ln kk hk).num _ (List.getElem_mem hi)
  have h1 : Ln (setL s.l (keyW (UInt8.ofNat kk) d no) (some p)) (UInt8.ofNat kk) (setI Ms[kk].I d no (some p)) Ms[kk].c := (h.ln kk hk).set h.ok.srt hd hno (fun _ => by rw [← e2]; exact hnum)
  rw [(setI_at hi ((h.ln kk hk).sorted h.ok.srt) e1 e2).1 p] at h1
  refine h.upd hk ((doS_ok h.ok (by rw [keyW_len]; omega) (by simpa using hp)).mono (by omega)) (by omega) h1 (fun k' hne I c hl => hl.other h.ok.srt hne) ⟨by simp only [List.length_set]; omega, by simp only; omega⟩ (fun x hx => ?_)
  rcases List.mem_or_eq_of_mem_set hx with hx | rfl
  · exact h.pl kk hk x hx
  · exact hp
theorem I13.rem {s : Sto} {Ms : List Rl} {n kk d no i q g : Nat} (h : I13 s Ms n) (hk : kk < Ms.length) (hd : d < 2 ^ 64) (hno : no < 2 ^ 64) (hi : i < Ms[kk].I.length) (e1 : Ms[kk].I[i].d = d) (e2 : Ms[kk].I[i].n = no) :
    I13 (doS s (keyW (UInt8.ofNat kk) d no) none) (Ms.set kk ⟨Ms[kk].I.eraseIdx i, Ms[kk].c, q, g⟩) (n + 2) := by
  have hsz := h.sz kk hk
  have h1 : Ln (setL s.l (keyW (UInt8.ofNat kk) d no) none) (UInt8.ofNat kk) (setI Ms[kk].I d no none) Ms[kk].c := (h.ln kk hk).set h.ok.srt hd hno (fun q => (q rfl).elim)
  rw [(setI_at hi ((h.ln kk hk).sorted h.ok.srt) e1 e2).2] at h1
  have hle : (Ms[kk].I.eraseIdx i).length ≤ Ms[kk].I.length := by rw [List.length_eraseIdx]; split <;> omega
  exact h.upd hk ((rem_ok h.ok).mono (by omega)) (by omega) h1 (fun k' hne I c hl => hl.other h.ok.srt hne) ⟨by simp only; omega, by simp only; omega⟩ (fun x hx => h.pl kk hk x (List.mem_of_mem_eraseIdx hx))
theorem set_self {α : Type} {l : List α} {k : Nat} (h : k < l.length) : l.set k l[k] = l := List.set_getElem_self h
theorem I13.remN {s : Sto} {Ms : List Rl} {n kk d no : Nat} (h : I13 s Ms n) (hk : kk < Ms.length) (hd : d < 2 ^ 64) (hno : no < 2 ^ 64) (hx : ∀ x ∈ Ms[kk].I, ¬ (x.d = d ∧ x.n = no)) :
    I13 (doS s (keyW (UInt8.ofNat kk) d no) none) Ms (n + 2) := by
  have hsz := h.sz kk hk
  have h1 : Ln (setL s.l (keyW (UInt8.ofNat kk) d no) none) (UInt8.ofNat kk) (setI Ms[kk].I d no none) Ms[kk].c := (h.ln kk hk).set h.ok.srt hd hno (fun q => (q rfl).elim)
  rw [setI_no hx] at h1
  have := h.upd hk (X := Ms[kk]) ((rem_ok h.ok).mono (by omega)) (by omega) h1 (fun k' hne I c hl => hl.other h.ok.srt hne) (n' := n + 2) ⟨by omega, by omega⟩ (h.pl kk hk)
  rwa [set_self hk] at this
theorem I13.mono {s : Sto} {Ms : List Rl} {n m : Nat} (h : I13 s Ms n) (hm : n ≤ m) : I13 s Ms m := ⟨h.ok.mono hm, h.ln, fun k hk => by have := h.sz k hk; omega, h.pl, h.len⟩
theorem I13.get {s : Sto} {Ms : List Rl} {n kk d no : Nat} (h : I13 s Ms n) (hk : kk < Ms.length) (hd : d < 2 ^ 64) (hno : no < 2 ^ 64) : (getL s.l (keyW (UInt8.ofNat kk) d no)).isSome = Ms[kk].I.any fun x => decide (x.d = d ∧ x.n = no) := (h.ln kk hk).get hd hno
theorem any_no {I : List It} {d no : Nat} (h : ∀ x ∈ I, ¬ (x.d = d ∧ x.n = no)) : (I.any fun x => decide (x.d = d ∧ x.n = no)) = false := by
  rw [List.any_eq_false]; intro x hx; simpa using h x hx
theorem any_yes {I : List It} {d no i : Nat} (hi : i < I.length) (h1 : I[i].d = d) (h2 : I[i].n = no) : (I.any fun x => decide (x.d = d ∧ x.n = no)) = true :=
  List.any_eq_true.2 ⟨I[i], List.getElem_mem _, decide_eq_true ⟨h1, h2⟩⟩

/-! ### What stands where -/
theorem HasM.app {σ : St} {m : Nat} {Ms : List Rl} (h : HasM σ m Ms) (l : List (List AV)) : HasM { σ with objs := σ.objs ++ l } m Ms := ⟨by simp only; rw [List.getElem?_append_left (lt_of_get h.o)]; exact h.o, h.r⟩
theorem HasM.putS {σ : St} {o k m : Nat} {Ms : List Rl} (h : HasM σ m Ms) (how : o ≠ m) (hq : ∀ (j : Nat) (hj : j < Ms.length), k + 3 ≤ Ms[j].q) (G : Sg) : HasM (putS σ o k G) m Ms :=
  ⟨by simp only [Go.Vm.putS]; rw [List.getElem?_set_ne how]; exact h.o, fun j hj => by
    have := hq j hj
    simp only [Go.Vm.putS]
    rw [List.getElem?_set_ne (by omega), List.getElem?_set_ne (by omega), List.getElem?_set_ne (by omega)]; exact h.r j hj⟩
def newM (σ : St) (m : Nat) (Ms : List Rl) (x : RowSt) : St := { σ with objs := σ.objs.set m (mC Ms), rows := σ.rows ++ [x] }
def rowM (σ : St) (q : Nat) (x : RowSt) : St := { σ with rows := σ.rows.set q x }
theorem HasM.new {σ : St} {m kk : Nat} {Ms : List Rl} {X : Rl} (h : HasM σ m Ms) (hX : X.q = σ.rows.length) : HasM (newM σ m (Ms.set kk X) ⟨X.g, itsC X.I, none⟩) m (Ms.set kk X) :=
  ⟨set_self_of h.o _, fun j hj => by
    rw [List.length_set] at hj
    simp only [newM]
    by_cases e : kk = j
    · subst e; simp [hX]
    · have hr := h.r j hj
      simp only [List.getElem_set_ne e]
      rw [List.getElem?_append_left (lt_of_get hr)]; exact hr⟩
theorem mC_same {Ms : List Rl} {kk : Nat} {X : Rl} (hk : kk < Ms.length) (h1 : X.I.length = Ms[kk].I.length) (h2 : X.c = Ms[kk].c) (h3 : X.q = Ms[kk].q) (h4 : X.g = Ms[kk].g) : mC (Ms.set kk X) = mC Ms := by
  induction Ms generalizing kk with
  | nil => simp at hk
  | cons y l ih =>
    cases kk with
    | zero =>
      simp only [List.getElem_cons_zero] at h1 h2 h3 h4
      show rlC X ++ mC l = rlC y ++ mC l
      rw [rlC, rlC, h1, h2, h3, h4]
    | succ j =>
      show rlC y ++ mC (l.set j X) = rlC y ++ mC l
      rw [ih (by simpa using hk) (by simpa using h1) (by simpa using h2) (by simpa using h3) (by simpa using h4)]
theorem HasM.row {σ : St} {m kk : Nat} {Ms : List Rl} {X : Rl} (h : HasM σ m Ms) (hk : kk < Ms.length) (hd : ∀ (i j : Nat) (hi : i < Ms.length) (hj : j < Ms.length), i ≠ j → Ms[i].q ≠ Ms[j].q)
    (h1 : X.I.length = Ms[kk].I.length) (h2 : X.c = Ms[kk].c) (h3 : X.q = Ms[kk].q) (h4 : X.g = Ms[kk].g) : HasM (rowM σ X.q ⟨X.g, itsC X.I, none⟩) m (Ms.set kk X) :=
  ⟨by rw [mC_same hk h1 h2 h3 h4]; exact h.o, fun j hj => by
    rw [List.length_set] at hj
    simp only [rowM]
    by_cases e : kk = j
    · subst e
      rw [List.getElem_set_self]
      exact set_self_of (by rw [h3]; exact h.r kk hk) _
    · simp only [List.getElem_set_ne e]
      rw [List.getElem?_set_ne (by rw [h3]; exact hd kk j hk hj e)]; exact h.r j hj⟩

structure LSt (σ τ : St) (G : Sg) (Ms : List Rl) : Prop where
  ex : ∃ r, τ = { σ with objs := σ.objs ++ [stC σ.rows.length G, mC Ms], rows := σ.rows ++ r } ∧ ∀ x ∈ r, ∀ nb, noObjL nb x.cells = true
  s : HasS τ σ.objs.length σ.rows.length G
  m : HasM τ (σ.objs.length + 1) Ms
  q : ∀ (j : Nat) (h : j < Ms.length), σ.rows.length + 3 ≤ Ms[j].q
  d : ∀ (i j : Nat) (hi : i < Ms.length) (hj : j < Ms.length), i ≠ j → Ms[i].q ≠ Ms[j].q
theorem rowsN {σ : St} {G : Sg} {r : List RowSt} : (((σ.rows ++ r).set σ.rows.length (stR1 G)).set (σ.rows.length + 1) (stR2 G)).set (σ.rows.length + 2) (stR3 G) = σ.rows ++ ((r.set 0 (stR1 G)).set 1 (stR2 G)).set 2 (stR3 G) := by
  rw [List.set_append_right _ _ (Nat.le_refl _), List.set_append_right _ _ (by omega), List.set_append_right _ _ (by omega)]; simp
theorem noR {r : List RowSt} {i : Nat} {x : RowSt} (h : ∀ x ∈ r, ∀ nb, noObjL nb x.cells = true) (hx : ∀ nb, noObjL nb x.cells = true) : ∀ y ∈ r.set i x, ∀ nb, noObjL nb y.cells = true := fun y hy => by
  rcases List.mem_or_eq_of_mem_set hy with hy | rfl
  · exact h y hy
  · exact hx
theorem LSt.puts {σ τ : St} {G : Sg} {Ms : List Rl} (h : LSt σ τ G Ms) (G' : Sg) : LSt σ (putS τ σ.objs.length σ.rows.length G') G' Ms := by
  obtain ⟨r, hr, hn⟩ := h.ex
  refine ⟨⟨((r.set 0 (stR1 G')).set 1 (stR2 G')).set 2 (stR3 G'), ?_, noR (noR (noR hn (fun nb => prsC_noObj nb _)) (fun nb => udsC_noObj nb _)) (fun nb => mkC_noObj nb _)⟩, h.s.put G', h.m.putS (by omega) h.q G', h.q, h.d⟩
  subst hr
  simp only [putS, rowsN]
  simp
theorem LSt.new {σ τ : St} {G : Sg} {Ms : List Rl} {kk : Nat} {X : Rl} (h : LSt σ τ G Ms) (hk : kk < Ms.length) (hX : X.q = τ.rows.length) : LSt σ (newM τ (σ.objs.length + 1) (Ms.set kk X) ⟨X.g, itsC X.I, none⟩) G (Ms.set kk X) := by
  obtain ⟨r, hr, hn⟩ := h.ex
  have hlt : ∀ (j : Nat) (hj : j < Ms.length), Ms[j].q < τ.rows.length := fun j hj => lt_of_get (h.m.r j hj)
  have hqq : σ.rows.length + 3 ≤ τ.rows.length := by have := h.q kk hk; have := hlt kk hk; omega
  refine ⟨⟨r ++ [⟨X.g, itsC X.I, none⟩], ?_, fun x hx => ?_⟩, ⟨?_, ?_, ?_, ?_⟩, h.m.new hX, fun j hj => ?_, fun i j hi hj hne => ?_⟩
  · subst hr; simp [newM]
  · rcases List.mem_append.1 hx with hx | hx
    · exact hn x hx
    · simp at hx; subst hx; exact fun nb => itsC_noObj nb _
  · simp only [newM]; rw [List.getElem?_set_ne (by omega)]; exact h.s.o
  · simp only [newM]; rw [List.getElem?_append_left (lt_of_get h.s.r1)]; exact h.s.r1
  · simp only [newM]; rw [List.getElem?_append_left (lt_of_get h.s.r2)]; exact h.s.r2
  · simp only [newM]; rw [List.getElem?_append_left (lt_of_get h.s.r3)]; exact h.s.r3
  · rw [List.length_set] at hj
    by_cases e : kk = j
    · subst e; rw [List.getElem_set_self, hX]; exact hqq
    · rw [List.getElem_set_ne e]; exact h.q j hj
  · rw [List.length_set] at hi hj
    by_cases e : kk = i
    · subst e
      rw [List.getElem_set_self, List.getElem_set_ne hne, hX]
      have := hlt j hj; omega
    · rw [List.getElem_set_ne e]
      by_cases e2 : kk = j
      · subst e2; rw [List.getElem_set_self, hX]; have := hlt i hi; omega
      · rw [List.getElem_set_ne e2]; exact h.d i j hi hj hne
theorem LSt.row {σ τ : St} {G : Sg} {Ms : List Rl} {kk : Nat} {X : Rl} (h : LSt σ τ G Ms) (hk : kk < Ms.length) (h1 : X.I.length = Ms[kk].I.length) (h2 : X.c = Ms[kk].c) (h3 : X.q = Ms[kk].q) (h4 : X.g = Ms[kk].g) : LSt σ (rowM τ X.q ⟨X.g, itsC X.I, none⟩) G (Ms.set kk X) := by
  obtain ⟨r, hr, hn⟩ := h.ex
  have hq := h.q kk hk
  have hge : σ.rows.length + 3 ≤ X.q := by rw [h3]; exact hq
  refine ⟨⟨r.set (X.q - σ.rows.length) ⟨X.g, itsC X.I, none⟩, ?_, noR hn (fun nb => itsC_noObj nb _)⟩, ⟨h.s.o, ?_, ?_, ?_⟩, h.m.row hk h.d h1 h2 h3 h4, fun j hj => ?_, fun i j hi hj hne => ?_⟩
  · rw [mC_same hk h1 h2 h3 h4]; subst hr; simp only [rowM]; rw [List.set_append_right _ _ (by omega)]
  · simp only [rowM]; rw [List.getElem?_set_ne (by omega)]; exact h.s.r1
  · simp only [rowM]; rw [List.getElem?_set_ne (by omega)]; exact h.s.r2
  · simp only [rowM]; rw [List.getElem?_set_ne (by omega)]; exact h.s.r3
  · rw [List.length_set] at hj
    by_cases e : kk = j
    · subst e; rw [List.getElem_set_self]; exact hge
    · rw [List.getElem_set_ne e]; exact h.q j hj
  · rw [List.length_set] at hi hj
    by_cases e : kk = i
    · subst e
      rw [List.getElem_set_self, List.getElem_set_ne hne, h3]; exact h.d kk j hk hj hne
    · rw [List.getElem_set_ne e]
      by_cases e2 : kk = j
      · subst e2; rw [List.getElem_set_self, h3]; exact h.d i kk hi hk hne
      · rw [List.getElem_set_ne e2]; exact h.d i j hi hj hne
theorem stC_noObj (nb k : Nat) (G : Sg) : noObjL nb (stC k G) = true := by simp [stC, noObjL, AV.noObj]
theorem mC_noObj (nb : Nat) : ∀ Ms : List Rl, noObjL nb (mC Ms) = true
  | [] => rfl
  | x :: l => by
    have ih := mC_noObj nb l
    simp only [mC, List.flatMap_cons, rlC, List.cons_append, List.nil_append, noObjL, AV.noObj, Bool.true_and] at ih ⊢
    exact ih
theorem LSt.len {σ τ : St} {G : Sg} {Ms : List Rl} (h : LSt σ τ G Ms) : τ.objs.length = σ.objs.length + 2 ∧ τ.gl = σ.gl := by
  obtain ⟨r, rfl, _⟩ := h.ex; simp
theorem LSt.kp {σ τ τ' : St} {G G' : Sg} {Ms Ms' : List Rl} (h : LSt σ τ G Ms) (h' : LSt σ τ' G' Ms') (nb : Nat) : Kp nb τ.objs τ'.objs ∧ KpR nb τ.rows τ'.rows := by
  obtain ⟨r, rfl, hn⟩ := h.ex
  obtain ⟨r', rfl, hn'⟩ := h'.ex
  refine ⟨Kp.of (by simp) (fun id a b h1 h2 => ?_), fun k x hx => ?_⟩
  · simp only at h1 h2
    by_cases e : id < σ.objs.length
    · rw [List.getElem?_append_left e] at h1 h2; rw [h1] at h2; cases h2; exact .inl rfl
    · rw [List.getElem?_append_right (by omega)] at h2
      have := List.mem_of_getElem? h2
      simp only [List.mem_cons, List.not_mem_nil, or_false] at this
      rcases this with rfl | rfl
      · exact .inr (stC_noObj _ _ _)
      · exact .inr (mC_noObj _ _)
  · simp only at hx ⊢
    by_cases e : k < σ.rows.length
    · rw [List.getElem?_append_left e] at hx; exact .inl ⟨x, by rw [List.getElem?_append_left e]; exact hx, rfl⟩
    · rw [List.getElem?_append_right (by omega)] at hx
      exact .inr (hn' x (List.mem_of_getElem? hx) _)

structure D13 where
  τ : St
  G : Sg
  Ms : List Rl
set_option maxHeartbeats 1600000 in
attribute [local simp] undefA List.getElem?_cons_zero List.getElem?_cons_succ in
theorem does13_ok {σ τ : St} {G : Sg} {Ms : List Rl} {n : Nat} {a : AL} (h : LSt σ τ G Ms) (hi : I13 G.s Ms n) (hn : n ≤ 900) (ha : a.Ok) (hp : a.p.length ≤ 60) :
    CallsA Try.prog 49 [.ptr σ.objs.length 0, .ptr (σ.objs.length + 1) 0, .agg (alC a)] τ (fun av σ' => ∃ x : D13, (LSt σ x.τ x.G x.Ms ∧ I13 x.G.s x.Ms (n + 2)) ∧ av = .v (.bool true) ∧ σ' = x.τ) := by
  obtain ⟨hτl, hτg⟩ := h.len
  refine callsA_mono (callsA_gcOI (A := .v (.bool true)) (ι := { x : D13 // LSt σ x.τ x.G x.Ms ∧ I13 x.G.s x.Ms (n + 2) }) (Pi := fun _ => True) (τ := fun x => x.1.τ) ?_ rfl (fun x => by have := x.2.1.len; omega) (fun x => by have := x.2.1.len.2; rw [this, hτg]) (fun x => (h.kp x.2.1 _).1) (fun x => (h.kp x.2.1 _).2)) (fun av σ' ⟨e1, x, _, e2⟩ => ⟨x.1, x.2, e1, e2⟩)
  have hw := lt_of_get h.m.o
  have how : σ.objs.length ≠ σ.objs.length + 1 := by omega
  obtain ⟨hd, hno, _⟩ := ha
  obtain ⟨kk, hkk⟩ : ∃ kk, kk = a.kd.toNat % 3 := ⟨_, rfl⟩
  have hM3 := hi.len
  have hk3 : kk < 3 := by omega
  have hk : kk < Ms.length := by omega
  have hsz := hi.sz kk hk
  have hpl := hi.pl kk hk
  obtain ⟨A, hA⟩ : ∃ A, A = alC a := ⟨_, rfl⟩
  have hAl : A.length = 5 := by rw [hA]; rfl
  have hAt : List.take 5 A = A := by rw [hA]; rfl
  have hA0 : ∀ h2 : 0 < A.length, A[0]'h2 = .v (.int .u8 (a.f.toNat : Nat)) := fun _ => by subst hA; rfl
  have hA1 : ∀ h2 : 1 < A.length, A[1]'h2 = .v (.int .u8 (a.kd.toNat : Nat)) := fun _ => by subst hA; rfl
  have hA2 : ∀ h2 : 2 < A.length, A[2]'h2 = .v (.int .u64 (a.d : Nat)) := fun _ => by subst hA; rfl
  have hA3 : ∀ h2 : 3 < A.length, A[3]'h2 = .v (.int .u64 (a.n : Nat)) := fun _ => by subst hA; rfl
  have hA4 : ∀ h2 : 4 < A.length, A[4]'h2 = .sl 1 (bytesA a.p) a.p.length .shut := fun _ => by subst hA; rfl
  have hr6 : ∀ xo yo, binA Try.prog .rem 5 xo yo (.v (.int .u8 (a.f.toNat : Nat))) (.v (.int .u8 6)) = some (.v (.int .u8 ((a.f.toNat % 6 : Nat) : Int))) := fun xo yo => rem_u8 a.f 6 (by decide) xo yo
  have hr3 : ∀ xo yo, binA Try.prog .rem 5 xo yo (.v (.int .u8 (a.kd.toNat : Nat))) (.v (.int .u8 3)) = some (.v (.int .u8 ((a.kd.toNat % 3 : Nat) : Int))) := fun xo yo => rem_u8 a.kd 3 (by decide) xo yo
  have hbb : ∀ xo yo (b : Bool), binA Try.prog .eql 4 xo yo (.v (.bool b)) (.v (.bool b)) = some (.v (.bool true)) := fun xo yo b => by cases b <;> rfl
  obtain ⟨r, hr⟩ : ∃ r, r = a.f.toNat % 6 := ⟨_, rfl⟩
  simp only [← hr] at hr6
  simp only [← hkk] at hr3
  have hkn : (UInt8.ofNat kk).toNat = kk := toNat_ofNat (by omega)
  obtain ⟨τA, hτA⟩ : ∃ τA : St, τA = { τ with objs := τ.objs ++ [A] } := ⟨_, rfl⟩
  have hS : HasS τA σ.objs.length σ.rows.length G := by rw [hτA]; exact h.s.app [A] τ.toks
  have hM : HasM τA (σ.objs.length + 1) Ms := by rw [hτA]; exact h.m.app [A]
  have hMp := fun G' => hM.putS how h.q G'
  have hpa : ∀ G', putS τA σ.objs.length σ.rows.length G' = { putS τ σ.objs.length σ.rows.length G' with objs := (putS τ σ.objs.length σ.rows.length G').objs ++ [A] } := fun G' => by rw [hτA]; exact putS_app h.s G' [A]
  have hrl : ∀ G', (putS τA σ.objs.length σ.rows.length G').rows.length = τ.rows.length := fun G' => by rw [hτA]; simp [putS]
  have gA0 : τA.objs[σ.objs.length + 2]? = some A := by rw [hτA, ← hτl]; simp
  have gA : ∀ G', (putS τA σ.objs.length σ.rows.length G').objs[σ.objs.length + 2]? = some A := fun G' => by rw [hpa, ← hτl]; simp [putS]
  have hol : (putS τ σ.objs.length σ.rows.length G).objs.length = τ.objs.length := by simp [putS]
  have fin1 : ∀ G' Ms' x, newM (putS τA σ.objs.length σ.rows.length G') (σ.objs.length + 1) Ms' x = { newM (putS τ σ.objs.length σ.rows.length G') (σ.objs.length + 1) Ms' x with objs := (newM (putS τ σ.objs.length σ.rows.length G') (σ.objs.length + 1) Ms' x).objs ++ [A] } := fun G' Ms' x => by
    rw [hpa]; simp only [newM]; rw [List.set_append_left _ _ (by simpa [putS] using hw)]
  have fin2 : ∀ G' q x, rowM (putS τA σ.objs.length σ.rows.length G') q x = { rowM (putS τ σ.objs.length σ.rows.length G') q x with objs := (rowM (putS τ σ.objs.length σ.rows.length G') q x).objs ++ [A] } := fun G' q x => by rw [hpa]; rfl
  -- the store's deeds
  have d1 := ladd_ok (kind := UInt8.ofNat kk) (d := a.d) (p := a.p) (tp := .shut) hS hi.ok (by omega) hd (by omega) (by omega : Ms[kk].c + 1 < 2 ^ 64) (hi.ln kk hk).ct
  have d2 := lset_ok (kind := UInt8.ofNat kk) (d := a.d) (no := a.n) (p := a.p) hS hi.ok (by omega) hd hno (by omega)
  have d3 := lremove_ok (kind := UInt8.ofNat kk) (d := a.d) (no := a.n) hS hi.ok (by omega) hd hno
  rw [hkn] at d1 d2 d3
  simp only [byC] at d2
  have hgt := hi.get hk hd hno
  -- the document's
  have m1 : ∀ G', G'.s = addL G.s (UInt8.ofNat kk) a.d a.p Ms[kk].c → CallsA Try.prog 89 [.ptr (σ.objs.length + 1) (kk * 2), .v (.int .u64 a.d), .sl 1 (bytesA a.p) a.p.length .shut] (putS τA σ.objs.length σ.rows.length G') (fun av σ' => ∃ x : { x : D13 // LSt σ x.τ x.G x.Ms ∧ I13 x.G.s x.Ms (n + 2) }, av = .v (.int .u64 (Ms[kk].c + 1 : Nat)) ∧ σ' = { x.1.τ with objs := x.1.τ.objs ++ [A] }) := fun G' e =>
    callsA_mono (add13_ok (hMp G') hk (by omega) (by omega)) (fun av σ' ⟨g, e1, e2⟩ => by
      refine ⟨⟨⟨newM (putS τ σ.objs.length σ.rows.length G') (σ.objs.length + 1) (Ms.set kk ⟨insD Ms[kk].I a.d (Ms[kk].c + 1) a.p, Ms[kk].c + 1, τ.rows.length, g⟩) ⟨g, itsC (insD Ms[kk].I a.d (Ms[kk].c + 1) a.p), none⟩, G', _⟩, (h.puts G').new hk (X := ⟨insD Ms[kk].I a.d (Ms[kk].c + 1) a.p, Ms[kk].c + 1, τ.rows.length, g⟩) (by simp [putS]), by rw [e]; exact hi.add hk (by omega) hd (by omega)⟩, e1, ?_⟩
      rw [e2, ← fin1, hrl]; rfl)
  have m2 : ∀ G', G'.s = (if (getL G.s.l (keyW (UInt8.ofNat kk) a.d a.n)).isSome then doS G.s (keyW (UInt8.ofNat kk) a.d a.n) (some a.p) else G.s) → CallsA Try.prog 90 [.ptr (σ.objs.length + 1) (kk * 2), .v (.int .u64 a.d), .v (.int .u64 a.n), .sl 1 (bytesA a.p) a.p.length .shut] (putS τA σ.objs.length σ.rows.length G') (fun av σ' => ∃ x : { x : D13 // LSt σ x.τ x.G x.Ms ∧ I13 x.G.s x.Ms (n + 2) }, av = .v (.bool (getL G.s.l (keyW (UInt8.ofNat kk) a.d a.n)).isSome) ∧ σ' = { x.1.τ with objs := x.1.τ.objs ++ [A] }) := fun G' e =>
    callsA_mono (set13_ok (hMp G') hk (by omega)) (fun av σ' hh => by
      rw [hgt] at e ⊢
      rcases hh with ⟨h1, h2, h3⟩ | ⟨i, hil, ⟨h1, h2⟩, h3, h4⟩
      · rw [any_no h1] at e ⊢
        exact ⟨⟨⟨putS τ σ.objs.length σ.rows.length G', G', Ms⟩, h.puts G', by rw [e]; exact hi.mono (by omega)⟩, h2, by rw [← h3]; exact hpa G'⟩
      · rw [any_yes hil h1 h2] at e ⊢
        refine ⟨⟨⟨rowM (putS τ σ.objs.length σ.rows.length G') Ms[kk].q ⟨Ms[kk].g, itsC (Ms[kk].I.set i ⟨a.d, a.n, a.p⟩), none⟩, G', _⟩, (h.puts G').row hk (X := ⟨Ms[kk].I.set i ⟨a.d, a.n, a.p⟩, Ms[kk].c, Ms[kk].q, Ms[kk].g⟩) (by simp) rfl rfl rfl, by rw [e]; exact hi.set hk hd hno (by omega) hil h1 h2⟩, h3, ?_⟩
        rw [h4, ← fin2]; rfl)
  have m3 : ∀ G', G'.s = doS G.s (keyW (UInt8.ofNat kk) a.d a.n) none → CallsA Try.prog 91 [.ptr (σ.objs.length + 1) (kk * 2), .v (.int .u64 a.d), .v (.int .u64 a.n)] (putS τA σ.objs.length σ.rows.length G') (fun av σ' => ∃ x : { x : D13 // LSt σ x.τ x.G x.Ms ∧ I13 x.G.s x.Ms (n + 2) }, av = .v (.bool (getL G.s.l (keyW (UInt8.ofNat kk) a.d a.n)).isSome) ∧ σ' = { x.1.τ with objs := x.1.τ.objs ++ [A] }) := fun G' e =>
    callsA_mono (rem13_ok (hMp G') hk (by omega)) (fun av σ' hh => by
      rw [hgt]
      rcases hh with ⟨h1, h2, h3⟩ | ⟨i, g, hil, ⟨h1, h2⟩, h3, h4⟩
      · rw [any_no h1]
        exact ⟨⟨⟨putS τ σ.objs.length σ.rows.length G', G', Ms⟩, h.puts G', by rw [e]; exact hi.remN hk hd hno h1⟩, h2, by rw [← h3]; exact hpa G'⟩
      · rw [any_yes hil h1 h2]
        refine ⟨⟨⟨newM (putS τ σ.objs.length σ.rows.length G') (σ.objs.length + 1) (Ms.set kk ⟨Ms[kk].I.eraseIdx i, Ms[kk].c, τ.rows.length, g⟩) ⟨g, itsC (Ms[kk].I.eraseIdx i), none⟩, G', _⟩, (h.puts G').new hk (X := ⟨Ms[kk].I.eraseIdx i, Ms[kk].c, τ.rows.length, g⟩) (by simp [putS]), by rw [e]; exact hi.rem hk hd hno hil h1 h2⟩, h3, ?_⟩
        rw [h4, ← fin1, hrl]; rfl)
  have hjn := fun τ => join0_ok (σ := τ) (p := a.p) (t := .shut) (by omega)
  obtain ⟨gs, hgs⟩ : ∃ gs, gs = (getL G.s.l (keyW (UInt8.ofNat kk) a.d a.n)).isSome := ⟨_, rfl⟩
  simp only [← hgs] at d2 d3 m2 m3
  obtain ⟨S2, hS2⟩ : ∃ S2, S2 = (if gs = true then doS G.s (keyW (UInt8.ofNat kk) a.d a.n) (some a.p) else G.s) := ⟨_, rfl⟩
  simp only [← hS2] at d2 m2
  rw [← hA]
  have hbox : { τ with objs := τ.objs ++ [A] } = τA := hτA.symm
  have b3 : kk < 3 := hk3
  have gX : ∀ x : { x : D13 // LSt σ x.τ x.G x.Ms ∧ I13 x.G.s x.Ms (n + 2) }, (x.1.τ.objs ++ [A])[σ.objs.length + 2]? = some A := fun x => by rw [← x.2.1.len.1]; simp
  have F := And.intro hAl (And.intro hAt (And.intro hA0 (And.intro hA1 (And.intro hA2 (And.intro hA3 (And.intro hA4 (And.intro hr6 (And.intro hr3 (And.intro hbb (And.intro gA0 (And.intro gA (And.intro gX (And.intro hτl (And.intro b3 (True.intro)))))))))))))))
  refine callsA_body Try.func49 rfl rfl rfl ?_; refine sr fun _ hJ2 => ?_; refine hJ2 _ _ ?_; refine sq fun K3 hK3 => ?_
  rw [hbox]
  refine run_draw (by kernel_rfl) fun J4 hJ4 => ?_
  refine rp2 0 (k := ?_); refine rp2 1 (k := ?_); refine rp2 2 (k := ?_); refine rp2 3 (k := ?_); refine rp2 4 (k := ?_); refine rp2 5 (k := ?_); refine rp2 6 (k := ?_); refine dd ?_; refine hJ4 _ _ ?_; refine hK3 _ _ ?_; refine sr fun _ hJ6 => ?_; refine hJ6 _ _ ?_; refine sq fun K7 hK7 => ?_; refine sr fun _ hJ9 => ?_; refine hJ9 _ _ ?_; refine run_block_k ?_; refine sq fun K10 hK10 => ?_; refine sr fun _ hJ12 => ?_; refine hJ12 _ _ ?_; refine cs (fun c21 => ?_) (fun c21 => ?_)
  · (try exact nope c21); all_goals have c21p := c21; try simp [F] at c21p
    all_goals
     replace F := aF c21 F; (try replace F := aF c21p F); refine run_skip ?_; refine hK10 _ _ ?_; refine cs (fun c21 => ?_) (fun c21 => ?_)
     · (try exact nope c21); all_goals have c21p := c21; try simp [F] at c21p
       all_goals
        replace F := aF c21 F; (try replace F := aF c21p F); refine sq fun K13 hK13 => ?_
        refine run_draw (by kernel_rfl) fun J14 hJ14 => ?_
        refine rp2 0 (k := ?_); refine rp2 1 (k := ?_); refine rp2 2 (k := ?_); refine rp2 3 (k := ?_); refine rp2 4 (k := ?_); refine rp2 5 (k := ?_); refine rp2 7 (k := ?_); refine rp2 8 (k := ?_); refine rp2 9 (k := ?_); refine rp2 10 (k := ?_); refine rp2 11 (k := ?_); refine dc 6 rfl (c := d1) (k := ?_); rintro _ _ ⟨G1, e1, rfl, rfl⟩
        refine ⟨by first | exact fun _ _ h => h | (refine later_list [11, 10, 9, 8, 7, 4, 2] (by kernel_rfl) (List.forall_mem_cons.2 ⟨fun _ => fact2 rfl rfl ?_, List.forall_mem_cons.2 ⟨fun _ => fact2 rfl rfl ?_, List.forall_mem_cons.2 ⟨fun _ => fact2 rfl rfl ?_, List.forall_mem_cons.2 ⟨fun _ => fact2 rfl rfl ?_, List.forall_mem_cons.2 ⟨fun _ => fact2 rfl rfl ?_, List.forall_mem_cons.2 ⟨fun _ => fact2 rfl rfl ?_, List.forall_mem_cons.2 ⟨fun _ => fact2 rfl rfl ?_, fun _ h => absurd h List.not_mem_nil⟩⟩⟩⟩⟩⟩⟩) <;> constructor <;> first | rfl | (simp [F]; done)), ?_⟩
        (repeat (first | simp [F] | simp (disch := omega) only [wC, if_pos, if_neg])); refine dc 12 rfl (c := hjn _) (k := ?_); rintro _ _ ⟨rfl, rfl⟩
        refine ⟨by first | exact fun _ _ h => h | (refine later_list [10, 9, 8, 7, 4, 2] (by kernel_rfl) (List.forall_mem_cons.2 ⟨fun _ => fact2 rfl rfl ?_, List.forall_mem_cons.2 ⟨fun _ => fact2 rfl rfl ?_, List.forall_mem_cons.2 ⟨fun _ => fact2 rfl rfl ?_, List.forall_mem_cons.2 ⟨fun _ => fact2 rfl rfl ?_, List.forall_mem_cons.2 ⟨fun _ => fact2 rfl rfl ?_, List.forall_mem_cons.2 ⟨fun _ => fact2 rfl rfl ?_, fun _ h => absurd h List.not_mem_nil⟩⟩⟩⟩⟩⟩) <;> constructor <;> first | rfl | (simp [F]; done)), ?_⟩
        (repeat (first | simp [F] | simp (disch := omega) only [wC, if_pos, if_neg])); refine dc 13 rfl (c := m1 G1 e1) (k := ?_); rintro _ _ ⟨x, rfl, rfl⟩
        refine ⟨by first | exact fun _ _ h => h | (refine later_list [10, 8, 4, 2] (by kernel_rfl) (List.forall_mem_cons.2 ⟨fun _ => fact2 rfl rfl ?_, List.forall_mem_cons.2 ⟨fun _ => fact2 rfl rfl ?_, List.forall_mem_cons.2 ⟨fun _ => fact2 rfl rfl ?_, List.forall_mem_cons.2 ⟨fun _ => fact2 rfl rfl ?_, fun _ h => absurd h List.not_mem_nil⟩⟩⟩⟩) <;> constructor <;> first | rfl | (simp [F]; done)), ?_⟩
        (repeat (first | simp [F] | simp (disch := omega) only [wC, if_pos, if_neg])); refine rp2 14 (k := ?_); refine rp2 15 (k := ?_); refine dd ?_; refine hJ14 _ _ ?_; refine hK13 _ _ ?_; refine ra ?_
        refine ⟨x, trivial, by simp [F], [A], rfl⟩
     (try exact nope c21); all_goals have c21p := c21; try simp [F] at c21p
     all_goals
      replace F := aF c21 F; (try replace F := aF c21p F); refine sr fun _ hJ16 => ?_; refine hJ16 _ _ ?_; refine cs (fun c40 => ?_) (fun c40 => ?_)
      · (try exact nope c40); all_goals have c40p := c40; try simp [F] at c40p
        all_goals
         replace F := aF c40 F; (try replace F := aF c40p F); refine sq fun K17 hK17 => ?_
         refine run_draw (by kernel_rfl) fun J18 hJ18 => ?_
         refine rp2 0 (k := ?_); refine rp2 1 (k := ?_); refine rp2 2 (k := ?_); refine rp2 3 (k := ?_); refine rp2 4 (k := ?_); refine rp2 5 (k := ?_); refine rp2 6 (k := ?_); refine rp2 7 (k := ?_); refine rp2 8 (k := ?_); refine rp2 10 (k := ?_); refine rp2 11 (k := ?_); refine rp2 12 (k := ?_); refine rp2 13 (k := ?_); refine rp2 14 (k := ?_); refine rp2 15 (k := ?_); refine rp2 16 (k := ?_); refine dc 9 rfl (c := d2) (k := ?_); rintro _ _ ⟨G1, e1, rfl, rfl⟩
         refine ⟨by first | exact fun _ _ h => h | (refine later_list [16, 15, 14, 13, 12, 11, 10, 7, 6, 5, 4, 3, 2] (by kernel_rfl) (List.forall_mem_cons.2 ⟨fun _ => fact2 rfl rfl ?_, List.forall_mem_cons.2 ⟨fun _ => fact2 rfl rfl ?_, List.forall_mem_cons.2 ⟨fun _ => fact2 rfl rfl ?_, List.forall_mem_cons.2 ⟨fun _ => fact2 rfl rfl ?_, List.forall_mem_cons.2 ⟨fun _ => fact2 rfl rfl ?_, List.forall_mem_cons.2 ⟨fun _ => fact2 rfl rfl ?_, List.forall_mem_cons.2 ⟨fun _ => fact2 rfl rfl ?_, List.forall_mem_cons.2 ⟨fun _ => fact2 rfl rfl ?_, List.forall_mem_cons.2 ⟨fun _ => fact2 rfl rfl ?_, List.forall_mem_cons.2 ⟨fun _ => fact2 rfl rfl ?_, List.forall_mem_cons.2 ⟨fun _ => fact2 rfl rfl ?_, List.forall_mem_cons.2 ⟨fun _ => fact2 rfl rfl ?_, List.forall_mem_cons.2 ⟨fun _ => fact2 rfl rfl ?_, fun _ h => absurd h List.not_mem_nil⟩⟩⟩⟩⟩⟩⟩⟩⟩⟩⟩⟩⟩) <;> constructor <;> first | rfl | (simp [F]; done)), ?_⟩
         (repeat (first | simp [F] | simp (disch := omega) only [wC, if_pos, if_neg])); refine dc 17 rfl (c := hjn _) (k := ?_); rintro _ _ ⟨rfl, rfl⟩
         refine ⟨by first | exact fun _ _ h => h | (refine later_list [15, 14, 13, 12, 11, 10, 7, 6, 5, 4, 3, 2] (by kernel_rfl) (List.forall_mem_cons.2 ⟨fun _ => fact2 rfl rfl ?_, List.forall_mem_cons.2 ⟨fun _ => fact2 rfl rfl ?_, List.forall_mem_cons.2 ⟨fun _ => fact2 rfl rfl ?_, List.forall_mem_cons.2 ⟨fun _ => fact2 rfl rfl ?_, List.forall_mem_cons.2 ⟨fun _ => fact2 rfl rfl ?_, List.forall_mem_cons.2 ⟨fun _ => fact2 rfl rfl ?_, List.forall_mem_cons.2 ⟨fun _ => fact2 rfl rfl ?_, List.forall_mem_cons.2 ⟨fun _ => fact2 rfl rfl ?_, List.forall_mem_cons.2 ⟨fun _ => fact2 rfl rfl ?_, List.forall_mem_cons.2 ⟨fun _ => fact2 rfl rfl ?_, List.forall_mem_cons.2 ⟨fun _ => fact2 rfl rfl ?_, List.forall_mem_cons.2 ⟨fun _ => fact2 rfl rfl ?_, fun _ h => absurd h List.not_mem_nil⟩⟩⟩⟩⟩⟩⟩⟩⟩⟩⟩⟩) <;> constructor <;> first | rfl | (simp [F]; done)), ?_⟩
         (repeat (first | simp [F] | simp (disch := omega) only [wC, if_pos, if_neg])); refine dc 18 rfl (c := m2 G1 e1) (k := ?_); rintro _ _ ⟨x, rfl, rfl⟩
         refine ⟨by first | exact fun _ _ h => h | (refine later_list [15, 13, 11, 7, 6, 5, 4, 3, 2] (by kernel_rfl) (List.forall_mem_cons.2 ⟨fun _ => fact2 rfl rfl ?_, List.forall_mem_cons.2 ⟨fun _ => fact2 rfl rfl ?_, List.forall_mem_cons.2 ⟨fun _ => fact2 rfl rfl ?_, List.forall_mem_cons.2 ⟨fun _ => fact2 rfl rfl ?_, List.forall_mem_cons.2 ⟨fun _ => fact2 rfl rfl ?_, List.forall_mem_cons.2 ⟨fun _ => fact2 rfl rfl ?_, List.forall_mem_cons.2 ⟨fun _ => fact2 rfl rfl ?_, List.forall_mem_cons.2 ⟨fun _ => fact2 rfl rfl ?_, List.forall_mem_cons.2 ⟨fun _ => fact2 rfl rfl ?_, fun _ h => absurd h List.not_mem_nil⟩⟩⟩⟩⟩⟩⟩⟩⟩) <;> constructor <;> first | rfl | (simp [F]; done)), ?_⟩
         (repeat (first | simp [F] | simp (disch := omega) only [wC, if_pos, if_neg])); refine rp2 19 (k := ?_); refine rp2 20 (k := ?_); refine dd ?_; refine hJ18 _ _ ?_; refine hK17 _ _ ?_; refine ra ?_
         refine ⟨x, trivial, by simp [F], [A], rfl⟩
      (try exact nope c40); all_goals have c40p := c40; try simp [F] at c40p
      all_goals
       replace F := aF c40 F; (try replace F := aF c40p F); refine run_skip ?_; refine hK7 _ _ ?_; refine sq fun K19 hK19 => ?_
       refine run_draw (by kernel_rfl) fun J20 hJ20 => ?_
       refine rp2 0 (k := ?_); refine rp2 1 (k := ?_); refine rp2 2 (k := ?_); refine rp2 3 (k := ?_); refine rp2 4 (k := ?_); refine rp2 5 (k := ?_); refine rp2 7 (k := ?_); refine rp2 8 (k := ?_); refine rp2 9 (k := ?_); refine rp2 10 (k := ?_); refine rp2 11 (k := ?_); refine dc 6 rfl (c := d3) (k := ?_); rintro _ _ ⟨G1, e1, rfl, rfl⟩
       refine ⟨by first | exact fun _ _ h => h | (refine later_list [11, 10, 9, 8, 7, 4, 2] (by kernel_rfl) (List.forall_mem_cons.2 ⟨fun _ => fact2 rfl rfl ?_, List.forall_mem_cons.2 ⟨fun _ => fact2 rfl rfl ?_, List.forall_mem_cons.2 ⟨fun _ => fact2 rfl rfl ?_, List.forall_mem_cons.2 ⟨fun _ => fact2 rfl rfl ?_, List.forall_mem_cons.2 ⟨fun _ => fact2 rfl rfl ?_, List.forall_mem_cons.2 ⟨fun _ => fact2 rfl rfl ?_, List.forall_mem_cons.2 ⟨fun _ => fact2 rfl rfl ?_, fun _ h => absurd h List.not_mem_nil⟩⟩⟩⟩⟩⟩⟩) <;> constructor <;> first | rfl | (simp [F]; done)), ?_⟩
       (repeat (first | simp [F] | simp (disch := omega) only [wC, if_pos, if_neg])); refine dc 12 rfl (c := m3 G1 e1) (k := ?_); rintro _ _ ⟨x, rfl, rfl⟩
       refine ⟨by first | exact fun _ _ h => h | (refine later_list [10, 8, 4, 2] (by kernel_rfl) (List.forall_mem_cons.2 ⟨fun _ => fact2 rfl rfl ?_, List.forall_mem_cons.2 ⟨fun _ => fact2 rfl rfl ?_, List.forall_mem_cons.2 ⟨fun _ => fact2 rfl rfl ?_, List.forall_mem_cons.2 ⟨fun _ => fact2 rfl rfl ?_, fun _ h => absurd h List.not_mem_nil⟩⟩⟩⟩) <;> constructor <;> first | rfl | (simp [F]; done)), ?_⟩
       (repeat (first | simp [F] | simp (disch := omega) only [wC, if_pos, if_neg])); refine rp2 13 (k := ?_); refine rp2 14 (k := ?_); refine dd ?_; refine hJ20 _ _ ?_; refine hK19 _ _ ?_; refine ra ?_
       refine ⟨x, trivial, by simp [F], [A], rfl⟩
  (try exact nope c21); all_goals have c21p := c21; try simp [F] at c21p
  all_goals
   replace F := aF c21 F; (try replace F := aF c21p F); refine sr fun _ hJ22 => ?_; refine hJ22 _ _ ?_; refine cs (fun c21 => ?_) (fun c21 => ?_)
   · (try exact nope c21); all_goals have c21p := c21; try simp [F] at c21p
     all_goals
      replace F := aF c21 F; (try replace F := aF c21p F); refine run_skip ?_; refine hK10 _ _ ?_; refine cs (fun c21 => ?_) (fun c21 => ?_)
      · (try exact nope c21); all_goals have c21p := c21; try simp [F] at c21p
        all_goals
         replace F := aF c21 F; (try replace F := aF c21p F); refine sq fun K23 hK23 => ?_
         refine run_draw (by kernel_rfl) fun J24 hJ24 => ?_
         refine rp2 0 (k := ?_); refine rp2 1 (k := ?_); refine rp2 2 (k := ?_); refine rp2 3 (k := ?_); refine rp2 4 (k := ?_); refine rp2 5 (k := ?_); refine rp2 7 (k := ?_); refine rp2 8 (k := ?_); refine rp2 9 (k := ?_); refine rp2 10 (k := ?_); refine rp2 11 (k := ?_); refine dc 6 rfl (c := d1) (k := ?_); rintro _ _ ⟨G1, e1, rfl, rfl⟩
         refine ⟨by first | exact fun _ _ h => h | (refine later_list [11, 10, 9, 8, 7, 4, 2] (by kernel_rfl) (List.forall_mem_cons.2 ⟨fun _ => fact2 rfl rfl ?_, List.forall_mem_cons.2 ⟨fun _ => fact2 rfl rfl ?_, List.forall_mem_cons.2 ⟨fun _ => fact2 rfl rfl ?_, List.forall_mem_cons.2 ⟨fun _ => fact2 rfl rfl ?_, List.forall_mem_cons.2 ⟨fun _ => fact2 rfl rfl ?_, List.forall_mem_cons.2 ⟨fun _ => fact2 rfl rfl ?_, List.forall_mem_cons.2 ⟨fun _ => fact2 rfl rfl ?_, fun _ h => absurd h List.not_mem_nil⟩⟩⟩⟩⟩⟩⟩) <;> constructor <;> first | rfl | (simp [F]; done)), ?_⟩
         (repeat (first | simp [F] | simp (disch := omega) only [wC, if_pos, if_neg])); refine dc 12 rfl (c := hjn _) (k := ?_); rintro _ _ ⟨rfl, rfl⟩
         refine ⟨by first | exact fun _ _ h => h | (refine later_list [10, 9, 8, 7, 4, 2] (by kernel_rfl) (List.forall_mem_cons.2 ⟨fun _ => fact2 rfl rfl ?_, List.forall_mem_cons.2 ⟨fun _ => fact2 rfl rfl ?_, List.forall_mem_cons.2 ⟨fun _ => fact2 rfl rfl ?_, List.forall_mem_cons.2 ⟨fun _ => fact2 rfl rfl ?_, List.forall_mem_cons.2 ⟨fun _ => fact2 rfl rfl ?_, List.forall_mem_cons.2 ⟨fun _ => fact2 rfl rfl ?_, fun _ h => absurd h List.not_mem_nil⟩⟩⟩⟩⟩⟩) <;> constructor <;> first | rfl | (simp [F]; done)), ?_⟩
         (repeat (first | simp [F] | simp (disch := omega) only [wC, if_pos, if_neg])); refine dc 13 rfl (c := m1 G1 e1) (k := ?_); rintro _ _ ⟨x, rfl, rfl⟩
         refine ⟨by first | exact fun _ _ h => h | (refine later_list [10, 8, 4, 2] (by kernel_rfl) (List.forall_mem_cons.2 ⟨fun _ => fact2 rfl rfl ?_, List.forall_mem_cons.2 ⟨fun _ => fact2 rfl rfl ?_, List.forall_mem_cons.2 ⟨fun _ => fact2 rfl rfl ?_, List.forall_mem_cons.2 ⟨fun _ => fact2 rfl rfl ?_, fun _ h => absurd h List.not_mem_nil⟩⟩⟩⟩) <;> constructor <;> first | rfl | (simp [F]; done)), ?_⟩
         (repeat (first | simp [F] | simp (disch := omega) only [wC, if_pos, if_neg])); refine rp2 14 (k := ?_); refine rp2 15 (k := ?_); refine dd ?_; refine hJ24 _ _ ?_; refine hK23 _ _ ?_; refine ra ?_
         refine ⟨x, trivial, by simp [F], [A], rfl⟩
      (try exact nope c21); all_goals have c21p := c21; try simp [F] at c21p
      all_goals
       replace F := aF c21 F; (try replace F := aF c21p F); refine sr fun _ hJ26 => ?_; refine hJ26 _ _ ?_; refine cs (fun c40 => ?_) (fun c40 => ?_)
       · (try exact nope c40); all_goals have c40p := c40; try simp [F] at c40p
         all_goals
          replace F := aF c40 F; (try replace F := aF c40p F); refine sq fun K27 hK27 => ?_
          refine run_draw (by kernel_rfl) fun J28 hJ28 => ?_
          refine rp2 0 (k := ?_); refine rp2 1 (k := ?_); refine rp2 2 (k := ?_); refine rp2 3 (k := ?_); refine rp2 4 (k := ?_); refine rp2 5 (k := ?_); refine rp2 6 (k := ?_); refine rp2 7 (k := ?_); refine rp2 8 (k := ?_); refine rp2 10 (k := ?_); refine rp2 11 (k := ?_); refine rp2 12 (k := ?_); refine rp2 13 (k := ?_); refine rp2 14 (k := ?_); refine rp2 15 (k := ?_); refine rp2 16 (k := ?_); refine dc 9 rfl (c := d2) (k := ?_); rintro _ _ ⟨G1, e1, rfl, rfl⟩
          refine ⟨by first | exact fun _ _ h => h | (refine later_list [16, 15, 14, 13, 12, 11, 10, 7, 6, 5, 4, 3, 2] (by kernel_rfl) (List.forall_mem_cons.2 ⟨fun _ => fact2 rfl rfl ?_, List.forall_mem_cons.2 ⟨fun _ => fact2 rfl rfl ?_, List.forall_mem_cons.2 ⟨fun _ => fact2 rfl rfl ?_, List.forall_mem_cons.2 ⟨fun _ => fact2 rfl rfl ?_, List.forall_mem_cons.2 ⟨fun _ => fact2 rfl rfl ?_, List.forall_mem_cons.2 ⟨fun _ => fact2 rfl rfl ?_, List.forall_mem_cons.2 ⟨fun _ => fact2 rfl rfl ?_, List.forall_mem_cons.2 ⟨fun _ => fact2 rfl rfl ?_, List.forall_mem_cons.2 ⟨fun _ => fact2 rfl rfl ?_, List.forall_mem_cons.2 ⟨fun _ => fact2 rfl rfl ?_, List.forall_mem_cons.2 ⟨fun _ => fact2 rfl rfl ?_, List.forall_mem_cons.2 ⟨fun _ => fact2 rfl rfl ?_, List.forall_mem_cons.2 ⟨fun _ => fact2 rfl rfl ?_, fun _ h => absurd h List.not_mem_nil⟩⟩⟩⟩⟩⟩⟩⟩⟩⟩⟩⟩⟩) <;> constructor <;> first | rfl | (simp [F]; done)), ?_⟩
          (repeat (first | simp [F] | simp (disch := omega) only [wC, if_pos, if_neg])); refine dc 17 rfl (c := hjn _) (k := ?_); rintro _ _ ⟨rfl, rfl⟩
          refine ⟨by first | exact fun _ _ h => h | (refine later_list [15, 14, 13, 12, 11, 10, 7, 6, 5, 4, 3, 2] (by kernel_rfl) (List.forall_mem_cons.2 ⟨fun _ => fact2 rfl rfl ?_, List.forall_mem_cons.2 ⟨fun _ => fact2 rfl rfl ?_, List.forall_mem_cons.2 ⟨fun _ => fact2 rfl rfl ?_, List.forall_mem_cons.2 ⟨fun _ => fact2 rfl rfl ?_, List.forall_mem_cons.2 ⟨fun _ => fact2 rfl rfl ?_, List.forall_mem_cons.2 ⟨fun _ => fact2 rfl rfl ?_, List.forall_mem_cons.2 ⟨fun _ => fact2 rfl rfl ?_, List.forall_mem_cons.2 ⟨fun _ => fact2 rfl rfl ?_, List.forall_mem_cons.2 ⟨fun _ => fact2 rfl rfl ?_, List.forall_mem_cons.2 ⟨fun _ => fact2 rfl rfl ?_, List.forall_mem_cons.2 ⟨fun _ => fact2 rfl rfl ?_, List.forall_mem_cons.2 ⟨fun _ => fact2 rfl rfl ?_, fun _ h => absurd h List.not_mem_nil⟩⟩⟩⟩⟩⟩⟩⟩⟩⟩⟩⟩) <;> constructor <;> first | rfl | (simp [F]; done)), ?_⟩
          (repeat (first | simp [F] | simp (disch := omega) only [wC, if_pos, if_neg])); refine dc 18 rfl (c := m2 G1 e1) (k := ?_); rintro _ _ ⟨x, rfl, rfl⟩
          refine ⟨by first | exact fun _ _ h => h | (refine later_list [15, 13, 11, 7, 6, 5, 4, 3, 2] (by kernel_rfl) (List.forall_mem_cons.2 ⟨fun _ => fact2 rfl rfl ?_, List.forall_mem_cons.2 ⟨fun _ => fact2 rfl rfl ?_, List.forall_mem_cons.2 ⟨fun _ => fact2 rfl rfl ?_, List.forall_mem_cons.2 ⟨fun _ => fact2 rfl rfl ?_, List.forall_mem_cons.2 ⟨fun _ => fact2 rfl rfl ?_, List.forall_mem_cons.2 ⟨fun _ => fact2 rfl rfl ?_, List.forall_mem_cons.2 ⟨fun _ => fact2 rfl rfl ?_, List.forall_mem_cons.2 ⟨fun _ => fact2 rfl rfl ?_, List.forall_mem_cons.2 ⟨fun _ => fact2 rfl rfl ?_, fun _ h => absurd h List.not_mem_nil⟩⟩⟩⟩⟩⟩⟩⟩⟩) <;> constructor <;> first | rfl | (simp [F]; done)), ?_⟩
          (repeat (first | simp [F] | simp (disch := omega) only [wC, if_pos, if_neg])); refine rp2 19 (k := ?_); refine rp2 20 (k := ?_); refine dd ?_; refine hJ28 _ _ ?_; refine hK27 _ _ ?_; refine ra ?_
          refine ⟨x, trivial, by simp [F], [A], rfl⟩
       (try exact nope c40); all_goals have c40p := c40; try simp [F] at c40p
       all_goals
        replace F := aF c40 F; (try replace F := aF c40p F); refine run_skip ?_; refine hK7 _ _ ?_; refine sq fun K29 hK29 => ?_
        refine run_draw (by kernel_rfl) fun J30 hJ30 => ?_
        refine rp2 0 (k := ?_); refine rp2 1 (k := ?_); refine rp2 2 (k := ?_); refine rp2 3 (k := ?_); refine rp2 4 (k := ?_); refine rp2 5 (k := ?_); refine rp2 7 (k := ?_); refine rp2 8 (k := ?_); refine rp2 9 (k := ?_); refine rp2 10 (k := ?_); refine rp2 11 (k := ?_); refine dc 6 rfl (c := d3) (k := ?_); rintro _ _ ⟨G1, e1, rfl, rfl⟩
        refine ⟨by first | exact fun _ _ h => h | (refine later_list [11, 10, 9, 8, 7, 4, 2] (by kernel_rfl) (List.forall_mem_cons.2 ⟨fun _ => fact2 rfl rfl ?_, List.forall_mem_cons.2 ⟨fun _ => fact2 rfl rfl ?_, List.forall_mem_cons.2 ⟨fun _ => fact2 rfl rfl ?_, List.forall_mem_cons.2 ⟨fun _ => fact2 rfl rfl ?_, List.forall_mem_cons.2 ⟨fun _ => fact2 rfl rfl ?_, List.forall_mem_cons.2 ⟨fun _ => fact2 rfl rfl ?_, List.forall_mem_cons.2 ⟨fun _ => fact2 rfl rfl ?_, fun _ h => absurd h List.not_mem_nil⟩⟩⟩⟩⟩⟩⟩) <;> constructor <;> first | rfl | (simp [F]; done)), ?_⟩
        (repeat (first | simp [F] | simp (disch := omega) only [wC, if_pos, if_neg])); refine dc 12 rfl (c := m3 G1 e1) (k := ?_); rintro _ _ ⟨x, rfl, rfl⟩
        refine ⟨by first | exact fun _ _ h => h | (refine later_list [10, 8, 4, 2] (by kernel_rfl) (List.forall_mem_cons.2 ⟨fun _ => fact2 rfl rfl ?_, List.forall_mem_cons.2 ⟨fun _ => fact2 rfl rfl ?_, List.forall_mem_cons.2 ⟨fun _ => fact2 rfl rfl ?_, List.forall_mem_cons.2 ⟨fun _ => fact2 rfl rfl ?_, fun _ h => absurd h List.not_mem_nil⟩⟩⟩⟩) <;> constructor <;> first | rfl | (simp [F]; done)), ?_⟩
        (repeat (first | simp [F] | simp (disch := omega) only [wC, if_pos, if_neg])); refine rp2 13 (k := ?_); refine rp2 14 (k := ?_); refine dd ?_; refine hJ30 _ _ ?_; refine hK29 _ _ ?_; refine ra ?_
        refine ⟨x, trivial, by simp [F], [A], rfl⟩
   (try exact nope c21); all_goals have c21p := c21; try simp [F] at c21p
   all_goals
    replace F := aF c21 F; (try replace F := aF c21p F); refine rg' (h := fun J31 hJ31 => ?_); refine hJ31 _ _ ?_; refine hK10 _ _ ?_; refine cs (fun c21 => ?_) (fun c21 => ?_)
    · (try exact nope c21); all_goals have c21p := c21; try simp [F] at c21p
      all_goals
       replace F := aF c21 F; (try replace F := aF c21p F); refine sq fun K32 hK32 => ?_
       refine run_draw (by kernel_rfl) fun J33 hJ33 => ?_
       refine rp2 0 (k := ?_); refine rp2 1 (k := ?_); refine rp2 2 (k := ?_); refine rp2 3 (k := ?_); refine rp2 4 (k := ?_); refine rp2 5 (k := ?_); refine rp2 7 (k := ?_); refine rp2 8 (k := ?_); refine rp2 9 (k := ?_); refine rp2 10 (k := ?_); refine rp2 11 (k := ?_); refine dc 6 rfl (c := d1) (k := ?_); rintro _ _ ⟨G1, e1, rfl, rfl⟩
       refine ⟨by first | exact fun _ _ h => h | (refine later_list [11, 10, 9, 8, 7, 4, 2] (by kernel_rfl) (List.forall_mem_cons.2 ⟨fun _ => fact2 rfl rfl ?_, List.forall_mem_cons.2 ⟨fun _ => fact2 rfl rfl ?_, List.forall_mem_cons.2 ⟨fun _ => fact2 rfl rfl ?_, List.forall_mem_cons.2 ⟨fun _ => fact2 rfl rfl ?_, List.forall_mem_cons.2 ⟨fun _ => fact2 rfl rfl ?_, List.forall_mem_cons.2 ⟨fun _ => fact2 rfl rfl ?_, List.forall_mem_cons.2 ⟨fun _ => fact2 rfl rfl ?_, fun _ h => absurd h List.not_mem_nil⟩⟩⟩⟩⟩⟩⟩) <;> constructor <;> first | rfl | (simp [F]; done)), ?_⟩
       (repeat (first | simp [F] | simp (disch := omega) only [wC, if_pos, if_neg])); refine dc 12 rfl (c := hjn _) (k := ?_); rintro _ _ ⟨rfl, rfl⟩
       refine ⟨by first | exact fun _ _ h => h | (refine later_list [10, 9, 8, 7, 4, 2] (by kernel_rfl) (List.forall_mem_cons.2 ⟨fun _ => fact2 rfl rfl ?_, List.forall_mem_cons.2 ⟨fun _ => fact2 rfl rfl ?_, List.forall_mem_cons.2 ⟨fun _ => fact2 rfl rfl ?_, List.forall_mem_cons.2 ⟨fun _ => fact2 rfl rfl ?_, List.forall_mem_cons.2 ⟨fun _ => fact2 rfl rfl ?_, List.forall_mem_cons.2 ⟨fun _ => fact2 rfl rfl ?_, fun _ h => absurd h List.not_mem_nil⟩⟩⟩⟩⟩⟩) <;> constructor <;> first | rfl | (simp [F]; done)), ?_⟩
       (repeat (first | simp [F] | simp (disch := omega) only [wC, if_pos, if_neg])); refine dc 13 rfl (c := m1 G1 e1) (k := ?_); rintro _ _ ⟨x, rfl, rfl⟩
       refine ⟨by first | exact fun _ _ h => h | (refine later_list [10, 8, 4, 2] (by kernel_rfl) (List.forall_mem_cons.2 ⟨fun _ => fact2 rfl rfl ?_, List.forall_mem_cons.2 ⟨fun _ => fact2 rfl rfl ?_, List.forall_mem_cons.2 ⟨fun _ => fact2 rfl rfl ?_, List.forall_mem_cons.2 ⟨fun _ => fact2 rfl rfl ?_, fun _ h => absurd h List.not_mem_nil⟩⟩⟩⟩) <;> constructor <;> first | rfl | (simp [F]; done)), ?_⟩
       (repeat (first | simp [F] | simp (disch := omega) only [wC, if_pos, if_neg])); refine rp2 14 (k := ?_); refine rp2 15 (k := ?_); refine dd ?_; refine hJ33 _ _ ?_; refine hK32 _ _ ?_; refine ra ?_
       refine ⟨x, trivial, by simp [F], [A], rfl⟩
    (try exact nope c21); all_goals have c21p := c21; try simp [F] at c21p
    all_goals
     replace F := aF c21 F; (try replace F := aF c21p F); refine sr fun _ hJ35 => ?_; refine hJ35 _ _ ?_; refine cs (fun c40 => ?_) (fun c40 => ?_)
     · (try exact nope c40); all_goals have c40p := c40; try simp [F] at c40p
       all_goals
        replace F := aF c40 F; (try replace F := aF c40p F); refine sq fun K36 hK36 => ?_
        refine run_draw (by kernel_rfl) fun J37 hJ37 => ?_
        refine rp2 0 (k := ?_); refine rp2 1 (k := ?_); refine rp2 2 (k := ?_); refine rp2 3 (k := ?_); refine rp2 4 (k := ?_); refine rp2 5 (k := ?_); refine rp2 6 (k := ?_); refine rp2 7 (k := ?_); refine rp2 8 (k := ?_); refine rp2 10 (k := ?_); refine rp2 11 (k := ?_); refine rp2 12 (k := ?_); refine rp2 13 (k := ?_); refine rp2 14 (k := ?_); refine rp2 15 (k := ?_); refine rp2 16 (k := ?_); refine dc 9 rfl (c := d2) (k := ?_); rintro _ _ ⟨G1, e1, rfl, rfl⟩
        refine ⟨by first | exact fun _ _ h => h | (refine later_list [16, 15, 14, 13, 12, 11, 10, 7, 6, 5, 4, 3, 2] (by kernel_rfl) (List.forall_mem_cons.2 ⟨fun _ => fact2 rfl rfl ?_, List.forall_mem_cons.2 ⟨fun _ => fact2 rfl rfl ?_, List.forall_mem_cons.2 ⟨fun _ => fact2 rfl rfl ?_, List.forall_mem_cons.2 ⟨fun _ => fact2 rfl rfl ?_, List.forall_mem_cons.2 ⟨fun _ => fact2 rfl rfl ?_, List.forall_mem_cons.2 ⟨fun _ => fact2 rfl rfl ?_, List.forall_mem_cons.2 ⟨fun _ => fact2 rfl rfl ?_, List.forall_mem_cons.2 ⟨fun _ => fact2 rfl rfl ?_, List.forall_mem_cons.2 ⟨fun _ => fact2 rfl rfl ?_, List.forall_mem_cons.2 ⟨fun _ => fact2 rfl rfl ?_, List.forall_mem_cons.2 ⟨fun _ => fact2 rfl rfl ?_, List.forall_mem_cons.2 ⟨fun _ => fact2 rfl rfl ?_, List.forall_mem_cons.2 ⟨fun _ => fact2 rfl rfl ?_, fun _ h => absurd h List.not_mem_nil⟩⟩⟩⟩⟩⟩⟩⟩⟩⟩⟩⟩⟩) <;> constructor <;> first | rfl | (simp [F]; done)), ?_⟩
        (repeat (first | simp [F] | simp (disch := omega) only [wC, if_pos, if_neg])); refine dc 17 rfl (c := hjn _) (k := ?_); rintro _ _ ⟨rfl, rfl⟩
        refine ⟨by first | exact fun _ _ h => h | (refine later_list [15, 14, 13, 12, 11, 10, 7, 6, 5, 4, 3, 2] (by kernel_rfl) (List.forall_mem_cons.2 ⟨fun _ => fact2 rfl rfl ?_, List.forall_mem_cons.2 ⟨fun _ => fact2 rfl rfl ?_, List.forall_mem_cons.2 ⟨fun _ => fact2 rfl rfl ?_, List.forall_mem_cons.2 ⟨fun _ => fact2 rfl rfl ?_, List.forall_mem_cons.2 ⟨fun _ => fact2 rfl rfl ?_, List.forall_mem_cons.2 ⟨fun _ => fact2 rfl rfl ?_, List.forall_mem_cons.2 ⟨fun _ => fact2 rfl rfl ?_, List.forall_mem_cons.2 ⟨fun _ => fact2 rfl rfl ?_, List.forall_mem_cons.2 ⟨fun _ => fact2 rfl rfl ?_, List.forall_mem_cons.2 ⟨fun _ => fact2 rfl rfl ?_, List.forall_mem_cons.2 ⟨fun _ => fact2 rfl rfl ?_, List.forall_mem_cons.2 ⟨fun _ => fact2 rfl rfl ?_, fun _ h => absurd h List.not_mem_nil⟩⟩⟩⟩⟩⟩⟩⟩⟩⟩⟩⟩) <;> constructor <;> first | rfl | (simp [F]; done)), ?_⟩
        (repeat (first | simp [F] | simp (disch := omega) only [wC, if_pos, if_neg])); refine dc 18 rfl (c := m2 G1 e1) (k := ?_); rintro _ _ ⟨x, rfl, rfl⟩
        refine ⟨by first | exact fun _ _ h => h | (refine later_list [15, 13, 11, 7, 6, 5, 4, 3, 2] (by kernel_rfl) (List.forall_mem_cons.2 ⟨fun _ => fact2 rfl rfl ?_, List.forall_mem_cons.2 ⟨fun _ => fact2 rfl rfl ?_, List.forall_mem_cons.2 ⟨fun _ => fact2 rfl rfl ?_, List.forall_mem_cons.2 ⟨fun _ => fact2 rfl rfl ?_, List.forall_mem_cons.2 ⟨fun _ => fact2 rfl rfl ?_, List.forall_mem_cons.2 ⟨fun _ => fact2 rfl rfl ?_, List.forall_mem_cons.2 ⟨fun _ => fact2 rfl rfl ?_, List.forall_mem_cons.2 ⟨fun _ => fact2 rfl rfl ?_, List.forall_mem_cons.2 ⟨fun _ => fact2 rfl rfl ?_, fun _ h => absurd h List.not_mem_nil⟩⟩⟩⟩⟩⟩⟩⟩⟩) <;> constructor <;> first | rfl | (simp [F]; done)), ?_⟩
        (repeat (first | simp [F] | simp (disch := omega) only [wC, if_pos, if_neg])); refine rp2 19 (k := ?_); refine rp2 20 (k := ?_); refine dd ?_; refine hJ37 _ _ ?_; refine hK36 _ _ ?_; refine ra ?_
        refine ⟨x, trivial, by simp [F], [A], rfl⟩
     (try exact nope c40); all_goals have c40p := c40; try simp [F] at c40p
     all_goals
      replace F := aF c40 F; (try replace F := aF c40p F); refine run_skip ?_; refine hK7 _ _ ?_; refine sq fun K38 hK38 => ?_
      refine run_draw (by kernel_rfl) fun J39 hJ39 => ?_
      refine rp2 0 (k := ?_); refine rp2 1 (k := ?_); refine rp2 2 (k := ?_); refine rp2 3 (k := ?_); refine rp2 4 (k := ?_); refine rp2 5 (k := ?_); refine rp2 7 (k := ?_); refine rp2 8 (k := ?_); refine rp2 9 (k := ?_); refine rp2 10 (k := ?_); refine rp2 11 (k := ?_); refine dc 6 rfl (c := d3) (k := ?_); rintro _ _ ⟨G1, e1, rfl, rfl⟩
      refine ⟨by first | exact fun _ _ h => h | (refine later_list [11, 10, 9, 8, 7, 4, 2] (by kernel_rfl) (List.forall_mem_cons.2 ⟨fun _ => fact2 rfl rfl ?_, List.forall_mem_cons.2 ⟨fun _ => fact2 rfl rfl ?_, List.forall_mem_cons.2 ⟨fun _ => fact2 rfl rfl ?_, List.forall_mem_cons.2 ⟨fun _ => fact2 rfl rfl ?_, List.forall_mem_cons.2 ⟨fun _ => fact2 rfl rfl ?_, List.forall_mem_cons.2 ⟨fun _ => fact2 rfl rfl ?_, List.forall_mem_cons.2 ⟨fun _ => fact2 rfl rfl ?_, fun _ h => absurd h List.not_mem_nil⟩⟩⟩⟩⟩⟩⟩) <;> constructor <;> first | rfl | (simp [F]; done)), ?_⟩
      (repeat (first | simp [F] | simp (disch := omega) only [wC, if_pos, if_neg])); refine dc 12 rfl (c := m3 G1 e1) (k := ?_); rintro _ _ ⟨x, rfl, rfl⟩
      refine ⟨by first | exact fun _ _ h => h | (refine later_list [10, 8, 4, 2] (by kernel_rfl) (List.forall_mem_cons.2 ⟨fun _ => fact2 rfl rfl ?_, List.forall_mem_cons.2 ⟨fun _ => fact2 rfl rfl ?_, List.forall_mem_cons.2 ⟨fun _ => fact2 rfl rfl ?_, List.forall_mem_cons.2 ⟨fun _ => fact2 rfl rfl ?_, fun _ h => absurd h List.not_mem_nil⟩⟩⟩⟩) <;> constructor <;> first | rfl | (simp [F]; done)), ?_⟩
      (repeat (first | simp [F] | simp (disch := omega) only [wC, if_pos, if_neg])); refine rp2 13 (k := ?_); refine rp2 14 (k := ?_); refine dd ?_; refine hJ39 _ _ ?_; refine hK38 _ _ ?_; refine ra ?_
      refine ⟨x, trivial, by simp [F], [A], rfl⟩
def Ms0 (q : Nat) : List Rl := [⟨[], 0, q + 3, 0⟩, ⟨[], 0, q + 4, 0⟩, ⟨[], 0, q + 5, 0⟩]
def M0 (σ : St) : St := { σ with objs := σ.objs ++ [stC σ.rows.length newSg, mC (Ms0 σ.rows.length)], rows := σ.rows ++ [stR1 newSg, stR2 newSg, stR3 newSg, ⟨0, [], none⟩, ⟨0, [], none⟩, ⟨0, [], none⟩] }
theorem M0.has (σ : St) : LSt σ (M0 σ) newSg (Ms0 σ.rows.length) := by
  refine ⟨⟨_, rfl, fun x hx nb => ?_⟩, ⟨by simp [M0], by simp [M0], by simp [M0], by simp [M0]⟩, ⟨by simp [M0], fun k hk => ?_⟩, fun j hj => ?_, fun i j hi hj hne => ?_⟩
  · simp only [List.mem_cons, List.not_mem_nil, or_false] at hx
    rcases hx with rfl | rfl | rfl | rfl | rfl | rfl
    · exact prsC_noObj nb _
    · exact udsC_noObj nb _
    · exact mkC_noObj nb _
    · rfl
    · rfl
    · rfl
  · match k, hk with
    | 0, _ => simp [Ms0, M0]; rfl
    | 1, _ => simp [Ms0, M0]; rfl
    | 2, _ => simp [Ms0, M0]; rfl
    | j + 3, hk => exact absurd hk (by simp [Ms0])
  · match j, hj with
    | 0, _ => simp [Ms0]
    | 1, _ => simp [Ms0]
    | 2, _ => simp [Ms0]
    | j + 3, hk => exact absurd hk (by simp [Ms0])
  · match i, j, hi, hj with
    | 0, 0, _, _ => exact absurd rfl hne
    | 0, 1, _, _ => simp [Ms0]
    | 0, 2, _, _ => simp [Ms0]
    | 1, 0, _, _ => simp [Ms0]
    | 1, 1, _, _ => exact absurd rfl hne
    | 1, 2, _, _ => simp [Ms0]
    | 2, 0, _, _ => simp [Ms0]
    | 2, 1, _, _ => simp [Ms0]
    | 2, 2, _, _ => exact absurd rfl hne
    | i + 3, _, hi, _ => exact absurd hi (by simp [Ms0])
    | 0, j + 3, _, hj => exact absurd hj (by simp [Ms0])
    | 1, j + 3, _, hj => exact absurd hj (by simp [Ms0])
    | 2, j + 3, _, hj => exact absurd hj (by simp [Ms0])
theorem M0.inv (q : Nat) : I13 newSg.s (Ms0 q) 0 := by
  refine ⟨newSg_ok, fun k hk => ?_, fun k hk => ?_, fun k hk => ?_, rfl⟩
  · match k, hk with
    | 0, _ => exact Ln.nil _
    | 1, _ => exact Ln.nil _
    | 2, _ => exact Ln.nil _
    | j + 3, hk => exact absurd hk (by simp [Ms0])
  · match k, hk with
    | 0, _ => exact ⟨Nat.le_refl _, Nat.le_refl _⟩
    | 1, _ => exact ⟨Nat.le_refl _, Nat.le_refl _⟩
    | 2, _ => exact ⟨Nat.le_refl _, Nat.le_refl _⟩
    | j + 3, hk => exact absurd hk (by simp [Ms0])
  · match k, hk with
    | 0, _ => intro x hx; simp [Ms0] at hx
    | 1, _ => intro x hx; simp [Ms0] at hx
    | 2, _ => intro x hx; simp [Ms0] at hx
    | j + 3, hk => exact absurd hk (by simp [Ms0])
section
variable {z : Zone} {P : Program} {N : Nat} {ρ : Nat → AV}
theorem run_newM {c : Code} {Q : Exit → (Nat → AV) → St → Prop} (σ : St) (k : Run z P N c ρ (M0 σ) Q) :
    Run z P N c ρ { σ with objs := σ.objs ++ [stC σ.rows.length newSg, [.sl 0 [] 0 .full, .v (.int .u64 0), .sl 0 [] 0 .full, .v (.int .u64 0), .sl 0 [] 0 .full, .v (.int .u64 0)]], rows := σ.rows ++ [stR1 newSg, stR2 newSg, stR3 newSg] } Q := by
  refine run_nilcell (σ.objs.length + 1) 0 3 (h := by simp; rfl) (hj := rfl) (k := ?_)
  refine run_nilcell (σ.objs.length + 1) 2 3 (h := set_self_of (by simp; rfl) _) (hj := rfl) (k := ?_)
  refine run_nilcell (σ.objs.length + 1) 4 3 (h := set_self_of (set_self_of (by simp; rfl) _) _) (hj := rfl) (k := ?_)
  have e : ∀ a b : St, a = b → Run z P N c ρ b Q → Run z P N c ρ a Q := fun a b h k => h ▸ k
  refine e _ _ ?_ k; simp [M0, Ms0, mC, rlC, List.set_append_right]
end
theorem take_wh {now : Nat} : ∀ {I : List It}, SrtI I → (I.takeWhile fun x => decide (x.d ≤ now)) = I.take (dueL I now)
  | [], _ => rfl
  | x :: I, h => by
    have l1 := List.pairwise_cons.1 h
    have ih := take_wh (now := now) l1.2
    rw [dueL, List.filter_cons, List.takeWhile_cons]
    by_cases e : x.d ≤ now
    · rw [if_pos (by simpa using e), if_pos (by simpa using e), ih]; rfl
    · have : (I.filter fun x => decide (x.d ≤ now)) = [] := by
        rw [List.filter_eq_nil_iff]; intro y hy; have := l1.1 y hy; simp; omega
      rw [if_neg (by simpa using e), if_neg (by simpa using e), this]; rfl
theorem due_le (I : List It) (now : Nat) : dueL I now ≤ I.length := List.length_filter_le _ _

structure LI where
  i : Nat
  x : D13
theorem near_few {l : List AL} (h : FewL l) : FewL (l.map nearA) := ⟨by rw [List.length_map]; exact h.1, fun a ha => by obtain ⟨b, hb, rfl⟩ := List.mem_map.1 ha; exact h.2 b hb⟩
theorem near_oks {l : List AL} (h : ∀ a ∈ l, a.Ok) : ∀ a ∈ l.map nearA, a.Ok := fun a ha => by
  obtain ⟨b, hb, rfl⟩ := List.mem_map.1 ha
  have := h b hb
  exact ⟨by show b.d % 5 < _; omega, by show b.n % 9 < _; omega, this.2.2⟩
theorem wrap_k {k : Nat} (h : k < 3) : IntKind.u8.wrap (k : Int) = (k : Int) := by rw [wrap_u8]; omega
set_option maxHeartbeats 1600000 in
attribute [local simp] undefA List.getElem?_cons_zero List.getElem?_cons_succ in
theorem lineRipes_ok {σ : St} {l : List AL} {now : Nat} {small : Bool} (hl : l.length ≤ 9223372036854775807) (hb : ∀ a ∈ l, a.Ok) :
    CallsA Try.prog 14 [.sl 5 (alsC l) l.length .shut, .v (.int .u64 now), .v (.bool small)] σ (fun av σ' => av = .v (.bool true) ∧ σ = σ') := by
  refine callsA_gcS ?_ rfl
  obtain ⟨L, hL⟩ : ∃ L, L = if small then l.map nearA else l := ⟨_, rfl⟩
  obtain ⟨N, hN⟩ : ∃ N, N = if small then now % 6 else now := ⟨_, rfl⟩
  have hLo : ∀ a ∈ L, a.Ok := by rw [hL]; split <;> first | exact near_oks hb | exact hb
  have hLf : FewL l → FewL L := fun h => by rw [hL]; split <;> first | exact near_few h | exact h
  have hlc := alsC_len L
  have r6 : ∀ xo yo, binA Try.prog .rem 54 xo yo (.v (.int .u64 (now : Nat))) (.v (.int .u64 6)) = some (.v (.int .u64 ((now % 6 : Nat) : Int))) := fun xo yo => rem_u64 now 6 (by decide) xo yo
  have F := And.intro hlc (And.intro r6 (True.intro))
  refine callsA_body Try.func14 rfl rfl rfl ?_; refine sr fun _ hJ2 => ?_; refine hJ2 _ _ ?_; refine sq fun K3 hK3 => ?_; refine sr fun _ hJ5 => ?_; refine ca (c := adds_ok) (k := ?_); rintro _ _ ⟨rfl, rfl⟩; (repeat (first | simp [F] | simp (disch := omega) only [wC, if_pos, if_neg])); refine go2 (k := ?_); refine ca (c := few13_ok hl hb) (k := ?_); rintro _ _ ⟨rfl, rfl⟩; (repeat (first | simp [F] | simp (disch := omega) only [wC, if_pos, if_neg])); refine go2 (k := ?_); refine hJ5 _ _ ?_; refine cs (fun c18 => ?_) (fun c18 => ?_)
  · (try exact nope c18); all_goals have c18p := c18; try simp [F] at c18p
    all_goals
     replace F := aF c18 F; (try replace F := aF c18p F); refine sr fun _ hJ7 => ?_; refine ca (c := adds_ok) (k := ?_); rintro _ _ ⟨rfl, rfl⟩; (repeat (first | simp [F] | simp (disch := omega) only [wC, if_pos, if_neg])); refine hJ7 _ _ ?_; refine ra ?_; exact gcr
  (try exact nope c18); all_goals have c18p := c18; try simp [F] at c18p
  all_goals
   replace F := aF c18 F; try replace F := aF c18p F
   have hfw : FewL l := by have h := c18; simpa using h
   have hfL := hLf hfw
   have h40 := hfL.1
   have hn13 := near13_ok (σ := σ) (l := l) (by have := hfw.1; omega)
   refine run_skip ?_; refine hK3 _ _ ?_; refine sqc (X := Unit) [6] (fun z ρ σ1 => (ρ 0 = .sl 5 (alsC L) L.length .shut) ∧ (ρ 1 = .v (.int .u64 (N : Nat))) ∧ (σ1 = σ)) ?cy8 ?cx8
   case cy8 =>
    rintro z ρCc20 σ1 hFCc20 ⟨h0, hn0, hσ⟩; obtain rfl := hσ.symm
    have fCc20 := keepL hFCc20
    (try simp [KeepL, F] at fCc20); replace F := aF h0 F; replace F := aF hn0 F; (try replace F := aF fCc20 F); refine sr fun _ hJ10 => ?_; refine ca (c := new_st_ok) (k := ?_); rintro _ _ ⟨rfl, rfl⟩; (repeat (first | simp [F] | simp (disch := omega) only [wC, if_pos, if_neg])); refine hJ10 _ _ ?_; refine sr fun _ hJ12 => ?_; refine hJ12 _ _ ?_; refine sq fun K13 hK13 => ?_; refine sq fun K14 hK14 => ?_; refine run_newM σ ?_; refine rg' (h := fun J15 hJ15 => ?_); refine hJ15 _ _ ?_; refine hK14 _ _ ?_; refine run_block_k ?_; refine run_loopF (X := LI) [0, 1, 6, 7, 8] (fun x ρ σ1 => (x.i ≤ L.length) ∧ (LSt σ x.x.τ x.x.G x.x.Ms) ∧ (I13 x.x.G.s x.x.Ms (2 * x.i)) ∧ (ρ 9 = .v (.int .i64 x.i)) ∧ (σ1 = x.x.τ)) (fun x => L.length - x.i) (⟨0, ⟨M0 σ, newSg, Ms0 σ.rows.length⟩⟩) ?st1 ?rd1
    case st1 =>
     refine ⟨lp, ?_, ?_, lp, lp⟩
     · exact M0.has σ
     · exact M0.inv _
    case rd1 =>
     rintro x ρ1 σ1 hF1 ⟨h1, h2, h3, h5, hσ⟩; obtain rfl := hσ.symm
     have f1 := keepL hF1
     (try simp [KeepL, F] at f1); replace F := aF h5 F; (try replace F := aF f1 F); refine sq fun K16 hK16 => ?_; refine sr fun _ hJ18 => ?_; refine hJ18 _ _ ?_; refine cs (fun c29 => ?_) (fun c29 => ?_)
     · (try exact nope c29); all_goals have c29p := c29; try simp [F] at c29p
       all_goals
        replace F := aF c29 F; try replace F := aF c29p F
        have hlt : x.i < L.length := by have h := c29; simp at h; omega
        obtain ⟨R, hR⟩ := alsC_at hlt
        obtain ⟨a, ha⟩ : ∃ a, a = L[x.i] := ⟨_, rfl⟩
        rw [← ha] at hR
        have hmem : a ∈ L := by rw [ha]; exact List.getElem_mem _
        have hR5 : List.take 5 (List.drop (x.i * 5) (alsC L)) = alC a := by rw [hR]; rfl
        have d1 := does13_ok h2 h3 (by omega) (hLo a hmem) (hfL.2 a hmem)
        have b5 : x.i * 5 + 5 ≤ L.length * 5 := by omega
        have hi1 : x.i + 1 ≤ L.length := hlt
        have hwi : IntKind.i64.wrap ((x.i : Int) + 1) = (x.i : Int) + 1 := wrap_i64 _ (by omega) (by omega)
        have hcl : (∀ w, w ∈ alC a → w.isCell = true) = True := eq_true (fun w hw => by simp only [alC, byC, List.mem_cons, List.not_mem_nil, or_false] at hw; rcases hw with rfl | rfl | rfl | rfl | rfl <;> rfl)
        have hAl : (alC a).length = 5 := rfl
        have hAt : List.take 5 (alC a) = alC a := rfl
        obtain ⟨A, hA⟩ : ∃ A, A = alC a := ⟨_, rfl⟩
        rw [← hA] at hR5 d1 hcl hAl hAt
        simp only [AV.isCell] at hcl
        replace F := aF hlt (And.intro hR5 (And.intro b5 (And.intro hi1 (And.intro hwi (And.intro hcl (And.intro hAl (And.intro hAt F))))))); refine run_skip ?_; refine hK16 _ _ ?_; refine sq fun K19 hK19 => ?_; refine run_block_k ?_; refine rg' (h := fun J20 hJ20 => ?_); refine ca (c := d1) (k := ?_); rintro _ _ ⟨y, ⟨e1, e2⟩, rfl, rfl⟩; (repeat (first | simp [F] | simp (disch := omega) only [wC, if_pos, if_neg])); refine hJ20 _ _ ?_; refine hK19 _ _ ?_; refine rg' (h := fun J21 hJ21 => ?_); refine hJ21 _ _ ?_; refine ⟨(⟨x.i + 1, y⟩), ⟨kp, lp, ?_, ?_, lp, lp⟩, lp⟩
        · exact e1
        · exact e2
     (try exact nope c29); all_goals have c29p := c29; try simp [F] at c29p
     all_goals
      replace F := aF c29 F; (try replace F := aF c29p F); refine run_exit ?_; refine hK13 _ _ ?_; refine sq fun K22 hK22 => ?_; refine sr fun _ hJ24 => ?_; refine hJ24 _ _ ?_; refine run_block_k ?_; refine run_loopF (X := Nat) [1, 7, 8] (fun k ρ σ1 => (k ≤ 3) ∧ (ρ 10 = .v (.int .i64 k)) ∧ (σ1 = x.x.τ)) (fun k => 3 - k) (0) ?st2 ?rd2
      case st2 =>
       refine ⟨lp, lp, lp⟩
      case rd2 =>
       rintro k ρ2 σ1 hF2 ⟨k1, k5, hσ⟩; obtain rfl := hσ.symm
       have f2 := keepL hF2
       (try simp [KeepL, F] at f2); replace F := aF k5 F; (try replace F := aF f2 F); refine sq fun K25 hK25 => ?_; refine sr fun _ hJ27 => ?_; refine hJ27 _ _ ?_; refine cs (fun c39 => ?_) (fun c39 => ?_)
       · (try exact nope c39); all_goals have c39p := c39; try simp [F] at c39p
         all_goals
          replace F := aF c39 F; try replace F := aF c39p F
          have hk3 : k < 3 := by have h := c39; simp at h; omega
          have hwk := wrap_k hk3
          have hwi2 : IntKind.i64.wrap ((k : Int) + 1) = (k : Int) + 1 := wrap_i64 _ (by omega) (by omega)
          have hkM : k < x.x.Ms.length := by rw [h3.len]; exact hk3
          have hkn : (UInt8.ofNat k).toNat = k := toNat_ofNat (by omega)
          have hsz := h3.sz k hkM
          have hpl := h3.pl k hkM
          have hrr := h2.m.r k hkM
          have hmo := h2.m.o
          have hrp := ripe_ok (kind := UInt8.ofNat k) (now := N) h2.s h3.ok (by omega)
          rw [(h3.ln k hkM).all h3.ok.srt, hkn, ripeL, take_wh ((h3.ln k hkM).sorted h3.ok.srt)] at hrp
          have hr13 := ripe13_ok (now := N) h2.m hkM (by omega)
          have hml := mC_len x.x.Ms
          obtain ⟨R2, hR2⟩ := mC_at hkM
          obtain ⟨I, hI⟩ : ∃ I, I = x.x.Ms[k].I := ⟨_, rfl⟩
          rw [← hI] at hsz hpl hrr hrp hr13
          have g0 := get_drop (l := mC x.x.Ms) (i := k * 2) (j := 0) (x := .row x.x.Ms[k].q x.x.Ms[k].g 0 3 I.length) (by rw [hR2, hI]; rfl)
          simp only [Nat.add_zero] at g0
          have hdl := due_le I N
          obtain ⟨m, hm⟩ : ∃ m, m = dueL I N := ⟨_, rfl⟩
          rw [← hm] at hrp hr13 hdl
          have htl : (I.take m).length = m := by rw [List.length_take]; omega
          have hit := items_ok (σ := x.x.τ) (I := I.take m) (by omega)
          rw [htl] at hrp hit
          have hsm := same13_ok (n := m) hrr hdl (by omega) hpl
          have b0 : k * 2 < x.x.Ms.length * 2 := by omega
          have b2 : k * 2 + 2 ≤ x.x.Ms.length * 2 := by omega
          have b3 : x.x.Ms.length = 3 := h3.len
          replace F := aF hk3 (And.intro hwk (And.intro hwi2 (And.intro hmo (And.intro hml (And.intro g0 (And.intro b0 (And.intro b2 (And.intro hdl (And.intro hrr F))))))))); refine run_skip ?_; refine hK25 _ _ ?_; refine sq fun K28 hK28 => ?_; refine run_block_k ?_; refine sr fun _ hJ30 => ?_; refine ca (c := hr13) (k := ?_); rintro _ _ ⟨rfl, rfl⟩; (repeat (first | simp [F] | simp (disch := omega) only [wC, if_pos, if_neg])); refine hJ30 _ _ ?_; refine sq fun K31 hK31 => ?_
          refine run_draw (by kernel_rfl) fun J32 hJ32 => ?_
          refine rp2 0 (k := ?_); refine rp2 1 (k := ?_); refine rp2 2 (k := ?_); refine rp2 3 (k := ?_); refine rp2 6 (k := ?_); refine rp2 7 (k := ?_); refine rp2 8 (k := ?_); refine rp2 9 (k := ?_); refine rp2 10 (k := ?_); refine rp2 11 (k := ?_); refine dc 4 rfl (c := hrp) (k := ?_); rintro _ _ ⟨rfl, rfl⟩
          refine ⟨by first | exact fun _ _ h => h | (refine later_list [11, 10, 9, 8, 7, 6, 1] (by kernel_rfl) (List.forall_mem_cons.2 ⟨fun _ => fact2 rfl rfl ?_, List.forall_mem_cons.2 ⟨fun _ => fact2 rfl rfl ?_, List.forall_mem_cons.2 ⟨fun _ => fact2 rfl rfl ?_, List.forall_mem_cons.2 ⟨fun _ => fact2 rfl rfl ?_, List.forall_mem_cons.2 ⟨fun _ => fact2 rfl rfl ?_, List.forall_mem_cons.2 ⟨fun _ => fact2 rfl rfl ?_, List.forall_mem_cons.2 ⟨fun _ => fact2 rfl rfl ?_, fun _ h => absurd h List.not_mem_nil⟩⟩⟩⟩⟩⟩⟩) <;> constructor <;> first | rfl | (simp [F]; done)), ?_⟩
          (repeat (first | simp [F] | simp (disch := omega) only [wC, if_pos, if_neg])); refine dc 5 rfl (c := hit) (k := ?_); rintro _ _ ⟨rfl, rfl⟩
          refine ⟨by first | exact fun _ _ h => h | (refine later_list [11, 10, 9, 8, 7, 6, 1] (by kernel_rfl) (List.forall_mem_cons.2 ⟨fun _ => fact2 rfl rfl ?_, List.forall_mem_cons.2 ⟨fun _ => fact2 rfl rfl ?_, List.forall_mem_cons.2 ⟨fun _ => fact2 rfl rfl ?_, List.forall_mem_cons.2 ⟨fun _ => fact2 rfl rfl ?_, List.forall_mem_cons.2 ⟨fun _ => fact2 rfl rfl ?_, List.forall_mem_cons.2 ⟨fun _ => fact2 rfl rfl ?_, List.forall_mem_cons.2 ⟨fun _ => fact2 rfl rfl ?_, fun _ h => absurd h List.not_mem_nil⟩⟩⟩⟩⟩⟩⟩) <;> constructor <;> first | rfl | (simp [F]; done)), ?_⟩
          (repeat (first | simp [F] | simp (disch := omega) only [wC, if_pos, if_neg])); refine dc 12 rfl (c := hsm) (k := ?_); rintro _ _ ⟨rfl, rfl⟩
          refine ⟨by first | exact fun _ _ h => h | (refine later_list [10, 9, 8, 7, 6, 1] (by kernel_rfl) (List.forall_mem_cons.2 ⟨fun _ => fact2 rfl rfl ?_, List.forall_mem_cons.2 ⟨fun _ => fact2 rfl rfl ?_, List.forall_mem_cons.2 ⟨fun _ => fact2 rfl rfl ?_, List.forall_mem_cons.2 ⟨fun _ => fact2 rfl rfl ?_, List.forall_mem_cons.2 ⟨fun _ => fact2 rfl rfl ?_, List.forall_mem_cons.2 ⟨fun _ => fact2 rfl rfl ?_, fun _ h => absurd h List.not_mem_nil⟩⟩⟩⟩⟩⟩) <;> constructor <;> first | rfl | (simp [F]; done)), ?_⟩
          (repeat (first | simp [F] | simp (disch := omega) only [wC, if_pos, if_neg])); refine rp2 13 (k := ?_); refine dd ?_; refine hJ32 _ _ ?_; refine hK31 _ _ ?_; refine cf ?_; refine run_skip ?_; refine hK28 _ _ ?_; refine rg' (h := fun J33 hJ33 => ?_); refine hJ33 _ _ ?_; refine ⟨(k + 1), ⟨kp, lp, lp, lp⟩, lp⟩
       (try exact nope c39); all_goals have c39p := c39; try simp [F] at c39p
       all_goals
        replace F := aF c39 F; (try replace F := aF c39p F); refine run_exit ?_; refine hK22 _ _ ?_; refine sr fun _ hJ35 => ?_; refine hJ35 _ _ ?_; refine ra ?_
        obtain ⟨rr, hr9, _⟩ := h2.ex
        rw [hr9]
        exact gcr
   case cx8 =>
    intro K8 hK8
    refine sr fun _ hJ37 => ?_; refine hJ37 _ _ ?_; refine cs (fun c20 => ?_) (fun c20 => ?_)
    · (try exact nope c20); all_goals have c20p := c20; try simp [F] at c20p
      all_goals
       replace F := aF c20 F; (try replace F := aF c20p F); refine rg' (h := fun J38 hJ38 => ?_); refine ca (c := hn13) (k := ?_); rintro _ _ ⟨rfl, rfl⟩; (repeat (first | simp [F] | simp (disch := omega) only [wC, if_pos, if_neg])); refine hJ38 _ _ ?_; refine hK8 (()) _ _ ⟨kp, ?_, ?_, lp⟩
       · rw [hL]
         have h := c20
         (try simp at h); simp [F, h]
       · rw [hN]
         have h := c20
         (try simp at h); simp [F, h]
    (try exact nope c20); all_goals have c20p := c20; try simp [F] at c20p
    all_goals
     replace F := aF c20 F; (try replace F := aF c20p F); refine run_skip ?_; refine hK8 (()) _ _ ⟨kp, ?_, ?_, lp⟩
     · rw [hL]
       have h := c20
       (try simp at h); simp [F, h]
     · rw [hN]
       have h := c20
       (try simp at h); simp [F, h]
end Go.Proofs.Ytlkajgjaidedkaa
