import Derived.Test.YtmponlabfccjaaaZ7
import Derived.Test.YtmponlabfccjaaaZ16
/-
  BankSums.
-/
namespace Go.Proofs.Ytmponlabfccjaaa
set_option linter.unnecessarySimpa false
set_option maxRecDepth 100000
open Go Go.Vm
set_option linter.unusedSimpArgs false
set_option linter.unusedVariables false
attribute [local simp] evalL wantedA isCall opA evalA evalAll evalsA evalOpt ofValue ofCell plain binA_eql_pn binA_neq_pn binA_gtr binA_lss binA_geq binA_leq binA_add binA_sub binA_eql binA_neq binA_orI binA_shl binA_shr binA_mul binA_quo binA_rem binA_agg_eql binA_agg_neq convA_int unA_not fieldAddrA loadA partA pickA_true pickA_false pickA_bb lenA builtinA storeA splice AV.cells AV.isCell sliceA boundA intA callOf indexAddrA newObjA buildA fillA zeroA ofCells buildSliceA indexA fieldA set_appN get_appN take_appN List.getElem?_cons_zero List.getElem?_cons_succ get_sa0 get_sa1 get_sa2 get_sa3 set_sa0 set_sa1 set_sa2 set_sa3 sliceRowA binA_eqn binA_neqn drop_mr

def preS (B : List Bl) (j d : Nat) : Nat := ((B.take j).map fun b => amt b.l d).sum
theorem preS_succ {B : List Bl} {j : Nat} (h : j < B.length) (d : Nat) : preS B (j + 1) d = preS B j d + amt B[j].l d := by
  unfold preS
  rw [← List.take_append_getElem h, List.map_append, List.sum_append]; simp
theorem preS_le (B : List Bl) (j d : Nat) : preS B j d ≤ preS B B.length d := by
  unfold preS
  rw [List.take_length]
  conv => rhs; rw [← List.take_append_drop j B, List.map_append, List.sum_append]
  omega
theorem preS_bals (T : Tb) (d : Nat) : preS (bals T) (bals T).length d = sumB T d := by
  unfold preS
  rw [List.take_length]
  have : ∀ n, ((balsT T n).map fun b => amt b.l d).sum = sumTo (fun a => amt (T (some a)) d) n := fun n => by
    induction n with
    | zero => rfl
    | succ n ih =>
      rw [balsT, List.map_append, List.sum_append, ih, sumTo]
      congr 1
      unfold bE
      split
      · rename_i h; rw [h]; rfl
      · simp
  exact this 256
def preL (B : List Bl) (j : Nat) : List Coin := lstF (preS B j) 8

set_option maxHeartbeats 1600000 in
attribute [local simp] undefA List.getElem?_cons_zero List.getElem?_cons_succ in
theorem bankSums_ok {σ : St} {l : List AB} (hl : l.length ≤ 9223372036854775807) (hb : ∀ a ∈ l, a.Ok) :
    CallsA Try.prog 7 [.sl 5 (absC l) l.length .shut] σ (fun av σ' => av = .v (.bool true) ∧ σ = σ') := by
  refine callsA_gcS ?_ rfl
  have hlc := absC_len l
  have hlen := Sp.len σ
  have F := And.intro hlc (And.intro hlen (True.intro))
  refine callsA_body Try.func7 rfl rfl rfl ?_; refine sr fun _ hJ2 => ?_; refine hJ2 _ _ ?_; refine sq fun K3 hK3 => ?_; refine sr fun _ hJ5 => ?_; refine ca (c := sends_ok) (k := ?_); rintro _ _ ⟨rfl, rfl⟩; (repeat (first | simp [F] | simp (disch := omega) only [wC, if_pos, if_neg])); refine go2 (k := ?_); refine ca (c := few09_ok hl) (k := ?_); rintro _ _ ⟨b, hbf, rfl, rfl⟩; (repeat (first | simp [F] | simp (disch := omega) only [wC, if_pos, if_neg])); refine go2 (k := ?_); refine hJ5 _ _ ?_; refine cs (fun c17 => ?_) (fun c17 => ?_)
  · (try exact nope c17); all_goals have c17p := c17; try simp [F] at c17p
    all_goals
     replace F := aF c17 F; (try replace F := aF c17p F); refine sr fun _ hJ7 => ?_; refine ca (c := sends_ok) (k := ?_); rintro _ _ ⟨rfl, rfl⟩; (repeat (first | simp [F] | simp (disch := omega) only [wC, if_pos, if_neg])); refine hJ7 _ _ ?_; refine ra ?_; exact gcr
  (try exact nope c17); all_goals have c17p := c17; try simp [F] at c17p
  all_goals
   replace F := aF c17 F; try replace F := aF c17p F
   have h30 : l.length ≤ 30 := hbf (by have h := c17; simpa using h)
   refine run_skip ?_; refine hK3 _ _ ?_; refine sr fun _ hJ9 => ?_; refine ca (c := newSp_ok) (k := ?_); rintro _ _ ⟨rfl, rfl⟩; (repeat (first | simp [F] | simp (disch := omega) only [wC, if_pos, if_neg])); refine hJ9 _ _ ?_; refine sq fun K10 hK10 => ?_; refine sq fun K11 hK11 => ?_; refine run_newB σ ?_; refine rg' (h := fun J12 hJ12 => ?_); refine hJ12 _ _ ?_; refine hK11 _ _ ?_; refine run_block_k ?_; refine run_loopF (X := FB) [0, 3, 4] (fun x ρ σ1 => (x.i ≤ l.length) ∧ (BkI x.G.s x.T (x.i * 16)) ∧ (ρ 5 = .v (.int .i64 x.i)) ∧ (σ1 = Sp σ x.G [bC x.T])) (fun x => l.length - x.i) (⟨0, newSg, tb0⟩) ?st1 ?rd1
   case st1 =>
    refine ⟨lp, ?_, lp, lp⟩
    · exact BkI.nil
   case rd1 =>
    rintro x ρ1 σ1 hF1 ⟨h1, h2, h5, hσ⟩; obtain rfl := hσ.symm
    have f1 := keepL hF1
    (try simp [KeepL, F] at f1); replace F := aF h5 F; (try replace F := aF f1 F); refine sq fun K13 hK13 => ?_; refine sr fun _ hJ15 => ?_; refine hJ15 _ _ ?_; refine cs (fun c25 => ?_) (fun c25 => ?_)
    · (try exact nope c25); all_goals have c25p := c25; try simp [F] at c25p
      all_goals
       replace F := aF c25 F; try replace F := aF c25p F
       have hlt : x.i < l.length := by have h := c25; simp at h; omega
       obtain ⟨R, hR⟩ := absC_at hlt
       obtain ⟨a, ha⟩ : ∃ a, a = l[x.i] := ⟨_, rfl⟩
       rw [← ha] at hR
       have hao : a.Ok := hb a (by rw [ha]; exact List.getElem_mem _)
       have hR3 : List.take 5 (List.drop (x.i * 5) (absC l)) = abC a := by rw [hR]; exact List.take_left' (abC_len a)
       have d3 : x.i * 5 + 5 ≤ l.length * 5 := by omega
       have hi1 : x.i + 1 ≤ l.length := hlt
       have hwi : IntKind.i64.wrap ((x.i : Int) + 1) = (x.i : Int) + 1 := wrap_i64 _ (by omega) (by omega)
       have k2 := does9 (σ := σ) h2 (by omega) hao
       have hcl : (∀ x, x ∈ abC a → x.isCell = true) = True := eq_true (cellAB a)
       have hAl : (abC a).length = 5 := rfl
       have hAt : List.take 5 (abC a) = abC a := List.take_of_length_le (Nat.le_of_eq hAl)
       obtain ⟨A, hA⟩ : ∃ A, A = abC a := ⟨_, rfl⟩
       rw [← hA] at hR3 hcl hAl hAt k2
       simp only [AV.isCell] at hcl
       replace F := aF hlt (And.intro hR3 (And.intro d3 (And.intro hi1 (And.intro hwi (And.intro hcl (And.intro hAl (And.intro hAt F))))))); refine run_skip ?_; refine hK13 _ _ ?_; refine sq fun K16 hK16 => ?_; refine run_block_k ?_; refine sr fun _ hJ18 => ?_; refine ca (c := k2) (k := ?_); rintro _ _ ⟨G1, T1, e1, rfl, rfl⟩; (repeat (first | simp [F] | simp (disch := omega) only [wC, if_pos, if_neg])); refine hJ18 _ _ ?_; refine sr fun _ hJ20 => ?_; refine hJ20 _ _ ?_; refine sq fun K21 hK21 => ?_; refine run_nilsh 6 5 (k := ?_)
       have hal := allB_ok (Sp.has σ G1 [bC T1]) e1.bk (by omega)
       have hsu := supply_ok (Sp.has σ G1 [bC T1]) e1.bk (by omega)
       have htot := fun d => preS_bals T1 d
       have hle := fun j d => preS_le (bals T1) j d
       have hmem := fun b => mem_bals (T := T1) (b := b)
       obtain ⟨B, hB⟩ : ∃ B, B = bals T1 := ⟨_, rfl⟩
       have hBl : B.length ≤ 256 := by rw [hB]; exact bals_len T1
       rw [← hB] at hal
       simp only [← hB] at htot hle hmem
       have hBc := balsC_len B
       have hbound : ∀ j d, d < 8 → preS B j d < 2 ^ 256 := fun j d hd => Nat.lt_of_le_of_lt (hle j d) (by rw [htot, e1.sm d hd]; exact amt_lt _ _)
       have hend : preL B B.length = T1 none := right_ext (right_lstF (hbound _) 8 (Nat.le_refl 8)) (e1.bk.rt none) (fun d hd => by rw [preL, amt_lstF (hbound _) (Nat.le_refl 8) hd, htot, e1.sm d hd])
       have hR8 := right_len (e1.bk.rt none)
       have hsm := rsame_ok (σ := Sp σ G1 [bC T1]) (l := T1 none) (m := T1 none) (t1 := .shut) (t2 := .shut) (by omega) (by omega)
       rw [decide_eq_true (rfl : T1 none = T1 none)] at hsm
       replace F := aF hBc F; refine rg' (h := fun J22 hJ22 => ?_); refine ca (c := hal) (k := ?_); rintro _ _ ⟨rfl, rfl⟩; (repeat (first | simp [F] | simp (disch := omega) only [wC, if_pos, if_neg])); refine hJ22 _ _ ?_; refine hK21 _ _ ?_; refine sq fun K23 hK23 => ?_; refine sr fun _ hJ25 => ?_; refine hJ25 _ _ ?_; refine run_block_k ?_; refine run_loopF (X := Nat) [0, 3, 4, 5, 7, 22, 23, 24, 25, 28, 29, 30, 31, 32, 33, 35, 36] (fun j ρ σ1 => (j ≤ B.length) ∧ (ρ 8 = .v (.int .i64 j)) ∧ (ρ 6 = .sl 5 (coinsC (preL B j)) (preL B j).length .shut) ∧ (σ1 = Sp σ G1 [bC T1])) (fun j => B.length - j) (0) ?st2 ?rd2
       case st2 =>
        refine ⟨lp, lp, ?_, lp⟩
        · have e0 : preL B 0 = [] := (lstF_congr (f := preS B 0) (g := amt []) (fun i _ => rfl)).trans (lstF_amt Go.Vm.right_nil)
          rw [e0]
          simp [F, coinsC]
       case rd2 =>
        rintro j ρ2 σ1 hF2 ⟨m1, m2, m3, hσ⟩; obtain rfl := hσ.symm
        have f2 := keepL hF2
        (try simp [KeepL, F] at f2); replace F := aF m2 F; replace F := aF m3 F; (try replace F := aF f2 F); refine sq fun K26 hK26 => ?_; refine sr fun _ hJ28 => ?_; refine hJ28 _ _ ?_; refine cs (fun c40 => ?_) (fun c40 => ?_)
        · (try exact nope c40); all_goals have c40p := c40; try simp [F] at c40p
          all_goals
           replace F := aF c40 F; try replace F := aF c40p F
           have hltj : j < B.length := by have h := c40; simp at h; omega
           obtain ⟨R2, hR2⟩ := balsC_at (l := B) (i := j) hltj
           obtain ⟨y, hy⟩ : ∃ y, y = B[j] := ⟨_, rfl⟩
           rw [← hy] at hR2
           have f1 := get_dropB (l := balsC B) (i := j * 2) (j := 1) (x := .sl 5 (coinsC y.l) y.l.length .shut) (by rw [hR2]; rfl)
           have d1 : j * 2 + 1 < B.length * 2 := by omega
           have hj1 : j + 1 ≤ B.length := hltj
           have hwj : IntKind.i64.wrap ((j : Int) + 1) = (j : Int) + 1 := wrap_i64 _ (by omega) (by omega)
           have hyR : Right y.l := by have := (hmem y).1 (by rw [hy]; exact List.getElem_mem hltj); rw [this.1]; exact e1.bk.rt _
           have hpR : Right (preL B j) := right_lstF (hbound _) 8 (Nat.le_refl 8)
           have had := rpadd_ok (σ := Sp σ G1 [bC T1]) (ta := .shut) (tb := .shut) hpR hyR
           have hsu2 : ∀ d, d < 8 → amt (preL B j) d + amt y.l d = preS B (j + 1) d := fun d hd => by rw [preL, amt_lstF (hbound _) (Nat.le_refl 8) hd, preS_succ hltj, hy]
           have hE0 : cAddE (preL B j) y.l = 0 := cAddE_zero.2 (fun d hd => by rw [hsu2 d hd]; exact hbound _ d hd)
           have hA1 : cAddL (preL B j) y.l = preL B (j + 1) := by rw [cAddL_yes hE0]; exact lstF_congr (fun d hd => hsu2 d hd)
           rw [hA1, decide_eq_true hE0] at had
           obtain ⟨P0, hP0⟩ : ∃ P, P = preL B j := ⟨_, rfl⟩
           obtain ⟨P1, hP1⟩ : ∃ P, P = preL B (j + 1) := ⟨_, rfl⟩
           rw [← hP0] at m3
           rw [← hP0, ← hP1] at had
           have hP02 := hP0.symm
           have hP12 := hP1.symm
           replace F := aF hltj (And.intro f1 (And.intro d1 (And.intro hj1 (And.intro hwj (And.intro hP02 (And.intro hP12 F)))))); refine run_skip ?_; refine hK26 _ _ ?_; refine sq fun K29 hK29 => ?_; refine run_block_k ?_; refine sr fun _ hJ31 => ?_; refine ca (c := had) (k := ?_); rintro _ _ ⟨rfl, rfl⟩; (repeat (first | simp [F] | simp (disch := omega) only [wC, if_pos, if_neg])); refine hJ31 _ _ ?_; refine sq fun K32 hK32 => ?_; refine sr fun _ hJ34 => ?_; refine hJ34 _ _ ?_; refine cf ?_; refine run_skip ?_; refine hK32 _ _ ?_; refine rg' (h := fun J35 hJ35 => ?_); refine hJ35 _ _ ?_; refine hK29 _ _ ?_; refine rg' (h := fun J36 hJ36 => ?_); refine hJ36 _ _ ?_; refine ⟨(j + 1), ⟨kp, lp, lp, lp, lp⟩, lp⟩
        (try exact nope c40); all_goals have c40p := c40; try simp [F] at c40p
        all_goals
         replace F := aF c40 F; try replace F := aF c40p F
         have hje : j = B.length := by have h := c40; simp at h; omega
         rw [hje, hend] at m3
         replace F := aF m3 F; refine run_exit ?_; refine hK23 _ _ ?_; refine sr fun _ hJ38 => ?_; refine ca (c := hsu) (k := ?_); rintro _ _ ⟨rfl, rfl⟩; (repeat (first | simp [F] | simp (disch := omega) only [wC, if_pos, if_neg])); refine ca (c := hsm) (k := ?_); rintro _ _ ⟨rfl, rfl⟩; (repeat (first | simp [F] | simp (disch := omega) only [wC, if_pos, if_neg])); refine hJ38 _ _ ?_; refine cf ?_; refine run_skip ?_; refine hK16 _ _ ?_; refine rg' (h := fun J39 hJ39 => ?_); refine hJ39 _ _ ?_; refine ⟨(⟨x.i + 1, G1, T1⟩), ⟨kp, lp, ?_, lp, lp⟩, lp⟩
         · have e : (x.i + 1) * 16 = x.i * 16 + 16 := by omega
           rw [e]
           exact e1
    (try exact nope c25); all_goals have c25p := c25; try simp [F] at c25p
    all_goals
     replace F := aF c25 F; (try replace F := aF c25p F); refine run_exit ?_; refine hK10 _ _ ?_; refine sr fun _ hJ41 => ?_; refine hJ41 _ _ ?_; refine ra ?_; simp only [Sp]
     exact gcr

end Go.Proofs.Ytmponlabfccjaaa

/-
  Arguments: what a plan is made of.
-/
namespace Go.Vm
set_option linter.unnecessarySimpa false
set_option linter.unusedVariables false
open Go

theorem bool_of {P : Program} {u : TypeId} {a : AV} (hu : P.underlying u = some .bool) (w : WC P u a) : ∃ b : Bool, a = .v (.bool b) := by
  cases w with
  | int h _ => rw [hu] at h; cases h
  | string h _ => rw [hu] at h; cases h
  | slice h _ _ _ _ => rw [hu] at h; cases h
  | bool h => exact ⟨_, rfl⟩

end Go.Vm

/-
  Arguments: deeds of a bank.
-/
namespace Go.Proofs.Ytmponlabfccjaaa
set_option linter.unnecessarySimpa false
set_option maxRecDepth 100000
open Go Go.Vm
set_option linter.unusedSimpArgs false
set_option linter.unusedVariables false
attribute [local simp] evalL wantedA isCall opA evalA evalAll evalsA evalOpt ofValue ofCell plain binA_eql_pn binA_neq_pn binA_gtr binA_lss binA_geq binA_leq binA_add binA_sub binA_eql binA_neq binA_orI binA_shl binA_shr binA_mul binA_quo binA_rem binA_agg_eql binA_agg_neq convA_int unA_not fieldAddrA loadA partA pickA_true pickA_false pickA_bb lenA builtinA storeA splice AV.cells AV.isCell sliceA boundA intA callOf indexAddrA newObjA buildA fillA zeroA ofCells buildSliceA indexA fieldA set_appN get_appN take_appN List.getElem?_cons_zero List.getElem?_cons_succ get_sa0 get_sa1 get_sa2 get_sa3 set_sa0 set_sa1 set_sa2 set_sa3 sliceRowA binA_eqn binA_neqn drop_mr

theorem ab_cells {P : Program} {k2 : Nat} {u b t c ec : TypeId} {a0 a1 a2 a3 a4 : AV} (hu : P.underlying u = some (.int .u64)) (hb : P.underlying b = some (.int .u8)) (ht : P.underlying t = some .bool) (hc : P.underlying c = some (.slice ec)) (hlc : leaves P k2 ec = some [b, u, u, u, u]) (h0 : WC P b a0) (h1 : WC P b a1) (h2 : WC P b a2) (h3 : WC P c a3) (h4 : WC P t a4) : ∃ e : AB, [a0, a1, a2, a3, a4] = abC e ∧ e.Ok := by
  obtain ⟨x0, rfl⟩ := u8_of hb h0
  obtain ⟨x1, rfl⟩ := u8_of hb h1
  obtain ⟨x2, rfl⟩ := u8_of hb h2
  obtain ⟨L, hL⟩ := coins_of hc hlc hb hu h3
  obtain ⟨x4, rfl⟩ := bool_of ht h4
  subst hL
  exact ⟨⟨x0, x1, x2, L, x4⟩, rfl, wc_len h3⟩

theorem abs_of {P : Program} {k2 : Nat} {u b t c ec : TypeId} {k : Nat} {ty e : TypeId} {a : AV} (hty : P.underlying ty = some (.slice e)) (hle : leaves P k e = some [b, b, b, c, t]) (hu : P.underlying u = some (.int .u64)) (hb : P.underlying b = some (.int .u8)) (ht : P.underlying t = some .bool) (hc : P.underlying c = some (.slice ec)) (hlc : leaves P k2 ec = some [b, u, u, u, u]) (w : WC P ty a) :
    ∃ L : List AB, a = .sl 5 (absC L) L.length .shut ∧ L.length ≤ 9223372036854775807 ∧ ∀ x ∈ L, x.Ok := by
  cases w with
  | bool h => rw [hty] at h; cases h
  | string h _ => rw [hty] at h; cases h
  | int h _ => rw [hty] at h; cases h
  | slice h hls hl hn hcc =>
    rw [hty] at h
    cases h
    rename_i fuel ls cs n
    obtain rfl := leaves_one hle hls
    obtain ⟨L, hL, rfl⟩ := groups (α := { x : AB // x.Ok }) (f := fun x => abC x.1) (ls := [b, b, b, c, t]) (by simp) (fun _ => rfl) (fun cs h1 h2 => by
      match cs, h1, h2 with
      | [a0, a1, a2, a3, a4], _, h2 =>
        obtain ⟨e, e1, o1⟩ := ab_cells hu hb ht hc hlc (h2 0 a0 _ rfl rfl) (h2 1 a1 _ rfl rfl) (h2 2 a2 _ rfl rfl) (h2 3 a3 _ rfl rfl) (h2 4 a4 _ rfl rfl)
        exact ⟨⟨e, o1⟩, e1⟩) n cs hl hcc
    refine ⟨L.map Subtype.val, ?_, by rw [List.length_map, hL]; exact hn, fun x hx => ?_⟩
    · rw [List.length_map, hL]
      show AV.sl 5 _ n .shut = _
      congr 1
      simp [absC, List.flatMap_map]
    · obtain ⟨y, _, rfl⟩ := List.mem_map.1 hx
      exact y.2
theorem abs_arg {P : Program} {k2 : Nat} {u b t c ec : TypeId} {n k : Nat} {ty e : TypeId} {H : Type} {enc : TypeId × Value → H} {W : World} {spare : Nat → Bool} {ad : Option Addr} {m c9 : Nat} {d : DataW H} {ps : List MemPlace} (hl : leaves P n ty = some [ty]) (hty : P.underlying ty = some (.slice e)) (hle : leaves P k e = some [b, b, b, c, t]) (hu : P.underlying u = some (.int .u64)) (hb : P.underlying b = some (.int .u8)) (ht : P.underlying t = some .bool) (hc : P.underlying c = some (.slice ec)) (hlc : leaves P k2 ec = some [b, u, u, u, u])
    (h : DataW.Trod enc P W 0 spare true ty (.slice ad m c9) d ps) : ∃ L : List AB, L.length ≤ 9223372036854775807 ∧ (∀ x ∈ L, x.Ok) ∧ AVR (atFirst W) W (.slice ad m c9) (.sl 5 (absC L) L.length .shut) := by
  obtain ⟨l, h1, h2, h3, h4⟩ := open_arg hl h
  have hc9 : Value.cells (.slice ad m c9) = #[.slice ad m c9] := rfl
  obtain ⟨a, rfl⟩ : ∃ a, l = [a] := by
    match l, h1 with
    | [a], _ => exact ⟨a, rfl⟩
  obtain ⟨L, rfl, e1, e2⟩ := abs_of hty hle hu hb ht hc hlc (h4 0 a ty rfl rfl)
  exact ⟨L, e1, e2, h3 0 _ _ (by rw [hc9]; rfl) rfl⟩

end Go.Proofs.Ytmponlabfccjaaa
