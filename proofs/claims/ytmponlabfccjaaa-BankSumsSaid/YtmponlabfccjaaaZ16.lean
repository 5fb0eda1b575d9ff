import Derived.Test.YtmponlabfccjaaaZ7
import Derived.Test.YtmponlabfccjaaaZ14
import Derived.Test.YtmponlabfccjaaaZ15
import Derived.Test.YtmponlabfccjaaaZ10
/-
  A bank in a store: the plain law.
-/
namespace Go.Proofs.Ytmponlabfccjaaa
set_option linter.unnecessarySimpa false
set_option maxRecDepth 100000
open Go Go.Vm
set_option linter.unusedSimpArgs false
set_option linter.unusedVariables false
attribute [local simp] evalL wantedA isCall opA evalA evalAll evalsA evalOpt ofValue ofCell plain binA_eql_pn binA_neq_pn binA_gtr binA_lss binA_geq binA_leq binA_add binA_sub binA_eql binA_neq binA_orI binA_shl binA_shr binA_mul binA_quo binA_rem binA_agg_eql binA_agg_neq convA_int unA_not fieldAddrA loadA partA pickA_true pickA_false pickA_bb lenA builtinA storeA splice AV.cells AV.isCell sliceA boundA intA callOf indexAddrA newObjA buildA fillA zeroA ofCells buildSliceA indexA fieldA set_appN get_appN take_appN List.getElem?_cons_zero List.getElem?_cons_succ get_sa0 get_sa1 get_sa2 get_sa3 set_sa0 set_sa1 set_sa2 set_sa3 sliceRowA binA_eqn binA_neqn drop_mr

def enc (x : Nat) : Option (List UInt8) := if x = 0 then none else some (natBytes x)
def kk : Option UInt8 → List UInt8
  | none => [115]
  | some a => [98, a]
def key (o : Option UInt8) (d : UInt8) : List UInt8 := kk o ++ [d]
theorem key_inj {o o' : Option UInt8} {d d' : UInt8} : key o d = key o' d' ↔ o = o' ∧ d = d' := by
  cases o <;> cases o' <;> simp [key, kk]
theorem key_pre (o o' : Option UInt8) (d : UInt8) : preB (key o' d) (kk o) = decide (o' = o) := by
  cases o <;> cases o' <;> simp [key, kk, preB]
theorem key_len (o : Option UInt8) (d : UInt8) : (key o d).length ≤ 3 ∧ 2 ≤ (key o d).length := by cases o <;> simp [key, kk]
theorem kk_len (o : Option UInt8) : (kk o).length ≤ 2 := by cases o <;> simp [kk]
theorem enc_len {x : Nat} (hx : x < 2 ^ 256) : ((enc x).getD []).length ≤ 32 := by
  unfold enc; split
  · simp
  · simpa using natBytes_le hx
theorem enc_num {x : Nat} (hx : x < 2 ^ 256) : numOf ((enc x).getD []) = x := by
  unfold enc; split
  · rename_i h; subst h; rfl
  · rw [Option.getD_some, numOf, natBytes_ok hx]; simpa using be_natBytes x
abbrev Tb := Option UInt8 → List Coin
structure BankS (s : Sto) (T : Tb) (n : Nat) : Prop where
  ok : s.Ok n
  gt : ∀ o d, getL s.l (key o d) = enc (amt (T o) d.toNat)
  rt : ∀ o, Right (T o)
  ks : ∀ p ∈ s.l, ∃ o d, p.k = key o d
def upd (T : Tb) (o : Option UInt8) (l : List Coin) : Tb := fun o' => if o' = o then l else T o'
theorem upd_self (T : Tb) (o : Option UInt8) (l : List Coin) : upd T o l o = l := if_pos rfl
theorem upd_ne (T : Tb) {o o' : Option UInt8} (l : List Coin) (h : o' ≠ o) : upd T o l o' = T o' := if_neg h
theorem upd_upd (T : Tb) (o : Option UInt8) (l m : List Coin) : upd (upd T o l) o m = upd T o m := by
  funext o'; simp only [upd]; split <;> rfl
theorem upd_id (T : Tb) (o : Option UInt8) : upd T o (T o) = T := by
  funext o'; simp only [upd]; split
  · rename_i h; rw [h]
  · rfl
theorem amt_big {l : List Coin} (h : Right l) {d : Nat} (hd : 8 ≤ d) : amt l d = 0 := amt_none (fun c hc e => by
  have := h.1 c hc
  omega)
def setC (l : List Coin) (d x : Nat) : List Coin := lstF (fun i => if i = d then x else amt l i) 8
theorem setC_amt {l : List Coin} {d x i : Nat} (hx : x < 2 ^ 256) (hl : Right l) (hd : d < 8) : amt (setC l d x) i = if i = d then x else amt l i := by
  have hf : ∀ i, i < 8 → (if i = d then x else amt l i) < 2 ^ 256 := fun i _ => by split <;> first | exact hx | exact amt_lt l i
  by_cases h : i < 8
  · exact amt_lstF hf (Nat.le_refl 8) h
  · rw [setC, amt_big (right_lstF hf 8 (Nat.le_refl 8)) (by omega), if_neg (by omega), amt_big hl (by omega)]
theorem setC_right {l : List Coin} {d x : Nat} (hx : x < 2 ^ 256) : Right (setC l d x) := right_lstF (fun i _ => by split <;> first | exact hx | exact amt_lt l i) 8 (Nat.le_refl 8)
theorem BankS.set {s : Sto} {T : Tb} {n x : Nat} {o : Option UInt8} {d : UInt8} (h : BankS s T n) (hd : d.toNat < 8) (hx : x < 2 ^ 256) : BankS (doS s (key o d) (enc x)) (upd T o (setC (T o) d.toNat x)) (n + 1) := by
  have hl := enc_len hx
  have hk := key_len o d
  refine ⟨doS_ok h.ok (by omega) (by omega), fun o' d' => ?_, fun o' => ?_, fun p hp => ?_⟩
  · show getL (setL s.l _ _) _ = _
    rw [getL_setL h.ok.srt, h.gt]
    by_cases e : o' = o
    · subst e
      rw [upd_self, setC_amt hx (h.rt o') hd]
      by_cases e2 : d' = d
      · subst e2; rw [if_pos rfl, if_pos rfl]
      · rw [if_neg (fun q => e2 (key_inj.1 q).2), if_neg (fun q => e2 (UInt8.toNat_inj.1 q))]
    · rw [if_neg (fun q => e (key_inj.1 q).1), upd_ne _ _ e]
  · by_cases e : o' = o
    · subst e; rw [upd_self]; exact setC_right hx
    · rw [upd_ne _ _ e]; exact h.rt o'
  · rcases setL_mem hp with hp | hp
    · exact h.ks p hp
    · exact ⟨o, d, hp⟩
theorem BankS.mono {s : Sto} {T : Tb} {n m : Nat} (h : BankS s T n) (hm : n ≤ m) : BankS s T m := ⟨h.ok.mono hm, h.gt, h.rt, h.ks⟩
def tb0 : Tb := fun _ => []
theorem BankS.nil : BankS newSg.s tb0 0 := ⟨newSg_ok, fun o d => rfl, fun o => Go.Vm.right_nil, fun p hp => by simp [newSg] at hp⟩

def prT (o : Option UInt8) (c : Coin) : Pr := ⟨key o c.d, natBytes c.n.v⟩
theorem key_lt (o : Option UInt8) (a b : UInt8) : ltB (key o a) (key o b) = decide (a.toNat < b.toNat) := by
  cases o <;> simp only [key, kk, List.cons_append, List.nil_append, ltB, if_true] <;> (by_cases e : a = b <;> first | (subst e; simp; done) | (rw [if_neg e]))
theorem BankS.pl {s : Sto} {T : Tb} {n : Nat} (h : BankS s T n) (o : Option UInt8) : pl s.l (kk o) = (T o).map (prT o) := by
  have hR := h.rt o
  have s1 := pl_srt (p := kk o) h.ok.srt
  have s2 : Srt ((T o).map (prT o)) := by
    rw [Srt, List.pairwise_map]
    refine List.Pairwise.imp (fun {x y} hxy => ?_) hR.2
    show ltB (key o x.d) (key o y.d) = true
    rw [key_lt]; simpa using hxy
  have m1 : ∀ p ∈ Proofs.Ytmponlabfccjaaa.pl s.l (kk o), p ∈ (T o).map (prT o) := fun p hp => by
    have hp2 := List.mem_filter.1 hp
    obtain ⟨o', d, hk⟩ := h.ks p hp2.1
    have hpre := hp2.2
    rw [hk, key_pre, decide_eq_true_eq] at hpre
    subst hpre
    have hg := getL_of_mem h.ok.srt hp2.1
    rw [hk, h.gt] at hg
    have hne : amt (T o') d.toNat ≠ 0 := fun e => by rw [e] at hg; simp [enc] at hg
    have hex : ∃ c ∈ T o', c.d.toNat = d.toNat := Classical.byContradiction fun hx => hne (amt_none (fun c hc e => hx ⟨c, hc, e⟩))
    obtain ⟨c, hc, hcd⟩ := hex
    have hcn := amt_mem hR.2 hc
    rw [hcd] at hcn
    refine List.mem_map.2 ⟨c, hc, ?_⟩
    rw [hcn, enc, if_neg (by rw [← hcn]; exact hne)] at hg
    have e1 : c.d = d := UInt8.toNat_inj.1 hcd
    cases p with
    | mk k v =>
      simp only at hk hg
      simp only [prT, Pr.mk.injEq]
      exact ⟨by rw [hk, e1], by simpa using hg⟩
  have m2 : ∀ p ∈ (T o).map (prT o), p ∈ Proofs.Ytmponlabfccjaaa.pl s.l (kk o) := fun p hp => by
    obtain ⟨c, hc, rfl⟩ := List.mem_map.1 hp
    have hcn := amt_mem hR.2 hc
    have hg := h.gt o c.d
    rw [hcn, enc, if_neg (hR.1 c hc).2] at hg
    exact List.mem_filter.2 ⟨getL_mem hg, by show preB (key o c.d) (kk o) = true; rw [key_pre]; simp⟩
  exact (srt_sub s1 s2 m1).eq_of_length_le (srt_sub s2 s1 m2).length_le

def addC (a b : List Coin) : List Coin := lstF (fun d => amt a d + amt b d) 8
theorem addC_amt {a b : List Coin} (h : ∀ d, d < 8 → amt a d + amt b d < 2 ^ 256) {d : Nat} (hd : d < 8) : amt (addC a b) d = amt a d + amt b d := amt_lstF h (Nat.le_refl 8) hd
theorem addC_nil {a : List Coin} (h : Right a) : addC a [] = a := by
  have : addC a [] = lstF (amt a) 8 := lstF_congr (fun i _ => by simp [amt])
  rw [this]; exact lstF_amt h
theorem addC_step {a b : List Coin} {c : Coin} (hb : Right (b ++ [c])) (h : ∀ d, d < 8 → amt a d + amt (b ++ [c]) d < 2 ^ 256) : setC (addC a b) c.d.toNat (amt (addC a b) c.d.toNat + c.n.v) = addC a (b ++ [c]) ∧ amt (addC a b) c.d.toNat + c.n.v < 2 ^ 256 := by
  have hc8 : c.d.toNat < 8 := (hb.1 c (by simp)).1
  have hs := fun d => amt_snoc hb d
  have hlt := (right_snoc.1 hb).2.2
  have hb0 : amt b c.d.toNat = 0 := amt_none (fun x hx e => by have := hlt x hx; omega)
  have hle : ∀ d, d < 8 → amt a d + amt b d < 2 ^ 256 := fun d hd => by
    have := h d hd
    rw [hs] at this
    by_cases e : d = c.d.toNat
    · subst e; rw [hb0]; have := amt_lt a c.d.toNat; omega
    · rw [if_neg e] at this; exact this
  have hx := addC_amt hle hc8
  rw [hb0, Nat.add_zero] at hx
  have h8 := h c.d.toNat hc8
  rw [hs, if_pos rfl] at h8
  refine ⟨lstF_congr (fun i hi => ?_), by rw [hx]; exact h8⟩
  rw [hs]
  by_cases e : i = c.d.toNat
  · subst e; rw [if_pos rfl, if_pos rfl, hx]
  · rw [if_neg e, if_neg e, addC_amt hle hi]
theorem cRest_nil {a : List Coin} (h : Right a) : cRest a [] = a := by
  rw [cRest_eq]
  have : lstF (fun d => amt a d - amt [] d) 8 = lstF (amt a) 8 := lstF_congr (fun i _ => by simp [amt])
  rw [this]; exact lstF_amt h
theorem cRest_step {a b : List Coin} {c : Coin} (hb : Right (b ++ [c])) : setC (cRest a b) c.d.toNat (amt (cRest a b) c.d.toNat - c.n.v) = cRest a (b ++ [c]) := by
  have hc8 : c.d.toNat < 8 := (hb.1 c (by simp)).1
  have hs := fun d => amt_snoc hb d
  have hlt := (right_snoc.1 hb).2.2
  have hb0 : amt b c.d.toNat = 0 := amt_none (fun x hx e => by have := hlt x hx; omega)
  have hx := amt_cRest a b hc8
  rw [hb0, Nat.sub_zero] at hx
  rw [cRest_eq a (b ++ [c])]
  refine lstF_congr (fun i hi => ?_)
  rw [hs]
  by_cases e : i = c.d.toNat
  · subst e; rw [if_pos rfl, if_pos rfl, hx]
  · rw [if_neg e, if_neg e, amt_cRest a b hi]

set_option maxHeartbeats 1600000 in
attribute [local simp] undefA List.getElem?_cons_zero List.getElem?_cons_succ numA in
theorem read_ok2 {σ : St} {o k n x : Nat} {G : Sg} {K : List UInt8} {t : Tail} (h : HasS σ o k G) (hG : G.s.Ok n) (hn : n ≤ 900000) (hg : getL G.s.l K = enc x) (hx : x < 2 ^ 256) :
    CallsA Try.prog 52 [.ptr o 0, .sl 1 (bytesA K) K.length t] σ (fun av σ' => av = .agg (numA x) ∧ σ = σ') := by
  refine callsA_gcS ?_ rfl
  have hge := fun l => get_ok (key := K) (t1 := t) (h.app l σ.toks) hG (by omega)
  rw [hg] at hge
  obtain ⟨P, hP⟩ : ∃ P, P = (enc x).getD [] := ⟨_, rfl⟩
  have hrd := fun τ => read_num (σ := τ) (p := P)
  have hnp : numOf P = x := by rw [hP]; exact enc_num hx
  simp only [hnp] at hrd
  rw [← hP] at hge
  obtain ⟨b, hb⟩ : ∃ b, b = (enc x).isSome := ⟨_, rfl⟩
  rw [← hb] at hge
  have F := True.intro
  refine callsA_body Try.func52 rfl rfl rfl ?_; refine sr fun _ hJ2 => ?_; refine hJ2 _ _ ?_; refine sr fun _ hJ4 => ?_; refine ca (c := hge _) (k := ?_); rintro _ _ ⟨rfl, rfl⟩; (repeat (first | simp [F] | simp (disch := omega) only [wC, if_pos, if_neg])); refine hJ4 _ _ ?_; refine sr fun _ hJ6 => ?_; refine ca (c := hrd _) (k := ?_); rintro _ _ ⟨rfl, rfl⟩; (repeat (first | simp [F] | simp (disch := omega) only [wC, if_pos, if_neg])); refine hJ6 _ _ ?_; refine sr fun _ hJ8 => ?_; refine hJ8 _ _ ?_; refine run_ret ?_; (try simp only [Then, InBlock, NoGoto]); refine acell (h := ?_); exact gcr

set_option maxHeartbeats 1600000 in
attribute [local simp] undefA List.getElem?_cons_zero List.getElem?_cons_succ in
theorem write_ok2 {σ : St} {o k n x : Nat} {G : Sg} {K : List UInt8} {t : Tail} (h : HasS σ o k G) (hG : G.s.Ok n) (hn : n ≤ 900000) (hx : x < 2 ^ 256) (hK : K.length ≤ 1000) :
    CallsA Try.prog 97 [.ptr o 0, .agg (numA x), .sl 1 (bytesA K) K.length t] σ (fun av σ' => ∃ G', G'.s = doS G.s K (enc x) ∧ av = .tup [] ∧ σ' = putS σ o k G') := by
  have hpa := fun (G' : Sg) (l : List (List AV)) => putS_app h G' l
  have hz := cellsEq_num0 ⟨x, hx⟩
  simp only [numA] at hz
  have h32 := natBytes_le hx
  have hde := fun l => del_ok (key := K) (t1 := t) (h.app l σ.toks) hG (by omega) (by omega)
  have hse := fun l => set_ok (key := K) (val := natBytes x) (t1 := t) (t2 := .shut) (h.app l σ.toks) hG (by omega) (by omega) (by omega)
  have hby := fun τ => bytes_ok (σ := τ) hx
  simp only [numA] at hby
  obtain ⟨B, hB⟩ : ∃ B, B = natBytes x := ⟨_, rfl⟩
  simp only [← hB] at hse hby
  obtain ⟨E, hE⟩ : ∃ E, E = enc x := ⟨_, rfl⟩
  rw [← hE]
  refine callsA_mono (callsA_gcSt (X := Nat × Nat × Nat) (A := fun _ => .tup []) (T := fun y => ⟨doS G.s K E, y.1, y.2.1, y.2.2⟩) h (fun _ => rfl) ?_) (fun av σ' ⟨x, e1, e2⟩ => ⟨_, rfl, e1, e2⟩); simp only [numA]
  have F := And.intro hz (True.intro)
  refine callsA_body Try.func97 rfl rfl rfl ?_; refine sr fun _ hJ2 => ?_; refine hJ2 _ _ ?_; refine sq fun K3 hK3 => ?_; refine sr fun _ hJ5 => ?_; refine hJ5 _ _ ?_; refine cs (fun c8 => ?_) (fun c8 => ?_)
  · (try exact nope c8); all_goals have c8p := c8; try simp [F] at c8p
    all_goals
     replace F := aF c8 F; try replace F := aF c8p F
     have hx0 : x = 0 := by have h := c8; simpa using h
     have hE0 : E = none := by rw [hE, enc, if_pos hx0]
     refine sr fun _ hJ7 => ?_; refine ca (c := hde _) (k := ?_); rintro _ _ ⟨G', e0, rfl, rfl⟩; (repeat (first | simp [F] | simp (disch := omega) only [wC, if_pos, if_neg])); refine hJ7 _ _ ?_; refine run_ret ?_; (try simp only [Then, InBlock, NoGoto, if_true]); refine answer_none rfl (.inr rfl) ?_
     obtain ⟨gs, a1, a2, a3⟩ := G'
     simp only at e0
     rw [← hE0] at e0
     subst e0
     refine ⟨(a1, a2, a3), ?_⟩
     rw [hpa]
     exact gcr
  (try exact nope c8); all_goals have c8p := c8; try simp [F] at c8p
  all_goals
   replace F := aF c8 F; try replace F := aF c8p F
   have hx0 : ¬ x = 0 := by have h := c8; simpa using h
   have hE0 : E = some B := by rw [hE, enc, if_neg hx0, hB]
   refine run_skip ?_; refine hK3 _ _ ?_; refine rg' (h := fun J8 hJ8 => ?_); refine ca (c := hby _) (k := ?_); rintro _ _ ⟨rfl, rfl⟩; (repeat (first | simp [F] | simp (disch := omega) only [wC, if_pos, if_neg])); refine ca (c := hse _) (k := ?_); rintro _ _ ⟨G', e0, rfl, rfl⟩; (repeat (first | simp [F] | simp (disch := omega) only [wC, if_pos, if_neg])); refine hJ8 _ _ ?_; (try simp only [Then, InBlock, NoGoto, if_true]); refine answer_none rfl (.inl rfl) ?_
   obtain ⟨gs, a1, a2, a3⟩ := G'
   simp only at e0
   rw [← hE0] at e0
   subst e0
   refine ⟨(a1, a2, a3), ?_⟩
   rw [hpa]
   exact gcr

set_option maxHeartbeats 1600000 in
attribute [local simp] undefA List.getElem?_cons_zero List.getElem?_cons_succ drop_mr lsA_nil lsT_nil lsZ_nil lsL_nil gcO_ls noObj_ls kysC_noObj bytes_noObj in
theorem list_ok2 {σ : St} {o k n : Nat} {G : Sg} {T : Tb} {O : Option UInt8} {t : Tail} (h : HasS σ o k G) (hi : BankS G.s T n) (hn : n ≤ 100000) :
    CallsA Try.prog 54 [.ptr o 0, .sl 1 (bytesA (kk O)) (kk O).length t] σ (fun av σ' => av = .sl 5 (coinsC (T O)) (T O).length .shut ∧ σ = σ') := by
  refine callsA_gcS ?_ (by simp [AV.under])
  have hkl0 := kk_len O
  have hke := keys_ok (p := kk O) (t := t) h hi.ok (by omega)
  have hkl : keysL G.s.l (kk O) = (T O).map fun c => key O c.d := by rw [keysL_filter hi.ok.srt]; show (pl G.s.l (kk O)).map (·.k) = _; rw [hi.pl, List.map_map]; rfl
  rw [hkl, List.length_map] at hke
  have hol := lt_of_get h.o
  have hRt := hi.rt O
  have h8 := right_len hRt
  obtain ⟨L, hL⟩ : ∃ L, L = T O := ⟨_, rfl⟩
  have hva : ∀ (j : Nat) (hj : j < L.length) tk, CallsA Try.prog 52 [.ptr o 0, .sl 1 (bytesA (key O L[j].d)) (key O L[j].d).length .shut] { σ with toks := tk } (fun av σ' => av = .agg (numA L[j].n.v) ∧ { σ with toks := tk } = σ') := fun j hj tk => by
    subst hL
    have hg := hi.gt O (T O)[j].d
    rw [amt_mem hRt.2 (List.getElem_mem hj)] at hg
    exact read_ok2 (by simpa using h.app [] tk) hi.ok (by omega) hg (T O)[j].n.h
  rw [← hL] at hke h8 hRt ⊢
  obtain ⟨K, hK⟩ : ∃ K, K = L.map fun c => key O c.d := ⟨_, rfl⟩
  have hKl : K.length = L.length := by rw [hK, List.length_map]
  rw [← hK] at hke
  have hkc := kysC_len K
  rw [hKl] at hkc
  have hap : ∀ (O : List Coin) (x : Coin) objs, O.length ≤ 1000000 → appendA Try.prog 29 (lsA σ.toks.length 5 (coinsC O) O.length) (.sl 5 (coinC x) 1 .full) ⟨objs, σ.toks ++ lsT O.length, σ.gl, σ.rows⟩ = some (lsA σ.toks.length 5 (coinsC (O ++ [x])) (O.length + 1), ⟨objs, σ.toks ++ lsT (O.length + 1), σ.gl, σ.rows⟩) := fun O x objs hO => by
    rw [← coinsC_snoc]
    exact append_ls elemT_29 ti_93 (by decide) rfl (fun h => by rw [List.eq_nil_of_length_eq_zero h]; rfl) rfl (by omega) (by simp only [roomA]; omega) (by simp only [maxLen]; omega)
  have F := And.intro hol (And.intro hkc (And.intro hKl (True.intro)))
  refine callsA_body Try.func54 rfl rfl rfl ?_; refine sr fun _ hJ2 => ?_; refine hJ2 _ _ ?_; refine sr fun _ hJ4 => ?_; refine hJ4 _ _ ?_; refine sq fun K5 hK5 => ?_; refine sr fun _ hJ7 => ?_; refine ca (c := hke) (k := ?_); rintro _ _ ⟨rfl, rfl⟩; (repeat (first | simp [F] | simp (disch := omega) only [wC, if_pos, if_neg])); refine hJ7 _ _ ?_; refine run_block_k ?_; refine run_loopF (X := Nat) [0, 4, 10, 11] (fun j ρ σ1 => (j ≤ L.length) ∧ (ρ 12 = .v (.int .i64 j)) ∧ (ρ 5 = lsA σ.toks.length 5 (coinsC (L.take j)) j) ∧ (σ1 = { σ with toks := σ.toks ++ lsT j })) (fun j => L.length - j) (0) ?st1 ?rd1
  case st1 =>
   refine ⟨lp, lp, lp, ?_⟩
   · simp [lsT_nil]
  case rd1 =>
   rintro j ρ1 σ1 hF1 ⟨h1, h16, h7, hσ⟩; obtain rfl := hσ.symm
   have f1 := keepL hF1
   (try simp [KeepL, F] at f1); replace F := aF h16 F; replace F := aF h7 F; (try replace F := aF f1 F); refine sr fun _ hJ9 => ?_; refine hJ9 _ _ ?_; refine sq fun K10 hK10 => ?_; refine cs (fun c13 => ?_) (fun c13 => ?_)
   · (try exact nope c13); all_goals have c13p := c13; try simp [F] at c13p
     all_goals
      replace F := aF c13 F; try replace F := aF c13p F
      have hlt : j < L.length := by have h := c13; simp at h; omega
      obtain ⟨x, hx⟩ : ∃ x, x = key O L[j].d := ⟨_, rfl⟩
      have hxl := key_len O L[j].d
      rw [← hx] at hxl
      have hgK : ∀ h : j < (kysC K).length, (kysC K)[j]'h = .sl 1 (bytesA x) x.length .shut := fun h => by rw [kysC_ix (by omega) h]; simp only [hK, List.getElem_map, hx]
      have hv1 := hva j hlt
      rw [← hx] at hv1
      have hj1 : j + 1 ≤ L.length := hlt
      have hbl : (bytesA x).length = x.length := by simp
      have hlast : ∀ h2 : x.length - 1 < (bytesA x).length, (bytesA x)[x.length - 1]'h2 = .v (.int .u8 (L[j].d.toNat : Nat)) := fun h2 => by
        have e : (bytesA x)[x.length - 1]? = some (.v (.int .u8 (L[j].d.toNat : Nat))) := by rw [hx]; cases O <;> rfl
        exact (List.getElem?_eq_some_iff.1 e).2
      have hsub : IntKind.i64.wrap ((x.length : Int) - 1) = ((x.length - 1 : Nat) : Int) := by rw [wrap_i64 _ (by omega) (by omega)]; omega
      have hx1 : x.length - 1 < x.length := by omega
      have hx0 : (0 : Int) ≤ (x.length - 1 : Nat) := by omega
      have hTj : (L.take j).length = j := by rw [List.length_take]; omega
      have hta : L.take j ++ [L[j]] = L.take (j + 1) := List.take_append_getElem hlt
      have hap0 := fun objs => hap (L.take j) L[j] objs (by omega)
      simp only [hta, hTj] at hap0
      have hcc : AV.v (.int .u8 (L[j].d.toNat : Nat)) :: numA L[j].n.v = coinC L[j] := rfl
      have hnl : (numA L[j].n.v).length = 4 := rfl
      have hec : (coinC L[j]).length = 5 := rfl
      have hnc : (∀ x, x ∈ numA L[j].n.v → x.isCell = true) = True := eq_true (fun x hx => by simp only [numA, List.mem_cons, List.not_mem_nil, or_false] at hx; rcases hx with rfl | rfl | rfl | rfl <;> rfl)
      have hcl : (∀ x, x ∈ coinC L[j] → x.isCell = true) = True := eq_true (fun x hx => by simp only [coinC, numA, List.mem_cons, List.not_mem_nil, or_false] at hx; rcases hx with rfl | rfl | rfl | rfl | rfl <;> rfl)
      obtain ⟨N, hN⟩ : ∃ N, N = numA L[j].n.v := ⟨_, rfl⟩
      obtain ⟨Q, hQ⟩ : ∃ Q, Q = coinC L[j] := ⟨_, rfl⟩
      rw [← hN] at hnl hnc
      rw [← hQ] at hec hcl
      rw [← hN, ← hQ] at hcc
      simp only [← hN] at hv1
      simp only [← hQ] at hap0
      simp only [AV.isCell] at hcl hnc
      have hap1 : ∀ objs, appendA Try.prog 29 (lsA σ.toks.length 5 (coinsC (L.take j)) j) (.sl 5 (AV.v (.int .u8 (L[j].d.toNat : Nat)) :: N) 1 .full) ⟨objs, σ.toks ++ lsT j, σ.gl, σ.rows⟩ = some (lsA σ.toks.length 5 (coinsC (L.take (j + 1))) (j + 1), ⟨objs, σ.toks ++ lsT (j + 1), σ.gl, σ.rows⟩) := fun objs => by rw [hcc]; exact hap0 objs
      replace F := aF hlt (And.intro hgK (And.intro hj1 (And.intro hbl (And.intro hlast (And.intro hsub (And.intro hx1 (And.intro hx0 (And.intro hnl (And.intro hnc (And.intro hap1 F)))))))))); refine run_skip ?_; refine hK10 _ _ ?_; refine sq fun K11 hK11 => ?_; refine run_block_k ?_; refine sr fun _ hJ13 => ?_; refine hJ13 _ _ ?_
      refine run_draw (by kernel_rfl) fun J14 hJ14 => ?_
      refine rp2 0 (k := ?_); refine rp2 1 (k := ?_); refine rp2 2 (k := ?_); refine rp2 3 (k := ?_); refine rp2 4 (k := ?_); refine rp2 5 (k := ?_); refine rp2 6 (k := ?_); refine rp2 7 (k := ?_); refine rp2 8 (k := ?_); refine dc 9 rfl (c := hv1 _) (k := ?_); rintro _ _ ⟨rfl, rfl⟩
      refine ⟨by first | exact fun _ _ h => h | (refine later_list [6, 5, 4, 3, 2, 1, 0] (by kernel_rfl) (List.forall_mem_cons.2 ⟨fun _ => fact2 rfl rfl ?_, List.forall_mem_cons.2 ⟨fun _ => fact2 rfl rfl ?_, List.forall_mem_cons.2 ⟨fun _ => fact2 rfl rfl ?_, List.forall_mem_cons.2 ⟨fun _ => fact2 rfl rfl ?_, List.forall_mem_cons.2 ⟨fun _ => fact2 rfl rfl ?_, List.forall_mem_cons.2 ⟨fun _ => fact2 rfl rfl ?_, List.forall_mem_cons.2 ⟨fun _ => fact2 rfl rfl ?_, fun _ h => absurd h List.not_mem_nil⟩⟩⟩⟩⟩⟩⟩) <;> constructor <;> first | rfl | (simp [F]; done)), ?_⟩
      (repeat (first | simp [F] | simp (disch := omega) only [wC, if_pos, if_neg])); refine rp2 10 (k := ?_); refine rp2 11 (k := ?_); refine dop 12 rfl ?_; repeat (first | simp [F] | simp (disch := omega) only [wC, if_pos, if_neg])
      refine ⟨by first | exact fun _ _ h => h | (refine later_list [10, 6, 5, 4, 3, 2, 1] (by kernel_rfl) (List.forall_mem_cons.2 ⟨fun _ => fact2 rfl rfl ?_, List.forall_mem_cons.2 ⟨fun _ => fact2 rfl rfl ?_, List.forall_mem_cons.2 ⟨fun _ => fact2 rfl rfl ?_, List.forall_mem_cons.2 ⟨fun _ => fact2 rfl rfl ?_, List.forall_mem_cons.2 ⟨fun _ => fact2 rfl rfl ?_, List.forall_mem_cons.2 ⟨fun _ => fact2 rfl rfl ?_, List.forall_mem_cons.2 ⟨fun _ => fact2 rfl rfl ?_, fun _ h => absurd h List.not_mem_nil⟩⟩⟩⟩⟩⟩⟩) <;> constructor <;> first | rfl | (simp [F]; done)), ?_⟩
      refine dop 13 rfl ?_; (repeat (first | simp [F] | simp (disch := omega) only [wC, if_pos, if_neg])); (try refine ⟨ln, ?_⟩); refine dd ?_; refine hJ14 _ _ ?_; refine hK11 _ _ ?_; refine rg' (h := fun J15 hJ15 => ?_); refine hJ15 _ _ ?_; refine ⟨(j + 1), ⟨kp, lp, lp, lp, lp⟩, lp⟩
   (try exact nope c13); all_goals have c13p := c13; try simp [F] at c13p
   all_goals
    replace F := aF c13 F; try replace F := aF c13p F
    have hje : L.take j = L := List.take_of_length_le (by have h := c13; simp at h; omega)
    have hjl : j = L.length := by have h := c13; simp at h; omega
    have hwk := lsA_wk (k := σ.toks.length) (sz := 5) (n := j) (cs := coinsC L) (fun h => by rw [List.eq_nil_of_length_eq_zero (l := L) (by omega)]; rfl)
    refine run_exit ?_; refine hK5 _ _ ?_; refine sr fun _ hJ17 => ?_; refine hJ17 _ _ ?_; refine ra ?_
    rw [hje] at h7
    rw [← hjl]
    exact gcr (hA := by simp only [putA_get]; simp [F]; rw [hje]; exact hwk)
def isB (a : UInt8) : Bool := decide (a.toNat < 200) || (decide (200 ≤ a.toNat) && decide (a.toNat ≤ 204))
set_option maxHeartbeats 1600000 in
attribute [local simp] undefA List.getElem?_cons_zero List.getElem?_cons_succ in
theorem is_ok {σ : St} {a : UInt8} : CallsA Try.prog 23 [.v (.int .u8 a.toNat)] σ (fun av σ' => av = .v (.bool (isB a)) ∧ σ = σ') := by
  obtain ⟨B, hB⟩ : ∃ B, B = isB a := ⟨_, rfl⟩
  rw [← hB]
  have F := True.intro
  refine callsA_body Try.func23 rfl rfl rfl ?_; refine sr fun _ hJ2 => ?_; refine hJ2 _ _ ?_; refine sr fun _ hJ4 => ?_; refine gs 5 (fun g1_2 => ?_) (fun g1_2 => ?_)
  · (try exact nope g1_2); all_goals have g1_2p := g1_2; try simp [F] at g1_2p
    all_goals
     replace F := aF g1_2 F; try replace F := aF g1_2p F
     have h1 : a.toNat < 200 := by have h := g1_2; simp at h; omega
     have hb : B = true := by rw [hB, isB, decide_eq_true h1]; rfl
     replace F := aF hb F; (iterate 6 refine no2 (k := ?_)); refine hJ4 _ _ ?_; refine ra ?_; exact rt
  (try exact nope g1_2); all_goals have g1_2p := g1_2; try simp [F] at g1_2p
  all_goals
   replace F := aF g1_2 F; try replace F := aF g1_2p F
   have h1 : ¬ a.toNat < 200 := by have h := g1_2; simp at h; omega
   have hb : decide ((a.toNat : Int) ≤ 204) = B := by rw [hB, isB, decide_eq_false h1, decide_eq_true (by omega : 200 ≤ a.toNat)]; simp; omega
   have hb2 : decide (a.toNat ≤ 204) = B := by rw [hB, isB, decide_eq_false h1, decide_eq_true (by omega : 200 ≤ a.toNat)]; simp
   replace F := aF hb2 F
   have h2 : 200 ≤ a.toNat := by omega
   have h3 : (200 : Int) ≤ (a.toNat : Int) := by omega
   replace F := aF hb (And.intro h2 (And.intro h3 F)); (iterate 3 refine go2 (k := ?_)); refine gs 8 (fun g1_5 => ?_) (fun g1_5 => ?_)
   · (try exact nope g1_5); all_goals have g1_5p := g1_5; try simp [F] at g1_5p
     all_goals
      replace F := aF g1_5 F; (try replace F := aF g1_5p F); (iterate 3 refine go2 (k := ?_)); refine hJ4 _ _ ?_; refine ra ?_; exact rt
   (try exact nope g1_5); all_goals have g1_5p := g1_5; try simp [F] at g1_5p
   all_goals
    replace F := aF g1_5 F; (try replace F := aF g1_5p F); (iterate 2 refine no2 (k := ?_)); refine go2 (k := ?_); refine hJ4 _ _ ?_; refine ra ?_; exact rt
set_option maxHeartbeats 1600000 in
attribute [local simp] undefA List.getElem?_cons_zero List.getElem?_cons_succ in
theorem ris_ok {σ : St} {a : UInt8} : CallsA Try.prog 24 [.v (.int .u8 a.toNat)] σ (fun av σ' => av = .v (.bool (isB a)) ∧ σ = σ') := by
  obtain ⟨B, hB⟩ : ∃ B, B = isB a := ⟨_, rfl⟩
  rw [← hB]
  have F := True.intro
  refine callsA_body Try.func24 rfl rfl rfl ?_; refine sr fun _ hJ2 => ?_; refine hJ2 _ _ ?_; refine sr fun _ hJ4 => ?_; refine gs 5 (fun g1_2 => ?_) (fun g1_2 => ?_)
  · (try exact nope g1_2); all_goals have g1_2p := g1_2; try simp [F] at g1_2p
    all_goals
     replace F := aF g1_2 F; try replace F := aF g1_2p F
     have h1 : a.toNat < 200 := by have h := g1_2; simp at h; omega
     have hb : B = true := by rw [hB, isB, decide_eq_true h1]; rfl
     replace F := aF hb F; (iterate 6 refine no2 (k := ?_)); refine hJ4 _ _ ?_; refine ra ?_; exact rt
  (try exact nope g1_2); all_goals have g1_2p := g1_2; try simp [F] at g1_2p
  all_goals
   replace F := aF g1_2 F; try replace F := aF g1_2p F
   have h1 : ¬ a.toNat < 200 := by have h := g1_2; simp at h; omega
   have hb : decide ((a.toNat : Int) ≤ 204) = B := by rw [hB, isB, decide_eq_false h1, decide_eq_true (by omega : 200 ≤ a.toNat)]; simp; omega
   have hb2 : decide (a.toNat ≤ 204) = B := by rw [hB, isB, decide_eq_false h1, decide_eq_true (by omega : 200 ≤ a.toNat)]; simp
   replace F := aF hb2 F
   have h2 : 200 ≤ a.toNat := by omega
   have h3 : (200 : Int) ≤ (a.toNat : Int) := by omega
   replace F := aF hb (And.intro h2 (And.intro h3 F)); (iterate 3 refine go2 (k := ?_)); refine gs 8 (fun g1_5 => ?_) (fun g1_5 => ?_)
   · (try exact nope g1_5); all_goals have g1_5p := g1_5; try simp [F] at g1_5p
     all_goals
      replace F := aF g1_5 F; (try replace F := aF g1_5p F); (iterate 3 refine go2 (k := ?_)); refine hJ4 _ _ ?_; refine ra ?_; exact rt
   (try exact nope g1_5); all_goals have g1_5p := g1_5; try simp [F] at g1_5p
   all_goals
    replace F := aF g1_5 F; (try replace F := aF g1_5p F); (iterate 2 refine no2 (k := ?_)); refine go2 (k := ?_); refine hJ4 _ _ ?_; refine ra ?_; exact rt

set_option maxHeartbeats 1600000 in
attribute [local simp] undefA List.getElem?_cons_zero List.getElem?_cons_succ in
theorem coinsB_ok {σ : St} {o k n : Nat} {G : Sg} {T : Tb} {a : UInt8} (h : HasS σ o k G) (hi : BankS G.s T n) (hn : n ≤ 100000) :
    CallsA Try.prog 22 [.ptr o 0, .v (.int .u8 a.toNat)] σ (fun av σ' => av = .sl 5 (coinsC (T (some a))) (T (some a)).length .shut ∧ σ = σ') := by
  have hl : CallsA Try.prog 54 [.ptr o 0, .sl 1 [.v (.int .u8 98), .v (.int .u8 a.toNat)] 2 .full] σ _ := list_ok2 (O := some a) (t := .full) h hi hn
  have F := True.intro
  refine callsA_body Try.func22 rfl rfl rfl ?_; refine sr fun _ hJ2 => ?_; refine hJ2 _ _ ?_; refine sr fun _ hJ4 => ?_; refine ca (c := hl) (k := ?_); rintro _ _ ⟨rfl, rfl⟩; (repeat (first | simp [F] | simp (disch := omega) only [wC, if_pos, if_neg])); refine hJ4 _ _ ?_; refine ra ?_; exact rt
set_option maxHeartbeats 1600000 in
attribute [local simp] undefA List.getElem?_cons_zero List.getElem?_cons_succ in
theorem supply_ok {σ : St} {o k n : Nat} {G : Sg} {T : Tb} (h : HasS σ o k G) (hi : BankS G.s T n) (hn : n ≤ 100000) :
    CallsA Try.prog 31 [.ptr o 0] σ (fun av σ' => av = .sl 5 (coinsC (T none)) (T none).length .shut ∧ σ = σ') := by
  have hl : CallsA Try.prog 54 [.ptr o 0, .sl 1 [.v (.int .u8 115)] 1 .full] σ _ := list_ok2 (O := none) (t := .full) h hi hn
  have F := True.intro
  refine callsA_body Try.func31 rfl rfl rfl ?_; refine sr fun _ hJ2 => ?_; refine hJ2 _ _ ?_; refine sr fun _ hJ4 => ?_; refine ca (c := hl) (k := ?_); rintro _ _ ⟨rfl, rfl⟩; (repeat (first | simp [F] | simp (disch := omega) only [wC, if_pos, if_neg])); refine hJ4 _ _ ?_; refine ra ?_; exact rt
set_option maxHeartbeats 1600000 in
attribute [local simp] undefA List.getElem?_cons_zero List.getElem?_cons_succ in
theorem balance_ok {σ : St} {o k n : Nat} {G : Sg} {T : Tb} {a d : UInt8} (h : HasS σ o k G) (hi : BankS G.s T n) (hn : n ≤ 100000) :
    CallsA Try.prog 18 [.ptr o 0, .v (.int .u8 a.toNat), .v (.int .u8 d.toNat)] σ (fun av σ' => av = .agg (numA (amt (T (some a)) d.toNat)) ∧ σ = σ') := by
  refine callsA_gcS ?_ rfl
  obtain ⟨x, hx⟩ : ∃ x, x = amt (T (some a)) d.toNat := ⟨_, rfl⟩
  have hg := hi.gt (some a) d
  rw [← hx] at hg
  have hr : ∀ l, CallsA Try.prog 52 [.ptr o 0, .sl 1 [.v (.int .u8 98), .v (.int .u8 a.toNat), .v (.int .u8 d.toNat)] 3 .full] { σ with objs := σ.objs ++ l } _ := fun l => read_ok2 (K := key (some a) d) (t := .full) (h.app l σ.toks) hi.ok (by omega) hg (by rw [hx]; exact amt_lt _ _)
  rw [← hx]
  simp only [numA] at hr ⊢
  have F := True.intro
  refine callsA_body Try.func18 rfl rfl rfl ?_; refine sr fun _ hJ2 => ?_; refine hJ2 _ _ ?_; refine sr fun _ hJ4 => ?_; refine ca (c := hr _) (k := ?_); rintro _ _ ⟨rfl, rfl⟩; (repeat (first | simp [F] | simp (disch := omega) only [wC, if_pos, if_neg])); refine hJ4 _ _ ?_; refine run_ret ?_; (try simp only [Then, InBlock, NoGoto]); refine acell (h := ?_); exact gcr

set_option maxHeartbeats 1600000 in
attribute [local simp] undefA List.getElem?_cons_zero List.getElem?_cons_succ in
theorem may1_ok {σ : St} {o : Nat} {l : List Coin} {a : UInt8} (hl : l.length ≤ 9223372036854775807) :
    CallsA Try.prog 60 [.ptr o 0, .sl 5 (coinsC l) l.length .shut, .sl 1 [.v (.int .u8 a.toNat)] 1 .full] σ (fun av σ' => av = .v (.bool (isB a && decide (Right l))) ∧ σ = σ') := by
  obtain ⟨B, hB⟩ : ∃ B, B = (isB a && decide (Right l)) := ⟨_, rfl⟩
  rw [← hB]
  have hr := right_ok (σ := σ) (tl := .shut) hl
  have hz := is_ok (σ := σ) (a := a)
  have F := True.intro
  refine callsA_body Try.func60 rfl rfl rfl ?_; refine sr fun _ hJ2 => ?_; refine hJ2 _ _ ?_; refine sq fun K3 hK3 => ?_; refine sr fun _ hJ5 => ?_; refine hJ5 _ _ ?_; refine run_block_k ?_; refine run_loopF (X := Nat) [0, 1, 9, 10] (fun j ρ σ1 => (j ≤ 1) ∧ (0 < j → isB a = true) ∧ (ρ 11 = .v (.int .i64 j)) ∧ (σ1 = σ)) (fun j => 1 - j) (0) ?st1 ?rd1
  case st1 =>
   refine ⟨lp, ?_, lp, lp⟩
   · intro h
     omega
  case rd1 =>
   rintro j ρ1 σ1 hF1 ⟨h1, h2, h3, hσ⟩; obtain rfl := hσ.symm
   have f1 := keepL hF1
   (try simp [KeepL, F] at f1); replace F := aF h3 F; (try replace F := aF f1 F); refine sr fun _ hJ7 => ?_; refine hJ7 _ _ ?_; refine sq fun K8 hK8 => ?_; refine cs (fun c12 => ?_) (fun c12 => ?_)
   · (try exact nope c12); all_goals have c12p := c12; try simp [F] at c12p
     all_goals
      replace F := aF c12 F; try replace F := aF c12p F
      have hj : j = 0 := by have h := c12; simp at h; omega
      subst hj
      refine run_skip ?_; refine hK8 _ _ ?_; refine sq fun K9 hK9 => ?_; refine run_block_k ?_; refine sr fun _ hJ11 => ?_; refine hJ11 _ _ ?_; refine sr fun _ hJ13 => ?_; refine ca (c := hz) (k := ?_); rintro _ _ ⟨rfl, rfl⟩; (repeat (first | simp [F] | simp (disch := omega) only [wC, if_pos, if_neg])); refine hJ13 _ _ ?_; refine cs (fun c17 => ?_) (fun c17 => ?_)
      · (try exact nope c17); all_goals have c17p := c17; try simp [F] at c17p
        all_goals
         replace F := aF c17 F; try replace F := aF c17p F
         have hb : B = false := by rw [hB]; have h := c17; simp at h; rw [h]; rfl
         replace F := aF hb F; refine sr fun _ hJ15 => ?_; refine hJ15 _ _ ?_; refine ra ?_; exact rt
      (try exact nope c17); all_goals have c17p := c17; try simp [F] at c17p
      all_goals
       replace F := aF c17 F; (try replace F := aF c17p F); refine run_skip ?_; refine hK9 _ _ ?_; refine rg' (h := fun J16 hJ16 => ?_); refine hJ16 _ _ ?_; refine ⟨(1), ⟨kp, lp, ?_, lp, lp⟩, lp⟩
       · intro _
         simpa using c17
   (try exact nope c12); all_goals have c12p := c12; try simp [F] at c12p
   all_goals
    replace F := aF c12 F; try replace F := aF c12p F
    have hj : j = 1 := by have h := c12; simp at h; omega
    have hia := h2 (by omega)
    have hb : B = decide (Right l) := by rw [hB, hia]; rfl
    replace F := aF hb F; refine run_exit ?_; refine hK3 _ _ ?_; refine sr fun _ hJ18 => ?_; refine go2 (k := ?_); refine ca (c := hr) (k := ?_); rintro _ _ ⟨rfl, rfl⟩; (repeat (first | simp [F] | simp (disch := omega) only [wC, if_pos, if_neg])); refine hJ18 _ _ ?_; refine ra ?_; exact rt
set_option maxHeartbeats 1600000 in
attribute [local simp] undefA List.getElem?_cons_zero List.getElem?_cons_succ in
theorem may2_ok {σ : St} {o : Nat} {l : List Coin} {a b : UInt8} (hl : l.length ≤ 9223372036854775807) :
    CallsA Try.prog 60 [.ptr o 0, .sl 5 (coinsC l) l.length .shut, .sl 1 [.v (.int .u8 a.toNat), .v (.int .u8 b.toNat)] 2 .full] σ (fun av σ' => av = .v (.bool (isB a && isB b && decide (Right l))) ∧ σ = σ') := by
  obtain ⟨B, hB⟩ : ∃ B, B = (isB a && isB b && decide (Right l)) := ⟨_, rfl⟩
  rw [← hB]
  have hr := right_ok (σ := σ) (tl := .shut) hl
  obtain ⟨A, hA⟩ : ∃ A : Nat → UInt8, A = fun j => if j = 0 then a else b := ⟨_, rfl⟩
  have hz := fun j => is_ok (σ := σ) (a := A j)
  have hAat : ∀ j, j < 2 → ∀ h2 : j < [AV.v (.int .u8 a.toNat), AV.v (.int .u8 b.toNat)].length, [AV.v (.int .u8 a.toNat), AV.v (.int .u8 b.toNat)][j]'h2 = .v (.int .u8 ((A j).toNat : Nat)) := fun j hj h2 => by
    rcases (by omega : j = 0 ∨ j = 1) with rfl | rfl <;> (rw [hA]; rfl)
  obtain ⟨C, hC⟩ : ∃ C, C = [AV.v (.int .u8 a.toNat), AV.v (.int .u8 b.toNat)] := ⟨_, rfl⟩
  have hCl : C.length = 2 := by rw [hC]; rfl
  rw [← hC] at hAat ⊢
  have F := And.intro hCl (True.intro)
  refine callsA_body Try.func60 rfl rfl rfl ?_; refine sr fun _ hJ2 => ?_; refine hJ2 _ _ ?_; refine sq fun K3 hK3 => ?_; refine sr fun _ hJ5 => ?_; refine hJ5 _ _ ?_; refine run_block_k ?_; refine run_loopF (X := Nat) [0, 1, 9, 10] (fun j ρ σ1 => (j ≤ 2) ∧ (∀ i, i < j → isB (A i) = true) ∧ (ρ 11 = .v (.int .i64 j)) ∧ (σ1 = σ)) (fun j => 2 - j) (0) ?st1 ?rd1
  case st1 =>
   refine ⟨lp, ?_, lp, lp⟩
   · intro i h
     omega
  case rd1 =>
   rintro j ρ1 σ1 hF1 ⟨h1, h2, h3, hσ⟩; obtain rfl := hσ.symm
   have f1 := keepL hF1
   (try simp [KeepL, F] at f1); replace F := aF h3 F; (try replace F := aF f1 F); refine sr fun _ hJ7 => ?_; refine hJ7 _ _ ?_; refine sq fun K8 hK8 => ?_; refine cs (fun c12 => ?_) (fun c12 => ?_)
   · (try exact nope c12); all_goals have c12p := c12; try simp [F] at c12p
     all_goals
      replace F := aF c12 F; try replace F := aF c12p F
      have hj : j < 2 := by have h := c12; simp at h; omega
      have e1 := hAat j hj
      have hj1 : j + 1 ≤ 2 := hj
      have hwi : IntKind.i64.wrap ((j : Int) + 1) = (j : Int) + 1 := wrap_i64 _ (by omega) (by omega)
      replace F := aF hj (And.intro e1 (And.intro hj1 (And.intro hwi F))); refine run_skip ?_; refine hK8 _ _ ?_; refine sq fun K9 hK9 => ?_; refine run_block_k ?_; refine sr fun _ hJ11 => ?_; refine hJ11 _ _ ?_; refine sr fun _ hJ13 => ?_; refine ca (c := hz j) (k := ?_); rintro _ _ ⟨rfl, rfl⟩; (repeat (first | simp [F] | simp (disch := omega) only [wC, if_pos, if_neg])); refine hJ13 _ _ ?_; refine cs (fun c17 => ?_) (fun c17 => ?_)
      · (try exact nope c17); all_goals have c17p := c17; try simp [F] at c17p
        all_goals
         replace F := aF c17 F; try replace F := aF c17p F
         have hb : B = false := by
           have h := c17; simp at h; rw [hB]; rcases (by omega : j = 0 ∨ j = 1) with rfl | rfl
           · have h5 : isB a = false := by simpa [hA] using h
             rw [h5]; rfl
           · have h5 : isB b = false := by simpa [hA] using h
             rw [h5]; simp
         replace F := aF hb F; refine sr fun _ hJ15 => ?_; refine hJ15 _ _ ?_; refine ra ?_; exact rt
      (try exact nope c17); all_goals have c17p := c17; try simp [F] at c17p
      all_goals
       replace F := aF c17 F; (try replace F := aF c17p F); refine run_skip ?_; refine hK9 _ _ ?_; refine rg' (h := fun J16 hJ16 => ?_); refine hJ16 _ _ ?_; refine ⟨(j + 1), ⟨kp, lp, ?_, lp, lp⟩, lp⟩
       · intro i hi
         by_cases e : i = j
         · rw [e]; simpa using c17
         · exact h2 i (by omega)
   (try exact nope c12); all_goals have c12p := c12; try simp [F] at c12p
   all_goals
    replace F := aF c12 F; try replace F := aF c12p F
    have hj : j = 2 := by have h := c12; simp at h; omega
    have hia : isB a = true := by have := h2 0 (by omega); simpa [hA] using this
    have hib : isB b = true := by have := h2 1 (by omega); simpa [hA] using this
    have hb : B = decide (Right l) := by rw [hB, hia, hib]; rfl
    replace F := aF hb F; refine run_exit ?_; refine hK3 _ _ ?_; refine sr fun _ hJ18 => ?_; refine go2 (k := ?_); refine ca (c := hr) (k := ?_); rintro _ _ ⟨rfl, rfl⟩; (repeat (first | simp [F] | simp (disch := omega) only [wC, if_pos, if_neg])); refine hJ18 _ _ ?_; refine ra ?_; exact rt
def gB (σ : St) (o k : Nat) (G : Sg) (l : List (List AV)) (t : List Nat) : St := putS { σ with objs := σ.objs ++ l, toks := σ.toks ++ t } o k G
theorem gB.has {σ : St} {o k : Nat} {G0 : Sg} (h : HasS σ o k G0) (G : Sg) (l : List (List AV)) (t : List Nat) : HasS (gB σ o k G l t) o k G := (h.app l (σ.toks ++ t)).put G
theorem gB.put (σ : St) (o k : Nat) (G G' : Sg) (l : List (List AV)) (t : List Nat) : putS (gB σ o k G l t) o k G' = gB σ o k G' l t := putS_put _ _ _ _ _
theorem gB.len (σ : St) (o k : Nat) (G : Sg) (l : List (List AV)) (t : List Nat) : (gB σ o k G l t).objs.length = σ.objs.length + l.length := by simp [gB, putS]
theorem gB.app {σ : St} {o k : Nat} {G0 : Sg} (h : HasS σ o k G0) (G : Sg) (l : List (List AV)) (t : List Nat) (x : List AV) (y : Nat) : { gB σ o k G l t with objs := (gB σ o k G l t).objs ++ [x], toks := (gB σ o k G l t).toks ++ [y] } = gB σ o k G (l ++ [x]) (t ++ [y]) := by
  have hl := lt_of_get h.o
  simp only [gB, putS]
  rw [← List.append_assoc, ← List.append_assoc, List.set_append_left _ _ (by simp; omega : o < (σ.objs ++ l).length)]
theorem gB.app1 {σ : St} {o k : Nat} {G0 : Sg} (h : HasS σ o k G0) (G : Sg) (l : List (List AV)) (t : List Nat) (x : List AV) : { gB σ o k G l t with objs := (gB σ o k G l t).objs ++ [x] } = gB σ o k G (l ++ [x]) t := by
  have hl := lt_of_get h.o
  simp only [gB, putS]
  rw [← List.append_assoc, List.set_append_left _ _ (by simp; omega : o < (σ.objs ++ l).length)]
theorem gB.get {σ : St} {o k : Nat} {G0 : Sg} (h : HasS σ o k G0) (G : Sg) (l m : List (List AV)) (t : List Nat) (x : List AV) : (gB σ o k G (l ++ x :: m) t).objs[σ.objs.length + l.length]? = some x := by
  have hl := lt_of_get h.o
  simp only [gB, putS]
  rw [List.getElem?_set_ne (by omega), List.getElem?_append_right (by omega), Nat.add_sub_cancel_left, List.getElem?_append_right (Nat.le_refl _), Nat.sub_self]; rfl
theorem gB.self {σ : St} {o k : Nat} {G : Sg} (h : HasS σ o k G) : gB σ o k G [] [] = σ := by
  simp only [gB, List.append_nil]; exact putS_self h
theorem gB.fin {σ : St} {o k : Nat} {G0 : Sg} (h : HasS σ o k G0) (G : Sg) (l : List (List AV)) (t : List Nat) : gB σ o k G l t = { putS σ o k G with objs := (putS σ o k G).objs ++ l, toks := σ.toks ++ t } := putS_at h l (σ.toks ++ t) G

theorem app_b1 {K : List UInt8} {tl : Tail} (hl : K.length ≤ 1000) (objs : List (List AV)) (tk : List Nat) (gl : Nat → Option (List AV)) (rows : List RowSt) : appendA Try.prog 109 (.sl 0 [] 0 .full) (.sl 1 (bytesA K) K.length tl) ⟨objs, tk, gl, rows⟩ = some (.sl 1 (bytesA K) K.length (.own tk.length), ⟨objs, tk ++ [K.length], gl, rows⟩) := by
  have e1 := elemT_109
  have e2 := ti_5
  have h1 : K.length ≤ 9223372036854775807 := by omega
  have h2 : K.length ≤ 140737488355328 := by omega
  simp [appendA, readA, e1, e2, roomA, maxLen, h1, h2, Value.cells]
theorem app_b2 {cs : List AV} {n : Nat} {x : AV} (hl : n ≤ 1000) (objs : List (List AV)) (tk : List Nat) (gl : Nat → Option (List AV)) (rows : List RowSt) : appendA Try.prog 109 (.sl 1 cs n (.own tk.length)) (.sl 1 [x] 1 .full) ⟨objs, tk ++ [n], gl, rows⟩ = some (.sl 1 (cs ++ [x]) (n + 1) (.own tk.length), ⟨objs, tk ++ [n + 1], gl, rows⟩) := by
  have e1 := elemT_109
  have e2 := ti_5
  have h1 : n + 1 ≤ 9223372036854775807 := by omega
  have h2 : n + 1 ≤ 140737488355328 := by omega
  simp [appendA, readA, e1, e2, roomA, maxLen, h1, h2, Value.cells]

structure TkS where
  j : Nat
  G : Sg
  l : List (List AV)
  t : List Nat

theorem amt_take {l : List Coin} (h : Right l) : ∀ (i d : Nat), amt (l.take i) d ≤ amt l d := fun i d => by
  have e := amt_append (l.take i) (l.drop i) d
  rw [List.take_append_drop] at e
  rw [e]
  by_cases hx : ∃ c ∈ l.take i, c.d.toNat = d
  · rw [if_pos hx]; exact Nat.le_refl _
  · rw [amt_none (fun c hc q => hx ⟨c, hc, q⟩)]; exact Nat.zero_le _

set_option maxHeartbeats 1600000 in
attribute [local simp] undefA List.getElem?_cons_zero List.getElem?_cons_succ in
theorem take_ok2 {σ : St} {o k n : Nat} {G : Sg} {T : Tb} {O : Option UInt8} {l : List Coin} (h : HasS σ o k G) (hi : BankS G.s T n) (hn : n ≤ 1000) (hR : Right l) :
    CallsA Try.prog 62 [.ptr o 0, .sl 5 (coinsC l) l.length .shut, .sl 1 (bytesA (kk O)) (kk O).length .full] σ (fun av σ' => ∃ G', BankS G'.s (upd T O (cRest (T O) l)) (n + 8) ∧ av = .tup [] ∧ σ' = putS σ o k G') := by
  have h8 := right_len hR
  have hlc := coinsC_len l
  refine callsA_mono (callsA_gcX (X := { G' : Sg // BankS G'.s (upd T O (cRest (T O) l)) (n + 8) }) (A := fun _ => .tup []) (τ := fun x => putS σ o k x.1) ?_ (fun _ => rfl) (fun x => by simp [putS]) (fun x => rfl) (fun x => by simp [putS]) (fun x => rfl) (fun x => putS_o h _) (fun x => putS_r (o := o) (k := k) (σ := σ) _)) (fun av σ' ⟨x, e1, e2⟩ => ⟨x.1, x.2, e1, e2⟩)
  have hself := (gB.self h).symm
  have hgl := gB.len σ o k
  have hap2 := gB.app h
  have hap1 := gB.app1 h
  have hget := gB.get h
  have hput := gB.put σ o k
  have hkk := kk_len O
  obtain ⟨KB, hKB⟩ : ∃ KB, KB = bytesA (kk O) := ⟨_, rfl⟩
  obtain ⟨KN, hKN⟩ : ∃ KN, KN = (kk O).length := ⟨_, rfl⟩
  have b1 := fun objs tk gl rows => app_b1 (K := kk O) (tl := .full) (by omega) objs tk gl rows
  have b2 := fun x objs tk gl rows => app_b2 (cs := KB) (n := KN) (x := x) (by omega) objs tk gl rows
  simp only [← hKB, ← hKN] at b1
  have hey : ∀ d : UInt8, KB ++ [.v (.int .u8 d.toNat)] = bytesA (key O d) := fun d => by rw [hKB, key]; simp [bytesA]
  have hel : ∀ d : UInt8, KN + 1 = (key O d).length := fun d => by rw [hKN, key]; simp
  rw [← hKB, ← hKN]
  have F := And.intro hlc (And.intro hgl (And.intro b1 (And.intro b2 (True.intro))))
  refine callsA_body Try.func62 rfl rfl rfl ?_; refine sq fun K1 hK1 => ?_
  rw [hself]
  refine rg' (h := fun J2 hJ2 => ?_); refine hJ2 _ _ ?_; refine hK1 _ _ ?_; refine run_block_k ?_; refine run_loopF (X := TkS) [0, 2, 9, 10] (fun x ρ σ1 => (x.j ≤ l.length) ∧ (BankS x.G.s (upd T O (cRest (T O) (l.take x.j))) (n + x.j)) ∧ (ρ 11 = .v (.int .i64 x.j)) ∧ (σ1 = gB σ o k x.G x.l x.t)) (fun x => l.length - x.j) (⟨0, G, [], []⟩) ?st1 ?rd1
  case st1 =>
   refine ⟨lp, ?_, lp, lp⟩
   · rw [List.take_zero, cRest_nil (hi.rt O), upd_id]
     exact hi
  case rd1 =>
   rintro x ρ1 σ1 hF1 ⟨h1, h2, h3, hσ⟩; obtain rfl := hσ.symm
   have f1 := keepL hF1
   (try simp [KeepL, F] at f1); replace F := aF h3 F; (try replace F := aF f1 F); refine sr fun _ hJ4 => ?_; refine hJ4 _ _ ?_; refine sq fun K5 hK5 => ?_; refine cs (fun c12 => ?_) (fun c12 => ?_)
   · (try exact nope c12); all_goals have c12p := c12; try simp [F] at c12p
     all_goals
      replace F := aF c12 F; try replace F := aF c12p F
      have hlt : x.j < l.length := by have h := c12; simp at h; omega
      obtain ⟨c, hc⟩ : ∃ c, c = l[x.j] := ⟨_, rfl⟩
      have hta : l.take x.j ++ [c] = l.take (x.j + 1) := by rw [hc]; exact List.take_append_getElem hlt
      have hRb : Right (l.take x.j ++ [c]) := by rw [hta]; exact right_take hR _
      have hat := coinsC_at hlt
      rw [← hc] at hat
      have hR5 : List.take 5 (List.drop (x.j * 5) (coinsC l)) = coinC c := by rw [hat]; rfl
      have hc8 := (hRb.1 c (by simp)).1
      obtain ⟨v0, hv0⟩ : ∃ v0, v0 = amt (cRest (T O) (l.take x.j)) c.d.toNat := ⟨_, rfl⟩
      have hv0l : v0 < 2 ^ 256 := by rw [hv0]; exact amt_lt _ _
      have hg := h2.gt O c.d
      rw [upd_self, ← hv0] at hg
      obtain ⟨v1, hv1e⟩ : ∃ v1, v1 = v0 - c.n.v := ⟨_, rfl⟩
      have hv1l : v1 < 2 ^ 256 := by omega
      have hv1 : setC (cRest (T O) (l.take x.j)) c.d.toNat v1 = cRest (T O) (l.take x.j ++ [c]) := by rw [hv1e, hv0]; exact cRest_step hRb
      have hst := h2.set (o := O) (d := c.d) hc8 hv1l
      rw [upd_self, upd_upd, hv1, hta] at hst
      have hrd : ∀ τ tl, HasS τ o k x.G → CallsA Try.prog 52 [.ptr o 0, .sl 1 (KB ++ [.v (.int .u8 c.d.toNat)]) (KN + 1) tl] τ (fun av σ' => av = .agg (numA v0) ∧ τ = σ') := fun τ tl hh => by rw [hey, hel c.d]; exact read_ok2 hh h2.ok (by omega) hg hv0l
      have hb1 := gB.has h x.G
      have hb2 : ∀ L t y, HasS { gB σ o k x.G L t with objs := (gB σ o k x.G L t).objs ++ [y] } o k x.G := fun L t y => by rw [hap1]; exact gB.has h x.G _ _
      have hwr : ∀ L t, CallsA Try.prog 97 [.ptr o 0, .agg (numA v1), .sl 1 (KB ++ [.v (.int .u8 c.d.toNat)]) (KN + 1) (.own (gB σ o k x.G x.l x.t).toks.length)] (gB σ o k x.G L t) (fun av σ' => ∃ G', BankS G'.s (upd T O (cRest (T O) (l.take (x.j + 1)))) (n + x.j + 1) ∧ av = .tup [] ∧ σ' = gB σ o k G' L t) := fun L t => by
        rw [hey, hel c.d]; exact callsA_mono (write_ok2 (gB.has h x.G L t) h2.ok (by omega) hv1l (by have := key_len O c.d; omega)) (fun av σ' ⟨G', e1, e2, e3⟩ => ⟨G', by rw [e1]; exact hst, e2, by rw [e3, hput]⟩)
      have hi1 : x.j + 1 ≤ l.length := hlt
      have hwi : IntKind.i64.wrap ((x.j : Int) + 1) = (x.j : Int) + 1 := wrap_i64 _ (by omega) (by omega)
      have b5 : x.j * 5 + 5 ≤ l.length * 5 := by omega
      have c0 : ∀ h2 : 0 < (coinC c).length, (coinC c)[0]'h2 = .v (.int .u8 (c.d.toNat : Nat)) := fun _ => rfl
      have c1 : List.take 4 (coinC c).tail = numA c.n.v := rfl
      have cl : (coinC c).length = 5 := rfl
      have hcl : (∀ x, x ∈ coinC c → x.isCell = true) = True := eq_true (fun x hx => by simp only [coinC, numA, List.mem_cons, List.not_mem_nil, or_false] at hx; rcases hx with rfl | rfl | rfl | rfl | rfl <;> rfl)
      have ct : List.take 5 (coinC c) = coinC c := rfl
      obtain ⟨C, hC⟩ : ∃ C, C = coinC c := ⟨_, rfl⟩
      rw [← hC] at hR5 c1 cl hcl ct
      simp only [← hC] at c0
      simp only [AV.isCell] at hcl
      have g1 := fun G' m t => hget G' x.l m t C
      have g2 : ∀ G' m t (h2 : σ.objs.length + x.l.length < (gB σ o k G' (x.l ++ C :: m) t).objs.length), (gB σ o k G' (x.l ++ C :: m) t).objs[σ.objs.length + x.l.length]'h2 = C := fun G' m t h2 => (List.getElem?_eq_some_iff.1 (g1 G' m t)).2
      have hrs := fun τ => nRest_ok (σ := τ) hv0l c.n.h
      simp only [← hv1e] at hrs
      replace F := aF hlt (And.intro hR5 (And.intro hi1 (And.intro hwi (And.intro b5 (And.intro c0 (And.intro c1 (And.intro cl (And.intro hcl (And.intro ct (And.intro g1 (And.intro g2 F))))))))))); refine run_skip ?_; refine hK5 _ _ ?_; refine sq fun K6 hK6 => ?_; refine run_block_k ?_; refine sr fun _ hJ8 => ?_; refine hJ8 _ _ ?_; refine sq fun K9 hK9 => ?_
      refine run_draw (by kernel_rfl) fun J10 hJ10 => ?_
      refine rp2 0 (k := ?_); refine rp2 2 (k := ?_); refine rp2 3 (k := ?_); refine rp2 4 (k := ?_); refine dop 1 rfl ?_; repeat (first | simp [F] | simp (disch := omega) only [wC, if_pos, if_neg])
      refine ⟨by first | exact fun _ _ h => h | (refine later_list [4, 3, 2] (by kernel_rfl) (List.forall_mem_cons.2 ⟨fun _ => fact2 rfl rfl ?_, List.forall_mem_cons.2 ⟨fun _ => fact2 rfl rfl ?_, List.forall_mem_cons.2 ⟨fun _ => fact2 rfl rfl ?_, fun _ h => absurd h List.not_mem_nil⟩⟩⟩) <;> constructor <;> first | rfl | (simp [F]; done)), ?_⟩
      refine dop 5 rfl ?_; repeat (first | simp [F] | simp (disch := omega) only [wC, if_pos, if_neg])
      refine ⟨by first | exact fun _ _ h => h | (refine later_list [3, 2] (by kernel_rfl) (List.forall_mem_cons.2 ⟨fun _ => fact2 rfl rfl ?_, List.forall_mem_cons.2 ⟨fun _ => fact2 rfl rfl ?_, fun _ h => absurd h List.not_mem_nil⟩⟩) <;> constructor <;> first | rfl | (simp [F]; done)), ?_⟩
      refine rp2 6 (k := ?_); refine dd ?_; refine hJ10 _ _ ?_; refine hK9 _ _ ?_
      rw [hap2]
      refine run_draw (by kernel_rfl) fun J11 hJ11 => ?_
      refine rp2 0 (k := ?_); refine rp2 1 (k := ?_); refine rp2 2 (k := ?_); refine rp2 4 (k := ?_); refine rp2 5 (k := ?_); refine rp2 7 (k := ?_); refine dc 3 rfl (c := hrd _ _ (hb1 _ _)) (k := ?_); rintro _ _ ⟨rfl, rfl⟩
      refine ⟨by first | exact fun _ _ h => h | (refine later_list [7, 5, 4, 0] (by kernel_rfl) (List.forall_mem_cons.2 ⟨fun _ => fact2 rfl rfl ?_, List.forall_mem_cons.2 ⟨fun _ => fact2 rfl rfl ?_, List.forall_mem_cons.2 ⟨fun _ => fact2 rfl rfl ?_, List.forall_mem_cons.2 ⟨fun _ => fact2 rfl rfl ?_, fun _ h => absurd h List.not_mem_nil⟩⟩⟩⟩) <;> constructor <;> first | rfl | (simp [F]; done)), ?_⟩
      (repeat (first | simp [F] | simp (disch := omega) only [wC, if_pos, if_neg])); refine dc 6 rfl (c := hrs _) (k := ?_); rintro _ _ ⟨rfl, rfl⟩
      refine ⟨by first | exact fun _ _ h => h | (refine later_list [7, 4, 0] (by kernel_rfl) (List.forall_mem_cons.2 ⟨fun _ => fact2 rfl rfl ?_, List.forall_mem_cons.2 ⟨fun _ => fact2 rfl rfl ?_, List.forall_mem_cons.2 ⟨fun _ => fact2 rfl rfl ?_, fun _ h => absurd h List.not_mem_nil⟩⟩⟩) <;> constructor <;> first | rfl | (simp [F]; done)), ?_⟩
      (repeat (first | simp [F] | simp (disch := omega) only [wC, if_pos, if_neg])); refine dc 8 rfl (c := hwr _ _) (k := ?_); rintro _ _ ⟨G1, e1, rfl, rfl⟩
      refine ⟨by first | exact fun _ _ h => h | (refine later_list [4] (by kernel_rfl) (List.forall_mem_cons.2 ⟨fun _ => fact2 rfl rfl ?_, fun _ h => absurd h List.not_mem_nil⟩) <;> constructor <;> first | rfl | (simp [F]; done)), ?_⟩
      (repeat (first | simp [F] | simp (disch := omega) only [wC, if_pos, if_neg])); refine dd ?_; refine hJ11 _ _ ?_; refine hK6 _ _ ?_; refine rg' (h := fun J12 hJ12 => ?_); refine hJ12 _ _ ?_; refine ⟨(⟨x.j + 1, G1, x.l ++ [C], x.t ++ [KN + 1]⟩), ⟨kp, lp, ?_, lp, lp⟩, lp⟩
      · exact e1
   (try exact nope c12); all_goals have c12p := c12; try simp [F] at c12p
   all_goals
    replace F := aF c12 F; try replace F := aF c12p F
    have hje : l.take x.j = l := List.take_of_length_le (by have h := c12; simp at h; omega)
    rw [hje] at h2
    refine run_exit ?_; (try simp only [Then, InBlock, NoGoto, if_true]); refine answer_none rfl (.inl rfl) ?_
    refine ⟨⟨x.G, h2.mono (by omega)⟩, ?_⟩
    rw [gB.fin h]
    exact gcr

set_option maxHeartbeats 1600000 in
attribute [local simp] undefA List.getElem?_cons_zero List.getElem?_cons_succ in
theorem add_ok2 {σ : St} {o k n : Nat} {G : Sg} {T : Tb} {O : Option UInt8} {l : List Coin} (h : HasS σ o k G) (hi : BankS G.s T n) (hn : n ≤ 1000) (hR : Right l) (hno : ∀ d, d < 8 → amt (T O) d + amt l d < 2 ^ 256) :
    CallsA Try.prog 63 [.ptr o 0, .sl 5 (coinsC l) l.length .shut, .sl 1 (bytesA (kk O)) (kk O).length .full] σ (fun av σ' => ∃ G', BankS G'.s (upd T O (addC (T O) l)) (n + 8) ∧ av = .tup [] ∧ σ' = putS σ o k G') := by
  have h8 := right_len hR
  have hlc := coinsC_len l
  refine callsA_mono (callsA_gcX (X := { G' : Sg // BankS G'.s (upd T O (addC (T O) l)) (n + 8) }) (A := fun _ => .tup []) (τ := fun x => putS σ o k x.1) ?_ (fun _ => rfl) (fun x => by simp [putS]) (fun x => rfl) (fun x => by simp [putS]) (fun x => rfl) (fun x => putS_o h _) (fun x => putS_r (o := o) (k := k) (σ := σ) _)) (fun av σ' ⟨x, e1, e2⟩ => ⟨x.1, x.2, e1, e2⟩)
  have hself := (gB.self h).symm
  have hgl := gB.len σ o k
  have hap2 := gB.app h
  have hap1 := gB.app1 h
  have hget := gB.get h
  have hput := gB.put σ o k
  have hkk := kk_len O
  obtain ⟨KB, hKB⟩ : ∃ KB, KB = bytesA (kk O) := ⟨_, rfl⟩
  obtain ⟨KN, hKN⟩ : ∃ KN, KN = (kk O).length := ⟨_, rfl⟩
  have b1 := fun objs tk gl rows => app_b1 (K := kk O) (tl := .full) (by omega) objs tk gl rows
  have b2 := fun x objs tk gl rows => app_b2 (cs := KB) (n := KN) (x := x) (by omega) objs tk gl rows
  simp only [← hKB, ← hKN] at b1
  have hey : ∀ d : UInt8, KB ++ [.v (.int .u8 d.toNat)] = bytesA (key O d) := fun d => by rw [hKB, key]; simp [bytesA]
  have hel : ∀ d : UInt8, KN + 1 = (key O d).length := fun d => by rw [hKN, key]; simp
  rw [← hKB, ← hKN]
  have F := And.intro hlc (And.intro hgl (And.intro b1 (And.intro b2 (True.intro))))
  refine callsA_body Try.func63 rfl rfl rfl ?_; refine sq fun K1 hK1 => ?_
  rw [hself]
  refine rg' (h := fun J2 hJ2 => ?_); refine hJ2 _ _ ?_; refine hK1 _ _ ?_; refine run_block_k ?_; refine run_loopF (X := TkS) [0, 2, 11, 12] (fun x ρ σ1 => (x.j ≤ l.length) ∧ (BankS x.G.s (upd T O (addC (T O) (l.take x.j))) (n + x.j)) ∧ (ρ 13 = .v (.int .i64 x.j)) ∧ (σ1 = gB σ o k x.G x.l x.t)) (fun x => l.length - x.j) (⟨0, G, [], []⟩) ?st1 ?rd1
  case st1 =>
   refine ⟨lp, ?_, lp, lp⟩
   · rw [List.take_zero, addC_nil (hi.rt O), upd_id]
     exact hi
  case rd1 =>
   rintro x ρ1 σ1 hF1 ⟨h1, h2, h3, hσ⟩; obtain rfl := hσ.symm
   have f1 := keepL hF1
   (try simp [KeepL, F] at f1); replace F := aF h3 F; (try replace F := aF f1 F); refine sr fun _ hJ4 => ?_; refine hJ4 _ _ ?_; refine sq fun K5 hK5 => ?_; refine cs (fun c14 => ?_) (fun c14 => ?_)
   · (try exact nope c14); all_goals have c14p := c14; try simp [F] at c14p
     all_goals
      replace F := aF c14 F; try replace F := aF c14p F
      have hlt : x.j < l.length := by have h := c14; simp at h; omega
      obtain ⟨c, hc⟩ : ∃ c, c = l[x.j] := ⟨_, rfl⟩
      have hta : l.take x.j ++ [c] = l.take (x.j + 1) := by rw [hc]; exact List.take_append_getElem hlt
      have hRb : Right (l.take x.j ++ [c]) := by rw [hta]; exact right_take hR _
      have hat := coinsC_at hlt
      rw [← hc] at hat
      have hR5 : List.take 5 (List.drop (x.j * 5) (coinsC l)) = coinC c := by rw [hat]; rfl
      have hc8 := (hRb.1 c (by simp)).1
      obtain ⟨v0, hv0⟩ : ∃ v0, v0 = amt (addC (T O) (l.take x.j)) c.d.toNat := ⟨_, rfl⟩
      have hv0l : v0 < 2 ^ 256 := by rw [hv0]; exact amt_lt _ _
      have hg := h2.gt O c.d
      rw [upd_self, ← hv0] at hg
      obtain ⟨v1, hv1e⟩ : ∃ v1, v1 = v0 + c.n.v := ⟨_, rfl⟩
      have hstp := addC_step hRb (fun d hd => Nat.lt_of_le_of_lt (Nat.add_le_add_left (by rw [hta]; exact amt_take hR _ d) _) (hno d hd))
      have hv1l : v1 < 2 ^ 256 := by rw [hv1e, hv0]; exact hstp.2
      have hv1 : setC (addC (T O) (l.take x.j)) c.d.toNat v1 = addC (T O) (l.take x.j ++ [c]) := by rw [hv1e, hv0]; exact hstp.1
      have hst := h2.set (o := O) (d := c.d) hc8 hv1l
      rw [upd_self, upd_upd, hv1, hta] at hst
      have hrd : ∀ τ tl, HasS τ o k x.G → CallsA Try.prog 52 [.ptr o 0, .sl 1 (KB ++ [.v (.int .u8 c.d.toNat)]) (KN + 1) tl] τ (fun av σ' => av = .agg (numA v0) ∧ τ = σ') := fun τ tl hh => by rw [hey, hel c.d]; exact read_ok2 hh h2.ok (by omega) hg hv0l
      have hb1 := gB.has h x.G
      have hb2 : ∀ L t y, HasS { gB σ o k x.G L t with objs := (gB σ o k x.G L t).objs ++ [y] } o k x.G := fun L t y => by rw [hap1]; exact gB.has h x.G _ _
      have hwr : ∀ L t, CallsA Try.prog 97 [.ptr o 0, .agg (numA v1), .sl 1 (KB ++ [.v (.int .u8 c.d.toNat)]) (KN + 1) (.own (gB σ o k x.G x.l x.t).toks.length)] (gB σ o k x.G L t) (fun av σ' => ∃ G', BankS G'.s (upd T O (addC (T O) (l.take (x.j + 1)))) (n + x.j + 1) ∧ av = .tup [] ∧ σ' = gB σ o k G' L t) := fun L t => by
        rw [hey, hel c.d]; exact callsA_mono (write_ok2 (gB.has h x.G L t) h2.ok (by omega) hv1l (by have := key_len O c.d; omega)) (fun av σ' ⟨G', e1, e2, e3⟩ => ⟨G', by rw [e1]; exact hst, e2, by rw [e3, hput]⟩)
      have hi1 : x.j + 1 ≤ l.length := hlt
      have hwi : IntKind.i64.wrap ((x.j : Int) + 1) = (x.j : Int) + 1 := wrap_i64 _ (by omega) (by omega)
      have b5 : x.j * 5 + 5 ≤ l.length * 5 := by omega
      have c0 : ∀ h2 : 0 < (coinC c).length, (coinC c)[0]'h2 = .v (.int .u8 (c.d.toNat : Nat)) := fun _ => rfl
      have c1 : List.take 4 (coinC c).tail = numA c.n.v := rfl
      have cl : (coinC c).length = 5 := rfl
      have hcl : (∀ x, x ∈ coinC c → x.isCell = true) = True := eq_true (fun x hx => by simp only [coinC, numA, List.mem_cons, List.not_mem_nil, or_false] at hx; rcases hx with rfl | rfl | rfl | rfl | rfl <;> rfl)
      have ct : List.take 5 (coinC c) = coinC c := rfl
      obtain ⟨C, hC⟩ : ∃ C, C = coinC c := ⟨_, rfl⟩
      rw [← hC] at hR5 c1 cl hcl ct
      simp only [← hC] at c0
      simp only [AV.isCell] at hcl
      have g1 := fun G' m t => hget G' x.l m t C
      have g2 : ∀ G' m t (h2 : σ.objs.length + x.l.length < (gB σ o k G' (x.l ++ C :: m) t).objs.length), (gB σ o k G' (x.l ++ C :: m) t).objs[σ.objs.length + x.l.length]'h2 = C := fun G' m t h2 => (List.getElem?_eq_some_iff.1 (g1 G' m t)).2
      have hrs := fun τ => nadd_ok (σ := τ) hv0l c.n.h
      have hadd : addN v0 c.n.v = v1 := by rw [hv1e, addN, if_pos (by rw [← hv1e]; exact hv1l)]
      simp only [hadd] at hrs
      have hn1l : (numA v1).length = 4 := rfl
      have hn1t : List.take 4 (numA v1) = numA v1 := rfl
      have hn1c : (∀ x, x ∈ numA v1 → x.isCell = true) = True := eq_true (fun x hx => by simp only [numA, List.mem_cons, List.not_mem_nil, or_false] at hx; rcases hx with rfl | rfl | rfl | rfl <;> rfl)
      obtain ⟨N1, hN1⟩ : ∃ N1, N1 = numA v1 := ⟨_, rfl⟩
      rw [← hN1] at hn1l hn1t hn1c
      simp only [← hN1] at hrs hwr
      simp only [AV.isCell] at hn1c
      have g3 : ∀ G' t, (gB σ o k G' (x.l ++ [C, N1]) t).objs[σ.objs.length + (x.l.length + 1)]? = some N1 := fun G' t => by have := hget G' (x.l ++ [C]) [] t N1; rw [List.length_append, List.append_assoc] at this; exact this
      have g4 : ∀ G' t (h2 : σ.objs.length + (x.l.length + 1) < (gB σ o k G' (x.l ++ [C, N1]) t).objs.length), (gB σ o k G' (x.l ++ [C, N1]) t).objs[σ.objs.length + (x.l.length + 1)]'h2 = N1 := fun G' t h2 => (List.getElem?_eq_some_iff.1 (g3 G' t)).2
      replace F := aF hn1l (And.intro hn1t (And.intro hn1c (And.intro g3 (And.intro g4 F)))); replace F := aF hlt (And.intro hR5 (And.intro hi1 (And.intro hwi (And.intro b5 (And.intro c0 (And.intro c1 (And.intro cl (And.intro hcl (And.intro ct (And.intro g1 (And.intro g2 F))))))))))); refine run_skip ?_; refine hK5 _ _ ?_; refine sq fun K6 hK6 => ?_; refine run_block_k ?_; refine sr fun _ hJ8 => ?_; refine hJ8 _ _ ?_; refine sq fun K9 hK9 => ?_
      refine run_draw (by kernel_rfl) fun J10 hJ10 => ?_
      refine rp2 0 (k := ?_); refine rp2 2 (k := ?_); refine rp2 3 (k := ?_); refine rp2 4 (k := ?_); refine dop 1 rfl ?_; repeat (first | simp [F] | simp (disch := omega) only [wC, if_pos, if_neg])
      refine ⟨by first | exact fun _ _ h => h | (refine later_list [4, 3, 2] (by kernel_rfl) (List.forall_mem_cons.2 ⟨fun _ => fact2 rfl rfl ?_, List.forall_mem_cons.2 ⟨fun _ => fact2 rfl rfl ?_, List.forall_mem_cons.2 ⟨fun _ => fact2 rfl rfl ?_, fun _ h => absurd h List.not_mem_nil⟩⟩⟩) <;> constructor <;> first | rfl | (simp [F]; done)), ?_⟩
      refine dop 5 rfl ?_; repeat (first | simp [F] | simp (disch := omega) only [wC, if_pos, if_neg])
      refine ⟨by first | exact fun _ _ h => h | (refine later_list [3, 2] (by kernel_rfl) (List.forall_mem_cons.2 ⟨fun _ => fact2 rfl rfl ?_, List.forall_mem_cons.2 ⟨fun _ => fact2 rfl rfl ?_, fun _ h => absurd h List.not_mem_nil⟩⟩) <;> constructor <;> first | rfl | (simp [F]; done)), ?_⟩
      refine rp2 6 (k := ?_); refine dd ?_; refine hJ10 _ _ ?_; refine hK9 _ _ ?_; refine sq fun K11 hK11 => ?_
      rw [hap2]
      refine run_draw (by kernel_rfl) fun J12 hJ12 => ?_
      refine rp2 0 (k := ?_); refine rp2 1 (k := ?_); refine rp2 3 (k := ?_); refine rp2 4 (k := ?_); refine d2 2 9 ?_ ?_
      · refine ac 2 rfl (c := hrd _ _ (by first | exact hb1 _ _ | exact hb2 _ _ _)) (k := ?_)
        rintro _ _ ⟨rfl, rfl⟩
        refine ⟨by first | exact fun _ _ h => h | (refine later_list [4, 3] (by kernel_rfl) (List.forall_mem_cons.2 ⟨fun _ => fact2 rfl rfl ?_, List.forall_mem_cons.2 ⟨fun _ => fact2 rfl rfl ?_, fun _ h => absurd h List.not_mem_nil⟩⟩) <;> constructor <;> first | rfl | (simp [F]; done)), ?_⟩
        (repeat (first | simp [F] | simp (disch := omega) only [wC, if_pos, if_neg])); refine d2 5 9 ?_ ?_
        · refine ac 5 rfl (c := hrs _) (k := ?_); rintro _ _ ⟨rfl, rfl⟩
          refine ⟨by first | exact fun _ _ h => h | (refine later_list [3] (by kernel_rfl) (List.forall_mem_cons.2 ⟨fun _ => fact2 rfl rfl ?_, fun _ h => absurd h List.not_mem_nil⟩) <;> constructor <;> first | rfl | (simp [F]; done)), ?_⟩
          (repeat (first | simp [F] | simp (disch := omega) only [wC, if_pos, if_neg])); refine rp2 6 (k := ?_); refine rp2 7 (k := ?_); refine rp2 8 (k := ?_); refine dop 9 rfl ?_; repeat (first | simp [F] | simp (disch := omega) only [wC, if_pos, if_neg])
          refine ⟨by first | exact later_more _ (by kernel_rfl) | exact later_more2 (by kernel_rfl) rfl, ?_⟩
          refine dop 10 rfl ?_; repeat (first | simp [F] | simp (disch := omega) only [wC, if_pos, if_neg])
          refine ⟨later_tmp (by kernel_rfl), ?_⟩
          refine rp2 11 (k := ?_); refine dd ?_; refine hJ12 _ _ ?_; refine hK11 _ _ ?_
          rw [hap1]
          refine rg' (h := fun J13 hJ13 => ?_); refine ca (c := hwr _ _) (k := ?_); rintro _ _ ⟨G1, e1, rfl, rfl⟩; (repeat (first | simp [F] | simp (disch := omega) only [wC, if_pos, if_neg])); refine hJ13 _ _ ?_; refine hK6 _ _ ?_; refine rg' (h := fun J14 hJ14 => ?_); refine hJ14 _ _ ?_; refine ⟨(⟨x.j + 1, G1, x.l ++ [C, N1], x.t ++ [KN + 1]⟩), ⟨kp, lp, ?_, lp, lp⟩, lp⟩
          · exact e1
        · refine ao 9 rfl ?_; repeat (first | simp [F] | simp (disch := omega) only [wC, if_pos, if_neg])
          refine ⟨by first | exact later_more _ (by kernel_rfl) | exact later_more2 (by kernel_rfl) rfl, ?_⟩
          refine dc 5 rfl (c := hrs _) (k := ?_); rintro _ _ ⟨rfl, rfl⟩
          refine ⟨by first | exact fun _ _ h => h | (refine later_list [3] (by kernel_rfl) (List.forall_mem_cons.2 ⟨fun _ => fact2 rfl rfl ?_, fun _ h => absurd h List.not_mem_nil⟩) <;> constructor <;> first | rfl | (simp [F]; done)), ?_⟩
          (repeat (first | simp [F] | simp (disch := omega) only [wC, if_pos, if_neg])); refine rp2 6 (k := ?_); refine rp2 7 (k := ?_); refine rp2 8 (k := ?_); refine dop 10 rfl ?_; repeat (first | simp [F] | simp (disch := omega) only [wC, if_pos, if_neg])
          refine ⟨later_tmp (by kernel_rfl), ?_⟩
          refine rp2 11 (k := ?_); refine dd ?_; refine hJ12 _ _ ?_; refine hK11 _ _ ?_
          rw [hap1]
          refine rg' (h := fun J15 hJ15 => ?_); refine ca (c := hwr _ _) (k := ?_); rintro _ _ ⟨G1, e1, rfl, rfl⟩; (repeat (first | simp [F] | simp (disch := omega) only [wC, if_pos, if_neg])); refine hJ15 _ _ ?_; refine hK6 _ _ ?_; refine rg' (h := fun J16 hJ16 => ?_); refine hJ16 _ _ ?_; refine ⟨(⟨x.j + 1, G1, x.l ++ [C, N1], x.t ++ [KN + 1]⟩), ⟨kp, lp, ?_, lp, lp⟩, lp⟩
          · exact e1
      · refine ao 9 rfl ?_; repeat (first | simp [F] | simp (disch := omega) only [wC, if_pos, if_neg])
        refine ⟨by first | exact later_more _ (by kernel_rfl) | exact later_more2 (by kernel_rfl) rfl, ?_⟩
        refine dc 2 rfl (c := hrd _ _ (by first | exact hb1 _ _ | exact hb2 _ _ _)) (k := ?_)
        rintro _ _ ⟨rfl, rfl⟩
        refine ⟨by first | exact fun _ _ h => h | (refine later_list [4, 3] (by kernel_rfl) (List.forall_mem_cons.2 ⟨fun _ => fact2 rfl rfl ?_, List.forall_mem_cons.2 ⟨fun _ => fact2 rfl rfl ?_, fun _ h => absurd h List.not_mem_nil⟩⟩) <;> constructor <;> first | rfl | (simp [F]; done)), ?_⟩
        (repeat (first | simp [F] | simp (disch := omega) only [wC, if_pos, if_neg])); refine dc 5 rfl (c := hrs _) (k := ?_); rintro _ _ ⟨rfl, rfl⟩
        refine ⟨by first | exact fun _ _ h => h | (refine later_list [3] (by kernel_rfl) (List.forall_mem_cons.2 ⟨fun _ => fact2 rfl rfl ?_, fun _ h => absurd h List.not_mem_nil⟩) <;> constructor <;> first | rfl | (simp [F]; done)), ?_⟩
        (repeat (first | simp [F] | simp (disch := omega) only [wC, if_pos, if_neg])); refine rp2 6 (k := ?_); refine rp2 7 (k := ?_); refine rp2 8 (k := ?_); refine dop 10 rfl ?_; repeat (first | simp [F] | simp (disch := omega) only [wC, if_pos, if_neg])
        refine ⟨later_tmp (by kernel_rfl), ?_⟩
        refine rp2 11 (k := ?_); refine dd ?_; refine hJ12 _ _ ?_; refine hK11 _ _ ?_
        rw [hap1]
        refine rg' (h := fun J17 hJ17 => ?_); refine ca (c := hwr _ _) (k := ?_); rintro _ _ ⟨G1, e1, rfl, rfl⟩; (repeat (first | simp [F] | simp (disch := omega) only [wC, if_pos, if_neg])); refine hJ17 _ _ ?_; refine hK6 _ _ ?_; refine rg' (h := fun J18 hJ18 => ?_); refine hJ18 _ _ ?_; refine ⟨(⟨x.j + 1, G1, x.l ++ [C, N1], x.t ++ [KN + 1]⟩), ⟨kp, lp, ?_, lp, lp⟩, lp⟩
        · exact e1
   (try exact nope c14); all_goals have c14p := c14; try simp [F] at c14p
   all_goals
    replace F := aF c14 F; try replace F := aF c14p F
    have hje : l.take x.j = l := List.take_of_length_le (by have h := c14; simp at h; omega)
    rw [hje] at h2
    refine run_exit ?_; (try simp only [Then, InBlock, NoGoto, if_true]); refine answer_none rfl (.inl rfl) ?_
    refine ⟨⟨x.G, h2.mono (by omega)⟩, ?_⟩
    rw [gB.fin h]
    exact gcr
theorem cRest_zero {a b : List Coin} : (cRest a b).length = 0 ↔ cWith a b := by
  constructor
  · intro h d hd
    have e := amt_cRest a b hd
    rw [List.eq_nil_of_length_eq_zero h] at e
    have e0 : amt [] d = 0 := rfl
    omega
  · intro h
    refine Classical.byContradiction fun q => ?_
    have hR := right_cRest a b
    obtain ⟨c, hc⟩ := List.exists_mem_of_length_pos (Nat.pos_of_ne_zero q)
    have hd := (hR.1 c hc).1
    have hne := (hR.1 c hc).2
    rw [← amt_mem hR.2 hc, amt_cRest a b hd] at hne
    generalize c.d.toNat = d at hd hne
    have := h d hd
    omega
set_option maxHeartbeats 1600000 in
attribute [local simp] undefA List.getElem?_cons_zero List.getElem?_cons_succ in
theorem cwith_ok {σ : St} {a b : List Coin} (ha : a.length ≤ 9223372036854775807) (hb : b.length ≤ 9223372036854775807) :
    CallsA Try.prog 61 [.sl 5 (coinsC a) a.length .shut, .sl 5 (coinsC b) b.length .shut] σ (fun av σ' => av = .v (.bool (decide (cWith a b))) ∧ σ = σ') := by
  have hr := crest_ok (σ := σ) (ta := .shut) (tb := .shut) ha hb
  have hd : decide ((cRest a b).length = 0) = decide (cWith a b) := decide_eq_decide.2 cRest_zero
  have hdi : (((cRest a b).length : Int) == 0) = decide (cWith a b) := by rw [← hd, Bool.eq_iff_iff]; simp
  obtain ⟨R, hR⟩ : ∃ R, R = cRest a b := ⟨_, rfl⟩
  obtain ⟨B, hB⟩ : ∃ B, B = decide (cWith a b) := ⟨_, rfl⟩
  simp only [← hR] at hr hd hdi
  rw [← hB] at hd hdi ⊢
  have F := And.intro hd (And.intro hdi (True.intro))
  refine callsA_body Try.func61 rfl rfl rfl ?_; refine sr fun _ hJ2 => ?_; refine hJ2 _ _ ?_; refine sr fun _ hJ4 => ?_; refine ca (c := hr) (k := ?_); rintro _ _ ⟨rfl, rfl⟩; (repeat (first | simp [F] | simp (disch := omega) only [wC, if_pos, if_neg])); refine hJ4 _ _ ?_; refine ra ?_; exact ⟨by simp [hdi], rfl⟩

def sumTo (f : UInt8 → Nat) : Nat → Nat
  | 0 => 0
  | n + 1 => sumTo f n + f (UInt8.ofNat n)
theorem sumTo_upd {f g : UInt8 → Nat} {a : UInt8} (h : ∀ x, x ≠ a → g x = f x) : ∀ n, n ≤ 256 → sumTo g n + (if a.toNat < n then f a else 0) = sumTo f n + (if a.toNat < n then g a else 0)
  | 0, _ => rfl
  | n + 1, hn => by
    have ih := sumTo_upd h n (by omega)
    have ht : (UInt8.ofNat n).toNat = n := toNat_ofNat (by omega)
    simp only [sumTo]
    by_cases e : UInt8.ofNat n = a
    · have ea : a.toNat = n := by rw [← e, ht]
      rw [e, if_pos (by omega), if_pos (by omega)]
      rw [if_neg (by omega), if_neg (by omega)] at ih
      omega
    · have ea : a.toNat ≠ n := fun q => e (by rw [← q]; exact UInt8.toNat_inj.1 (toNat_ofNat a.toNat_lt))
      rw [h _ e]
      by_cases hlt : a.toNat < n
      · rw [if_pos hlt, if_pos hlt] at ih; rw [if_pos (by omega), if_pos (by omega)]; omega
      · rw [if_neg hlt, if_neg hlt] at ih; rw [if_neg (by omega), if_neg (by omega)]; omega
theorem sumTo_le {f : UInt8 → Nat} {a : UInt8} : ∀ n, n ≤ 256 → a.toNat < n → f a ≤ sumTo f n
  | 0, _, h => by omega
  | n + 1, hn, h => by
    simp only [sumTo]
    by_cases e : a.toNat = n
    · have : UInt8.ofNat n = a := by rw [← e]; exact UInt8.toNat_inj.1 (toNat_ofNat a.toNat_lt)
      rw [this]; omega
    · have := sumTo_le (f := f) n (by omega) (by omega : a.toNat < n)
      omega
def sumB (T : Tb) (d : Nat) : Nat := sumTo (fun a => amt (T (some a)) d) 256
theorem sumB_upd (T : Tb) (a : UInt8) (L : List Coin) (d : Nat) : sumB (upd T (some a) L) d + amt (T (some a)) d = sumB T d + amt L d := by
  have h := sumTo_upd (f := fun x => amt (T (some x)) d) (g := fun x => amt (upd T (some a) L (some x)) d) (a := a) (fun x hx => by
    show amt (upd T (some a) L (some x)) d = _
    rw [upd_ne _ _ (fun e => hx (Option.some.inj e))]) 256 (Nat.le_refl _)
  rw [if_pos a.toNat_lt, if_pos a.toNat_lt] at h
  simp only [upd_self] at h
  exact h
theorem sumB_none (T : Tb) (L : List Coin) (d : Nat) : sumB (upd T none L) d = sumB T d := by
  have : (fun x => amt (upd T none L (some x)) d) = fun x => amt (T (some x)) d := funext fun x => by rw [upd_ne _ _ (by simp)]
  unfold sumB; rw [this]
theorem sumB_le (T : Tb) (a : UInt8) (d : Nat) : amt (T (some a)) d ≤ sumB T d := sumTo_le (f := fun x => amt (T (some x)) d) 256 (Nat.le_refl _) a.toNat_lt
def SumT (T : Tb) : Prop := ∀ d, d < 8 → sumB T d = amt (T none) d

theorem upd_sn (U : Tb) (b : UInt8) (L : List Coin) : upd U (some b) L none = U none := upd_ne _ _ (by simp)
structure BR where
  T : Tb
  e : Nat
def sendB (T : Tb) (a b : UInt8) (l : List Coin) : BR :=
  if ¬ (isB a = true ∧ isB b = true ∧ Right l) then ⟨T, 1⟩ else if ¬ cWith l (T (some a)) then ⟨T, 3⟩ else
  ⟨upd (upd T (some a) (cRest (T (some a)) l)) (some b) (addC (upd T (some a) (cRest (T (some a)) l) (some b)) l), 0⟩
def mintB (T : Tb) (b : UInt8) (l : List Coin) : BR :=
  if ¬ (isB b = true ∧ Right l) then ⟨T, 1⟩ else if ¬ cAddE (T none) l = 0 then ⟨T, 2⟩ else
  ⟨upd (upd T none (addC (T none) l)) (some b) (addC (T (some b)) l), 0⟩
def burnB (T : Tb) (a : UInt8) (l : List Coin) : BR :=
  if ¬ (isB a = true ∧ Right l) then ⟨T, 1⟩ else if ¬ cWith l (T (some a)) then ⟨T, 3⟩ else
  ⟨upd (upd T (some a) (cRest (T (some a)) l)) none (cRest (T none) l), 0⟩
theorem send_room {T : Tb} {a b : UInt8} {l : List Coin} (hs : SumT T) (hw : cWith l (T (some a))) : ∀ d, d < 8 → amt (upd T (some a) (cRest (T (some a)) l) (some b)) d + amt l d < 2 ^ 256 := fun d hd => by
  have h1 := sumB_upd T a (cRest (T (some a)) l) d
  have h2 := sumB_le (upd T (some a) (cRest (T (some a)) l)) b d
  have h3 := amt_cRest (T (some a)) l hd
  have h4 := hw d hd
  have h5 := hs d hd
  have h6 := amt_lt (T none) d
  omega
theorem mint_room {T : Tb} {b : UInt8} {l : List Coin} (hs : SumT T) (hw : cAddE (T none) l = 0) : ∀ d, d < 8 → amt (T (some b)) d + amt l d < 2 ^ 256 := fun d hd => by
  have h2 := sumB_le T b d
  have h4 := cAddE_zero.1 hw d hd
  have h5 := hs d hd
  omega
theorem sumT_send {T : Tb} {a b : UInt8} {l : List Coin} (hs : SumT T) : SumT (sendB T a b l).T := by
  unfold sendB
  split
  · exact hs
  · split
    · exact hs
    · rename_i h1 h2
      have hw : cWith l (T (some a)) := Classical.not_not.1 h2
      intro d hd
      have hr := send_room (b := b) hs hw
      have e1 := sumB_upd T a (cRest (T (some a)) l) d
      have e2 := sumB_upd (upd T (some a) (cRest (T (some a)) l)) b (addC (upd T (some a) (cRest (T (some a)) l) (some b)) l) d
      have e3 := addC_amt hr hd
      have e4 := amt_cRest (T (some a)) l hd
      have e5 := hw d hd
      have e6 := hs d hd
      dsimp only
      rw [upd_sn, upd_sn]
      omega
theorem sumT_mint {T : Tb} {b : UInt8} {l : List Coin} (hs : SumT T) : SumT (mintB T b l).T := by
  unfold mintB
  split
  · exact hs
  · split
    · exact hs
    · rename_i h1 h2
      have hw : cAddE (T none) l = 0 := Classical.not_not.1 h2
      intro d hd
      have e2 := sumB_upd (upd T none (addC (T none) l)) b (addC (T (some b)) l) d
      rw [sumB_none, upd_ne T _ (by simp : some b ≠ none)] at e2
      have e3 := addC_amt (mint_room (b := b) hs hw) hd
      have e4 := addC_amt (cAddE_zero.1 hw) hd
      have e6 := hs d hd
      dsimp only
      rw [upd_sn, upd_self]
      omega
theorem sumT_burn {T : Tb} {a : UInt8} {l : List Coin} (hs : SumT T) : SumT (burnB T a l).T := by
  unfold burnB
  split
  · exact hs
  · split
    · exact hs
    · rename_i h1 h2
      have hw : cWith l (T (some a)) := Classical.not_not.1 h2
      intro d hd
      have e2 := sumB_upd T a (cRest (T (some a)) l) d
      have e4 := amt_cRest (T (some a)) l hd
      have e5 := hw d hd
      have e6 := hs d hd
      have e7 := amt_cRest (T none) l hd
      dsimp only
      rw [upd_self, sumB_none]
      omega
theorem SumT.nil : SumT tb0 := fun d hd => by
  have : ∀ n, sumTo (fun a => amt (tb0 (some a)) d) n = 0 := fun n => by
    induction n with
    | zero => rfl
    | succ n ih => simp only [sumTo, ih]; rfl
  exact this 256

set_option maxHeartbeats 1600000 in
attribute [local simp] undefA List.getElem?_cons_zero List.getElem?_cons_succ in
theorem send_ok2 {σ : St} {o k n : Nat} {G : Sg} {T : Tb} {a b : UInt8} {l : List Coin} (h : HasS σ o k G) (hi : BankS G.s T n) (hs : SumT T) (hn : n ≤ 900) (hl : l.length ≤ 9223372036854775807) :
    CallsA Try.prog 34 [.ptr o 0, .v (.int .u8 a.toNat), .v (.int .u8 b.toNat), .sl 5 (coinsC l) l.length .shut] σ (fun av σ' => ∃ G', BankS G'.s (sendB T a b l).T (n + 16) ∧ av = .v (.int .i64 ((sendB T a b l).e : Nat)) ∧ σ' = putS σ o k G') := by
  obtain ⟨⟨PT, PE⟩, hP⟩ : ∃ P, P = sendB T a b l := ⟨_, rfl⟩
  rw [← hP]
  simp only
  have hmy := may2_ok (σ := σ) (o := o) (a := a) (b := b) hl
  have hco := coinsB_ok (a := a) h hi (by omega)
  have hRa := right_len (hi.rt (some a))
  have hwi := cwith_ok (σ := σ) (a := l) (b := T (some a)) hl (by omega)
  have hself := putS_self h
  have htk : Right l → CallsA Try.prog 62 [.ptr o 0, .sl 5 (coinsC l) l.length .shut, .sl 1 [.v (.int .u8 98), .v (.int .u8 a.toNat)] 2 .full] σ (fun av σ' => ∃ G', BankS G'.s (upd T (some a) (cRest (T (some a)) l)) (n + 8) ∧ av = .tup [] ∧ σ' = putS σ o k G') := fun hR => take_ok2 (O := some a) h hi (by omega) hR
  have had : Right l → cWith l (T (some a)) → ∀ G1, BankS G1.s (upd T (some a) (cRest (T (some a)) l)) (n + 8) → CallsA Try.prog 63 [.ptr o 0, .sl 5 (coinsC l) l.length .shut, .sl 1 [.v (.int .u8 98), .v (.int .u8 b.toNat)] 2 .full] (putS σ o k G1) (fun av σ' => ∃ G', BankS G'.s (upd (upd T (some a) (cRest (T (some a)) l)) (some b) (addC (upd T (some a) (cRest (T (some a)) l) (some b)) l)) (n + 8 + 8) ∧ av = .tup [] ∧ σ' = putS σ o k G') := fun hR hw G1 h1 =>
    callsA_mono (add_ok2 (O := some b) (h.put G1) h1 (by omega) hR (send_room hs hw)) (fun av σ' ⟨G', e1, e2, e3⟩ => ⟨G', e1, e2, by rw [e3, putS_put]⟩)
  have F := True.intro
  refine callsA_body Try.func34 rfl rfl rfl ?_; refine sr fun _ hJ2 => ?_; refine hJ2 _ _ ?_; refine sq fun K3 hK3 => ?_; refine run_block_k ?_; refine sr fun _ hJ5 => ?_; refine ca (c := hmy) (k := ?_); rintro _ _ ⟨rfl, rfl⟩; (repeat (first | simp [F] | simp (disch := omega) only [wC, if_pos, if_neg])); refine hJ5 _ _ ?_; refine cs (fun c9 => ?_) (fun c9 => ?_)
  · (try exact nope c9); all_goals have c9p := c9; try simp [F] at c9p
    all_goals
     replace F := aF c9 F; try replace F := aF c9p F
     have hR : ¬ (isB a = true ∧ isB b = true ∧ Right l) := by have h := c9; simp at h; intro q; simp [q.1, q.2.1, q.2.2] at h
     obtain ⟨rfl, rfl⟩ : PT = T ∧ PE = 1 := by rw [sendB, if_pos hR] at hP; simpa using hP
     refine sr fun _ hJ7 => ?_; refine hJ7 _ _ ?_; refine ra ?_; exact ⟨G, hi.mono (by omega), rfl, hself.symm⟩
  (try exact nope c9); all_goals have c9p := c9; try simp [F] at c9p
  all_goals
   replace F := aF c9 F; try replace F := aF c9p F
   have hR : isB a = true ∧ isB b = true ∧ Right l := by have h := c9; simp at h; exact ⟨h.1.1, h.1.2, h.2⟩
   refine sr fun _ hJ9 => ?_; refine ca (c := hco) (k := ?_); rintro _ _ ⟨rfl, rfl⟩; (repeat (first | simp [F] | simp (disch := omega) only [wC, if_pos, if_neg])); refine ca (c := hwi) (k := ?_); rintro _ _ ⟨rfl, rfl⟩; (repeat (first | simp [F] | simp (disch := omega) only [wC, if_pos, if_neg])); refine hJ9 _ _ ?_; refine cs (fun c17 => ?_) (fun c17 => ?_)
   · (try exact nope c17); all_goals have c17p := c17; try simp [F] at c17p
     all_goals
      replace F := aF c17 F; try replace F := aF c17p F
      have hw : ¬ cWith l (T (some a)) := by have h := c17; simpa using h
      obtain ⟨rfl, rfl⟩ : PT = T ∧ PE = 3 := by rw [sendB, if_neg (Classical.not_not.2 hR), if_pos hw] at hP; simpa using hP
      refine sr fun _ hJ11 => ?_; refine hJ11 _ _ ?_; refine ra ?_; exact ⟨G, hi.mono (by omega), rfl, hself.symm⟩
   (try exact nope c17); all_goals have c17p := c17; try simp [F] at c17p
   all_goals
    replace F := aF c17 F; try replace F := aF c17p F
    have hw : cWith l (T (some a)) := by have h := c17; simpa using h
    obtain ⟨hPT, rfl⟩ : PT = upd (upd T (some a) (cRest (T (some a)) l)) (some b) (addC (upd T (some a) (cRest (T (some a)) l) (some b)) l) ∧ PE = 0 := by rw [sendB, if_neg (Classical.not_not.2 hR), if_neg (Classical.not_not.2 hw)] at hP; simpa using hP
    refine run_skip ?_; refine hK3 _ _ ?_; refine sr fun _ hJ13 => ?_; refine ca (c := htk hR.2.2) (k := ?_); rintro _ _ ⟨G1, e1, rfl, rfl⟩; (repeat (first | simp [F] | simp (disch := omega) only [wC, if_pos, if_neg])); refine hJ13 _ _ ?_; refine sr fun _ hJ15 => ?_; refine ca (c := had hR.2.2 hw G1 e1) (k := ?_); rintro _ _ ⟨G2, e2, rfl, rfl⟩; (repeat (first | simp [F] | simp (disch := omega) only [wC, if_pos, if_neg])); refine hJ15 _ _ ?_; refine sr fun _ hJ17 => ?_; refine hJ17 _ _ ?_; refine ra ?_; exact ⟨G2, by rw [hPT]; exact e2, rfl, rfl⟩

set_option maxHeartbeats 1600000 in
attribute [local simp] undefA List.getElem?_cons_zero List.getElem?_cons_succ in
theorem mint_ok2 {σ : St} {o k n : Nat} {G : Sg} {T : Tb} {b : UInt8} {l : List Coin} (h : HasS σ o k G) (hi : BankS G.s T n) (hs : SumT T) (hn : n ≤ 900) (hl : l.length ≤ 9223372036854775807) :
    CallsA Try.prog 35 [.ptr o 0, .v (.int .u8 b.toNat), .sl 5 (coinsC l) l.length .shut] σ (fun av σ' => ∃ G', BankS G'.s (mintB T b l).T (n + 16) ∧ av = .v (.int .i64 ((mintB T b l).e : Nat)) ∧ σ' = putS σ o k G') := by
  obtain ⟨⟨PT, PE⟩, hP⟩ : ∃ P, P = mintB T b l := ⟨_, rfl⟩
  rw [← hP]
  simp only
  have hmy := may1_ok (σ := σ) (o := o) (a := b) hl
  have hsu := supply_ok h hi (by omega)
  have hRn := right_len (hi.rt none)
  have hcd := cadd_ok (σ := σ) (a := T none) (b := l) (ta := .shut) (tb := .shut) (by omega) hl
  have hself := putS_self h
  have hev := cAddE_val (T none) l
  obtain ⟨E, hE⟩ : ∃ E, E = cAddE (T none) l := ⟨_, rfl⟩
  obtain ⟨AL, hAL⟩ : ∃ AL, AL = cAddL (T none) l := ⟨_, rfl⟩
  rw [← hE] at hev
  simp only [← hE, ← hAL] at hcd
  have ha1 : Right l → E = 0 → CallsA Try.prog 63 [.ptr o 0, .sl 5 (coinsC l) l.length .shut, .sl 1 [.v (.int .u8 115)] 1 .full] σ (fun av σ' => ∃ G', BankS G'.s (upd T none (addC (T none) l)) (n + 8) ∧ av = .tup [] ∧ σ' = putS σ o k G') := fun hR hw => add_ok2 (O := none) h hi (by omega) hR (cAddE_zero.1 (hE ▸ hw))
  have ha2 : Right l → E = 0 → ∀ G1, BankS G1.s (upd T none (addC (T none) l)) (n + 8) → CallsA Try.prog 63 [.ptr o 0, .sl 5 (coinsC l) l.length .shut, .sl 1 [.v (.int .u8 98), .v (.int .u8 b.toNat)] 2 .full] (putS σ o k G1) (fun av σ' => ∃ G', BankS G'.s (upd (upd T none (addC (T none) l)) (some b) (addC (T (some b)) l)) (n + 8 + 8) ∧ av = .tup [] ∧ σ' = putS σ o k G') := fun hR hw G1 h1 => by
    have e0 : upd T none (addC (T none) l) (some b) = T (some b) := upd_ne _ _ (by simp)
    have := add_ok2 (O := some b) (h.put G1) h1 (by omega) hR (by rw [e0]; exact mint_room hs (hE ▸ hw))
    rw [e0] at this
    exact callsA_mono this (fun av σ' ⟨G', e1, e2, e3⟩ => ⟨G', e1, e2, by rw [e3, putS_put]⟩)
  have F := True.intro
  refine callsA_body Try.func35 rfl rfl rfl ?_; refine sr fun _ hJ2 => ?_; refine hJ2 _ _ ?_; refine sq fun K3 hK3 => ?_; refine sr fun _ hJ5 => ?_; refine ca (c := hmy) (k := ?_); rintro _ _ ⟨rfl, rfl⟩; (repeat (first | simp [F] | simp (disch := omega) only [wC, if_pos, if_neg])); refine hJ5 _ _ ?_; refine cs (fun c14 => ?_) (fun c14 => ?_)
  · (try exact nope c14); all_goals have c14p := c14; try simp [F] at c14p
    all_goals
     replace F := aF c14 F; try replace F := aF c14p F
     have hR : ¬ (isB b = true ∧ Right l) := by have h := c14; simp at h; intro q; simp [q.1, q.2] at h
     obtain ⟨rfl, rfl⟩ : PT = T ∧ PE = 1 := by rw [mintB, if_pos hR] at hP; simpa using hP
     refine sr fun _ hJ7 => ?_; refine hJ7 _ _ ?_; refine ra ?_; exact ⟨G, hi.mono (by omega), rfl, hself.symm⟩
  (try exact nope c14); all_goals have c14p := c14; try simp [F] at c14p
  all_goals
   replace F := aF c14 F; try replace F := aF c14p F
   have hR : isB b = true ∧ Right l := by have h := c14; simp at h; exact h
   refine run_skip ?_; refine hK3 _ _ ?_; refine sq fun K8 hK8 => ?_; refine sr fun _ hJ10 => ?_; refine ca (c := hsu) (k := ?_); rintro _ _ ⟨rfl, rfl⟩; (repeat (first | simp [F] | simp (disch := omega) only [wC, if_pos, if_neg])); refine ca (c := hcd) (k := ?_); rintro _ _ ⟨rfl, rfl⟩; (repeat (first | simp [F] | simp (disch := omega) only [wC, if_pos, if_neg])); refine hJ10 _ _ ?_; refine sr fun _ hJ12 => ?_; refine hJ12 _ _ ?_; refine cs (fun c23 => ?_) (fun c23 => ?_)
   · (try exact nope c23); all_goals have c23p := c23; try simp [F] at c23p
     all_goals
      replace F := aF c23 F; try replace F := aF c23p F
      have hw : ¬ E = 0 := by have h := c23; simpa using h
      obtain ⟨rfl, rfl⟩ : PT = T ∧ PE = 2 := by rw [mintB, if_neg (Classical.not_not.2 hR), if_pos (hE ▸ hw)] at hP; simpa using hP
      have hE2 : E = 2 := by omega
      replace F := aF hE2 F; refine sr fun _ hJ14 => ?_; refine hJ14 _ _ ?_; refine ra ?_; exact ⟨G, hi.mono (by omega), by simp [F], hself.symm⟩
   (try exact nope c23); all_goals have c23p := c23; try simp [F] at c23p
   all_goals
    replace F := aF c23 F; try replace F := aF c23p F
    have hw : E = 0 := by have h := c23; simpa using h
    obtain ⟨hPT, rfl⟩ : PT = upd (upd T none (addC (T none) l)) (some b) (addC (T (some b)) l) ∧ PE = 0 := by rw [mintB, if_neg (Classical.not_not.2 hR), if_neg (Classical.not_not.2 (hE ▸ hw))] at hP; simpa using hP
    refine run_skip ?_; refine hK8 _ _ ?_; refine sr fun _ hJ16 => ?_; refine ca (c := ha1 hR.2 hw) (k := ?_); rintro _ _ ⟨G1, e1, rfl, rfl⟩; (repeat (first | simp [F] | simp (disch := omega) only [wC, if_pos, if_neg])); refine hJ16 _ _ ?_; refine sr fun _ hJ18 => ?_; refine ca (c := ha2 hR.2 hw G1 e1) (k := ?_); rintro _ _ ⟨G2, e2, rfl, rfl⟩; (repeat (first | simp [F] | simp (disch := omega) only [wC, if_pos, if_neg])); refine hJ18 _ _ ?_; refine sr fun _ hJ20 => ?_; refine hJ20 _ _ ?_; refine ra ?_; exact ⟨G2, by rw [hPT]; exact e2, rfl, rfl⟩

set_option maxHeartbeats 1600000 in
attribute [local simp] undefA List.getElem?_cons_zero List.getElem?_cons_succ in
theorem burn_ok2 {σ : St} {o k n : Nat} {G : Sg} {T : Tb} {a : UInt8} {l : List Coin} (h : HasS σ o k G) (hi : BankS G.s T n) (hn : n ≤ 900) (hl : l.length ≤ 9223372036854775807) :
    CallsA Try.prog 36 [.ptr o 0, .v (.int .u8 a.toNat), .sl 5 (coinsC l) l.length .shut] σ (fun av σ' => ∃ G', BankS G'.s (burnB T a l).T (n + 16) ∧ av = .v (.int .i64 ((burnB T a l).e : Nat)) ∧ σ' = putS σ o k G') := by
  obtain ⟨⟨PT, PE⟩, hP⟩ : ∃ P, P = burnB T a l := ⟨_, rfl⟩
  rw [← hP]
  simp only
  have hmy := may1_ok (σ := σ) (o := o) (a := a) hl
  have hco := coinsB_ok (a := a) h hi (by omega)
  have hRa := right_len (hi.rt (some a))
  have hwi := cwith_ok (σ := σ) (a := l) (b := T (some a)) hl (by omega)
  have hself := putS_self h
  have htk : Right l → CallsA Try.prog 62 [.ptr o 0, .sl 5 (coinsC l) l.length .shut, .sl 1 [.v (.int .u8 98), .v (.int .u8 a.toNat)] 2 .full] σ (fun av σ' => ∃ G', BankS G'.s (upd T (some a) (cRest (T (some a)) l)) (n + 8) ∧ av = .tup [] ∧ σ' = putS σ o k G') := fun hR => take_ok2 (O := some a) h hi (by omega) hR
  have had : Right l → ∀ G1, BankS G1.s (upd T (some a) (cRest (T (some a)) l)) (n + 8) → CallsA Try.prog 62 [.ptr o 0, .sl 5 (coinsC l) l.length .shut, .sl 1 [.v (.int .u8 115)] 1 .full] (putS σ o k G1) (fun av σ' => ∃ G', BankS G'.s (upd (upd T (some a) (cRest (T (some a)) l)) none (cRest (T none) l)) (n + 8 + 8) ∧ av = .tup [] ∧ σ' = putS σ o k G') := fun hR G1 h1 => by
    have e0 : upd T (some a) (cRest (T (some a)) l) none = T none := upd_ne _ _ (by simp)
    have := take_ok2 (O := none) (h.put G1) h1 (by omega) hR
    rw [e0] at this
    exact callsA_mono this (fun av σ' ⟨G', e1, e2, e3⟩ => ⟨G', e1, e2, by rw [e3, putS_put]⟩)
  have F := True.intro
  refine callsA_body Try.func36 rfl rfl rfl ?_; refine sr fun _ hJ2 => ?_; refine hJ2 _ _ ?_; refine sq fun K3 hK3 => ?_; refine run_block_k ?_; refine sr fun _ hJ5 => ?_; refine ca (c := hmy) (k := ?_); rintro _ _ ⟨rfl, rfl⟩; (repeat (first | simp [F] | simp (disch := omega) only [wC, if_pos, if_neg])); refine hJ5 _ _ ?_; refine cs (fun c7 => ?_) (fun c7 => ?_)
  · (try exact nope c7); all_goals have c7p := c7; try simp [F] at c7p
    all_goals
     replace F := aF c7 F; try replace F := aF c7p F
     have hR : ¬ (isB a = true ∧ Right l) := by have h := c7; simp at h; intro q; simp [q.1, q.2] at h
     obtain ⟨rfl, rfl⟩ : PT = T ∧ PE = 1 := by rw [burnB, if_pos hR] at hP; simpa using hP
     refine sr fun _ hJ7 => ?_; refine hJ7 _ _ ?_; refine ra ?_; exact ⟨G, hi.mono (by omega), rfl, hself.symm⟩
  (try exact nope c7); all_goals have c7p := c7; try simp [F] at c7p
  all_goals
   replace F := aF c7 F; try replace F := aF c7p F
   have hR : isB a = true ∧ Right l := by have h := c7; simp at h; exact h
   refine sr fun _ hJ9 => ?_; refine ca (c := hco) (k := ?_); rintro _ _ ⟨rfl, rfl⟩; (repeat (first | simp [F] | simp (disch := omega) only [wC, if_pos, if_neg])); refine ca (c := hwi) (k := ?_); rintro _ _ ⟨rfl, rfl⟩; (repeat (first | simp [F] | simp (disch := omega) only [wC, if_pos, if_neg])); refine hJ9 _ _ ?_; refine cs (fun c14 => ?_) (fun c14 => ?_)
   · (try exact nope c14); all_goals have c14p := c14; try simp [F] at c14p
     all_goals
      replace F := aF c14 F; try replace F := aF c14p F
      have hw : ¬ cWith l (T (some a)) := by have h := c14; simpa using h
      obtain ⟨rfl, rfl⟩ : PT = T ∧ PE = 3 := by rw [burnB, if_neg (Classical.not_not.2 hR), if_pos hw] at hP; simpa using hP
      refine sr fun _ hJ11 => ?_; refine hJ11 _ _ ?_; refine ra ?_; exact ⟨G, hi.mono (by omega), rfl, hself.symm⟩
   (try exact nope c14); all_goals have c14p := c14; try simp [F] at c14p
   all_goals
    replace F := aF c14 F; try replace F := aF c14p F
    have hw : cWith l (T (some a)) := by have h := c14; simpa using h
    obtain ⟨hPT, rfl⟩ : PT = upd (upd T (some a) (cRest (T (some a)) l)) none (cRest (T none) l) ∧ PE = 0 := by rw [burnB, if_neg (Classical.not_not.2 hR), if_neg (Classical.not_not.2 hw)] at hP; simpa using hP
    refine run_skip ?_; refine hK3 _ _ ?_; refine sr fun _ hJ13 => ?_; refine ca (c := htk hR.2) (k := ?_); rintro _ _ ⟨G1, e1, rfl, rfl⟩; (repeat (first | simp [F] | simp (disch := omega) only [wC, if_pos, if_neg])); refine hJ13 _ _ ?_; refine sr fun _ hJ15 => ?_; refine ca (c := had hR.2 G1 e1) (k := ?_); rintro _ _ ⟨G2, e2, rfl, rfl⟩; (repeat (first | simp [F] | simp (disch := omega) only [wC, if_pos, if_neg])); refine hJ15 _ _ ?_; refine sr fun _ hJ17 => ?_; refine hJ17 _ _ ?_; refine ra ?_; exact ⟨G2, by rw [hPT]; exact e2, rfl, rfl⟩
def Sp (σ : St) (G : Sg) (l : List (List AV)) : St := { σ with objs := σ.objs ++ stC σ.rows.length G :: l, rows := σ.rows ++ [stR1 G, stR2 G, stR3 G] }
theorem Sp.has (σ : St) (G : Sg) (l : List (List AV)) : HasS (Sp σ G l) σ.objs.length σ.rows.length G := ⟨by simp [Sp], by simp [Sp], by simp [Sp], by simp [Sp]⟩
theorem Sp.put (σ : St) (G G' : Sg) (l : List (List AV)) : putS (Sp σ G l) σ.objs.length σ.rows.length G' = Sp σ G' l := by simp [Sp, putS]
theorem Sp.app (σ : St) (G : Sg) (l : List (List AV)) (x : List AV) : { Sp σ G l with objs := (Sp σ G l).objs ++ [x] } = Sp σ G (l ++ [x]) := by simp [Sp]
theorem Sp.len (σ : St) (G : Sg) (l : List (List AV)) : (Sp σ G l).objs.length = σ.objs.length + (1 + l.length) := by simp [Sp]; omega
theorem newSp_ok {σ : St} : CallsA Try.prog 16 [] σ (fun av σ' => av = .ptr σ.objs.length 0 ∧ σ' = Sp σ newSg []) := new_st_ok
def nn (x : Nat) (h : x < 2 ^ 256 := by decide) : Num := ⟨x, h⟩
def b1T : Tb := (mintB tb0 1 [⟨0, nn 5⟩]).T
def b2T : Tb := (sendB b1T 1 3 [⟨0, nn 2⟩]).T
def b3T : Tb := (burnB b2T 3 [⟨0, nn 1⟩]).T
theorem b1e : (mintB tb0 1 [⟨0, nn 5⟩]).e = 0 := by kernel_rfl
theorem b2e : (sendB b1T 1 3 [⟨0, nn 2⟩]).e = 0 := by kernel_rfl
theorem b3e : (burnB b2T 3 [⟨0, nn 1⟩]).e = 0 := by kernel_rfl
theorem b3s : b3T none = [⟨0, nn 4⟩] := by kernel_rfl
theorem b3b : amt (b3T (some 1)) 0 = 3 := by kernel_rfl
theorem oneC (x : Nat) (hx : x < 2 ^ 64) (h : x < 2 ^ 256) : coinsC [⟨0, nn x h⟩] = [.v (.int .u8 0), .v (.int .u64 x), .v (.int .u64 0), .v (.int .u64 0), .v (.int .u64 0)] := by
  have e0 : limb x 0 = x := by unfold limb; simp; omega
  have e1 : limb x 1 = 0 := by unfold limb; simp; omega
  have e2 : limb x 2 = 0 := by unfold limb; simp; omega
  have e3 : limb x 3 = 0 := by unfold limb; simp; omega
  simp [coinsC, coinC, nn, numA, e0, e1, e2, e3]
set_option maxHeartbeats 1600000 in
attribute [local simp] undefA List.getElem?_cons_zero List.getElem?_cons_succ in
theorem sends_ok {σ : St} : CallsA Try.prog 14 [] σ (fun av σ' => av = .v (.bool true) ∧ σ = σ') := by
  refine callsA_gcS ?_ rfl
  have s1 : SumT b1T := sumT_mint SumT.nil
  have s2 : SumT b2T := sumT_send s1
  have c1 : CallsA Try.prog 35 [.ptr σ.objs.length 0, .v (.int .u8 1), .sl 5 [.v (.int .u8 0), .v (.int .u64 5), .v (.int .u64 0), .v (.int .u64 0), .v (.int .u64 0)] 1 .full] (Sp σ newSg []) (fun av σ' => ∃ G', BankS G'.s b1T 16 ∧ av = .v (.int .i64 0) ∧ σ' = Sp σ G' []) := by
    have := mint_ok2 (b := 1) (l := [⟨0, nn 5⟩]) (Sp.has σ newSg []) BankS.nil SumT.nil (by omega) (by simp)
    rw [b1e, oneC 5 (by decide)] at this
    refine callsA_wk (.cons (Wk.refl _) (.cons (Wk.refl _) (.cons (Wk.shut _ _ _ _) .nil))) (callsA_mono this (fun av σ' ⟨G', e1, e2, e3⟩ => ⟨G', e1, e2, by rw [e3, Sp.put]⟩))
  have c2 : ∀ G, BankS G.s b1T 16 → CallsA Try.prog 34 [.ptr σ.objs.length 0, .v (.int .u8 1), .v (.int .u8 3), .sl 5 [.v (.int .u8 0), .v (.int .u64 2), .v (.int .u64 0), .v (.int .u64 0), .v (.int .u64 0)] 1 .full] (Sp σ G []) (fun av σ' => ∃ G', BankS G'.s b2T 32 ∧ av = .v (.int .i64 0) ∧ σ' = Sp σ G' []) := fun G hG => by
    have := send_ok2 (a := 1) (b := 3) (l := [⟨0, nn 2⟩]) (Sp.has σ G []) hG s1 (by omega) (by simp)
    rw [b2e, oneC 2 (by decide)] at this
    refine callsA_wk (.cons (Wk.refl _) (.cons (Wk.refl _) (.cons (Wk.refl _) (.cons (Wk.shut _ _ _ _) .nil)))) (callsA_mono this (fun av σ' ⟨G', e1, e2, e3⟩ => ⟨G', e1, e2, by rw [e3, Sp.put]⟩))
  have c3 : ∀ G, BankS G.s b2T 32 → CallsA Try.prog 36 [.ptr σ.objs.length 0, .v (.int .u8 3), .sl 5 [.v (.int .u8 0), .v (.int .u64 1), .v (.int .u64 0), .v (.int .u64 0), .v (.int .u64 0)] 1 .full] (Sp σ G []) (fun av σ' => ∃ G', BankS G'.s b3T 48 ∧ av = .v (.int .i64 0) ∧ σ' = Sp σ G' []) := fun G hG => by
    have := burn_ok2 (a := 3) (l := [⟨0, nn 1⟩]) (Sp.has σ G []) hG (by omega) (by simp)
    rw [b3e, oneC 1 (by decide)] at this
    refine callsA_wk (.cons (Wk.refl _) (.cons (Wk.refl _) (.cons (Wk.shut _ _ _ _) .nil))) (callsA_mono this (fun av σ' ⟨G', e1, e2, e3⟩ => ⟨G', e1, e2, by rw [e3, Sp.put]⟩))
  have c4 : ∀ G, BankS G.s b3T 48 → CallsA Try.prog 31 [.ptr σ.objs.length 0] (Sp σ G []) (fun av σ' => av = .sl 5 [.v (.int .u8 0), .v (.int .u64 4), .v (.int .u64 0), .v (.int .u64 0), .v (.int .u64 0)] 1 .shut ∧ Sp σ G [] = σ') := fun G hG => by
    have := supply_ok (Sp.has σ G []) hG (by omega)
    rw [b3s, oneC 4 (by decide)] at this
    exact this
  have c5 : ∀ G, BankS G.s b3T 48 → CallsA Try.prog 18 [.ptr σ.objs.length 0, .v (.int .u8 1), .v (.int .u8 0)] (Sp σ G []) (fun av σ' => av = .agg [.v (.int .u64 3), .v (.int .u64 0), .v (.int .u64 0), .v (.int .u64 0)] ∧ Sp σ G [] = σ') := fun G hG => by
    have := balance_ok (a := 1) (d := 0) (Sp.has σ G []) hG (by omega)
    rw [show (0 : UInt8).toNat = 0 from rfl, b3b] at this
    have e : numA 3 = [.v (.int .u64 3), .v (.int .u64 0), .v (.int .u64 0), .v (.int .u64 0)] := by simp [numA, limb]
    rw [e] at this
    exact this
  have s3 : SumT b3T := sumT_burn s2
  have c6 : ∀ G, BankS G.s b3T 48 → CallsA Try.prog 34 [.ptr σ.objs.length 0, .v (.int .u8 1), .v (.int .u8 250), .sl 0 [] 0 .full] (Sp σ G []) (fun av σ' => ∃ G', BankS G'.s b3T 64 ∧ av = .v (.int .i64 1) ∧ σ' = Sp σ G' []) := fun G hG => by
    have := send_ok2 (a := 1) (b := 250) (l := []) (Sp.has σ G []) hG s3 (by omega) (by simp)
    have e : sendB b3T 1 250 [] = ⟨b3T, 1⟩ := by unfold sendB; rw [if_pos (by simp [isB])]
    rw [e] at this
    exact callsA_wk (.cons (Wk.refl _) (.cons (Wk.refl _) (.cons (Wk.refl _) (.cons (Wk.nil _ _ _) .nil)))) (callsA_mono this (fun av σ' ⟨G', e1, e2, e3⟩ => ⟨G', e1, e2, by rw [e3, Sp.put]⟩))
  have F := True.intro
  refine callsA_body Try.func14 rfl rfl rfl ?_; refine sr fun _ hJ2 => ?_; refine hJ2 _ _ ?_; refine sr fun _ hJ4 => ?_; refine ca (c := newSp_ok) (k := ?_); rintro _ _ ⟨rfl, rfl⟩; (repeat (first | simp [F] | simp (disch := omega) only [wC, if_pos, if_neg])); refine hJ4 _ _ ?_; refine sr fun _ hJ6 => ?_; refine hJ6 _ _ ?_; refine sr fun _ hJ8 => ?_; refine hJ8 _ _ ?_; refine sr fun _ hJ10 => ?_; refine hJ10 _ _ ?_; refine sq fun K11 hK11 => ?_; refine sr fun _ hJ13 => ?_; refine ca (c := c1) (k := ?_); rintro _ _ ⟨G1, e1, rfl, rfl⟩; (repeat (first | simp [F] | simp (disch := omega) only [wC, if_pos, if_neg])); (iterate 2 refine go2 (k := ?_)); refine ca (c := c2 G1 e1) (k := ?_); rintro _ _ ⟨G2, e2, rfl, rfl⟩; (repeat (first | simp [F] | simp (disch := omega) only [wC, if_pos, if_neg])); (iterate 3 refine go2 (k := ?_)); refine ca (c := c3 G2 e2) (k := ?_); rintro _ _ ⟨G3, e3, rfl, rfl⟩; (repeat (first | simp [F] | simp (disch := omega) only [wC, if_pos, if_neg])); refine go2 (k := ?_); refine hJ13 _ _ ?_; refine cf ?_; refine run_skip ?_; refine hK11 _ _ ?_; refine sr fun _ hJ15 => ?_; refine ca (c := c4 G3 e3) (k := ?_); rintro _ _ ⟨rfl, rfl⟩; (repeat (first | simp [F] | simp (disch := omega) only [wC, if_pos, if_neg])); refine hJ15 _ _ ?_; refine sr fun _ hJ17 => ?_; (iterate 7 refine go2 (k := ?_)); refine ca (c := c5 G3 e3) (k := ?_); rintro _ _ ⟨rfl, rfl⟩; (repeat (first | simp [F] | simp (disch := omega) only [wC, if_pos, if_neg])); (iterate 3 refine go2 (k := ?_)); refine ca (c := c6 G3 e3) (k := ?_); rintro _ _ ⟨G4, e4, rfl, rfl⟩; (repeat (first | simp [F] | simp (disch := omega) only [wC, if_pos, if_neg])); refine go2 (k := ?_); refine hJ17 _ _ ?_; refine ra ?_; simp only [Sp]
  exact gcr
theorem get_dropB {l : List AV} {i j : Nat} {x : AV} (h : (l.drop i)[j]? = some x) : ∀ h2 : i + j < l.length, l[i + j]'h2 = x := fun h2 => by
  rw [List.getElem?_drop] at h
  exact (List.getElem?_eq_some_iff.1 h).2
structure Bl where
  a : UInt8
  l : List Coin
def ltA (x y : Bl) : Prop := x.a.toNat < y.a.toNat
def balC (b : Bl) : List AV := [.v (.int .u8 b.a.toNat), cos b.l]
def balsC (l : List Bl) : List AV := l.flatMap balC
theorem balsC_len (l : List Bl) : (balsC l).length = l.length * 2 := flat_length balC 2 (fun _ => rfl) l
theorem balsC_app (l m : List Bl) : balsC (l ++ m) = balsC l ++ balsC m := by simp [balsC]
theorem balC_under (B : Bd) (v : Bl) : underL B (balC v) = true := by simp [balC, cos, underL, AV.under]
theorem balC_noObj (n : Nat) (v : Bl) : noObjL n (balC v) = true := by simp [balC, cos, noObjL, AV.noObj]
theorem balsC_under (B : Bd) (l : List Bl) : underL B (balsC l) = true := underL_flat (balC_under B) l
theorem balsC_noObj (nb : Nat) (l : List Bl) : noObjL nb (balsC l) = true := noObjL_flat (balC_noObj nb) l
theorem balsC_at {l : List Bl} {i : Nat} (h : i < l.length) : ∃ R, (balsC l).drop (i * 2) = balC l[i] ++ R := ⟨_, flat_at balC 2 (fun _ => rfl) l i h⟩
theorem cellBl (v : Bl) : (∀ x ∈ balC v, AV.isCell x = true) := fun x hx => by simp only [balC, cos, List.mem_cons, List.not_mem_nil, or_false] at hx; rcases hx with rfl | rfl <;> rfl

def bE (T : Tb) (i : Nat) : List Bl := if T (some (UInt8.ofNat i)) = [] then [] else [⟨UInt8.ofNat i, T (some (UInt8.ofNat i))⟩]
def balsT (T : Tb) : Nat → List Bl
  | 0 => []
  | n + 1 => balsT T n ++ bE T n
def bals (T : Tb) : List Bl := balsT T 256
theorem mem_bE {T : Tb} {i : Nat} {b : Bl} (hi : i < 256) : b ∈ bE T i ↔ b.a.toNat = i ∧ b.l = T (some b.a) ∧ b.l ≠ [] := by
  unfold bE
  constructor
  · intro h
    split at h
    · simp at h
    · rename_i hne
      simp only [List.mem_singleton] at h
      subst h
      exact ⟨toNat_ofNat hi, rfl, hne⟩
  · intro ⟨h1, h2, h3⟩
    have e : UInt8.ofNat i = b.a := by rw [← h1]; exact UInt8.toNat_inj.1 (toNat_ofNat b.a.toNat_lt)
    rw [e, if_neg (by rw [← h2]; exact h3), ← h2]
    simp
theorem mem_balsT {T : Tb} {b : Bl} : ∀ n, n ≤ 256 → (b ∈ balsT T n ↔ b.a.toNat < n ∧ b.l = T (some b.a) ∧ b.l ≠ [])
  | 0, _ => by simp [balsT]
  | n + 1, hn => by
    rw [balsT, List.mem_append, mem_balsT n (by omega), mem_bE (by omega)]
    constructor
    · rintro (⟨h1, h2⟩ | ⟨h1, h2⟩)
      · exact ⟨by omega, h2⟩
      · exact ⟨by omega, h2⟩
    · intro ⟨h1, h2⟩
      by_cases e : b.a.toNat = n
      · exact .inr ⟨e, h2⟩
      · exact .inl ⟨by omega, h2⟩
theorem mem_bals {T : Tb} {b : Bl} : b ∈ bals T ↔ b.l = T (some b.a) ∧ b.l ≠ [] := by
  rw [bals, mem_balsT 256 (Nat.le_refl _)]
  exact ⟨fun h => h.2, fun h => ⟨b.a.toNat_lt, h⟩⟩
theorem srt_balsT {T : Tb} : ∀ n, n ≤ 256 → (balsT T n).Pairwise ltA
  | 0, _ => .nil
  | n + 1, hn => by
    rw [balsT, List.pairwise_append]
    refine ⟨srt_balsT n (by omega), ?_, fun x hx y hy => ?_⟩
    · unfold bE; split
      · exact .nil
      · exact List.pairwise_singleton _ _
    · have h1 := (mem_balsT n (by omega)).1 hx
      have h2 := (mem_bE (by omega)).1 hy
      show x.a.toNat < y.a.toNat
      omega
theorem srt_bals (T : Tb) : (bals T).Pairwise ltA := srt_balsT 256 (Nat.le_refl _)
theorem balsT_len (T : Tb) : ∀ n, (balsT T n).length ≤ n
  | 0 => Nat.le_refl _
  | n + 1 => by
    have h : (bE T n).length ≤ 1 := by unfold bE; split <;> simp
    rw [balsT, List.length_append]
    have := balsT_len T n
    omega
theorem bals_len (T : Tb) : (bals T).length ≤ 256 := balsT_len T 256
theorem bals_congr {T U : Tb} (h : ∀ a, T (some a) = U (some a)) : bals T = bals U := by
  have : ∀ n, balsT T n = balsT U n := fun n => by
    induction n with
    | zero => rfl
    | succ n ih => rw [balsT, balsT, ih, bE, bE, h]
  exact this 256
theorem bals_none (T : Tb) (l : List Coin) : bals (upd T none l) = bals T := bals_congr fun a => upd_ne _ _ (by simp)
theorem srtA_ext : ∀ {l m : List Bl}, l.Pairwise ltA → m.Pairwise ltA → (∀ b, b ∈ l ↔ b ∈ m) → l = m
  | [], [], _, _, _ => rfl
  | [], y :: m, _, _, h => absurd ((h y).2 (by simp)) (by simp)
  | x :: l, [], _, _, h => absurd ((h x).1 (by simp)) (by simp)
  | x :: l, y :: m, h1, h2, h => by
    have p1 := List.pairwise_cons.1 h1
    have p2 := List.pairwise_cons.1 h2
    have e : x = y := by
      rcases List.mem_cons.1 ((h x).1 (by simp)) with e | e
      · exact e
      · rcases List.mem_cons.1 ((h y).2 (by simp)) with e2 | e2
        · exact e2.symm
        · have a1 := p2.1 x e; have a2 := p1.1 y e2
          unfold ltA at a1 a2; omega
    subst e
    rw [srtA_ext p1.2 p2.2 (fun b => ?_)]
    constructor
    · intro hb
      rcases List.mem_cons.1 ((h b).1 (by simp [hb])) with e | e
      · subst e; have := p1.1 b hb; unfold ltA at this; omega
      · exact e
    · intro hb
      rcases List.mem_cons.1 ((h b).2 (by simp [hb])) with e | e
      · subst e; have := p2.1 b hb; unfold ltA at this; omega
      · exact e

def pGo (n : Bl) : List Bl → Bool → List Bl → List Bl
  | [], b, out => if b then out else out ++ [n]
  | x :: r, b, out => if b = false ∧ n.a.toNat < x.a.toNat then (if x.a ≠ n.a then pGo n r true (out ++ [n] ++ [x]) else pGo n r true (out ++ [n])) else (if x.a ≠ n.a then pGo n r b (out ++ [x]) else pGo n r b out)
def putF (n : Bl) (z : Bool) (B : List Bl) : List Bl := B.filter (fun x => decide (x.a.toNat < n.a.toNat)) ++ (if z then [] else [n]) ++ B.filter (fun x => decide (n.a.toNat < x.a.toNat))
theorem ne_lt {x n : Bl} (h : n.a.toNat < x.a.toNat) : x.a ≠ n.a := fun e => by rw [e] at h; omega
theorem pGo_done {n : Bl} : ∀ {l out : List Bl}, (∀ x ∈ l, ltA n x) → pGo n l true out = out ++ l
  | [], out, _ => by simp [pGo]
  | x :: l, out, h => by rw [pGo, if_neg (by simp), if_pos (ne_lt (h x (by simp))), pGo_done (fun y hy => h y (by simp [hy]))]; simp
theorem pGo_gt {n : Bl} : ∀ {l out : List Bl}, (∀ x ∈ l, ltA n x) → pGo n l false out = out ++ n :: l
  | [], out, _ => by simp [pGo]
  | x :: l, out, h => by rw [pGo, if_pos ⟨rfl, h x (by simp)⟩, if_pos (ne_lt (h x (by simp))), pGo_done (fun y hy => h y (by simp [hy]))]; simp
theorem filt_gt {n : Bl} {l : List Bl} (h : ∀ x ∈ l, ltA n x) : l.filter (fun x => decide (x.a.toNat < n.a.toNat)) = [] ∧ l.filter (fun x => decide (n.a.toNat < x.a.toNat)) = l := by
  constructor
  · rw [List.filter_eq_nil_iff]; intro x hx; have := h x hx; unfold ltA at this; simp; omega
  · rw [List.filter_eq_self]; intro x hx; have := h x hx; unfold ltA at this; simpa using this
theorem pGo_all {n : Bl} {z : Bool} : ∀ {l out : List Bl}, l.Pairwise ltA → pGo n l z out = out ++ putF n z l
  | [], out, _ => by cases z <;> simp [pGo, putF]
  | x :: l, out, h => by
    have l1 := List.pairwise_cons.1 h
    have ih := fun out => pGo_all (n := n) (z := z) (out := out) l1.2
    by_cases e2 : n.a.toNat < x.a.toNat
    · have hg : ∀ y ∈ x :: l, ltA n y := fun y hy => by
        rcases List.mem_cons.1 hy with rfl | hy
        · exact e2
        · have := l1.1 y hy; unfold ltA at *; omega
      rw [putF, (filt_gt hg).1, (filt_gt hg).2]
      cases z with
      | true => rw [pGo_done hg]; simp
      | false => rw [pGo_gt hg]; simp
    · rw [pGo, if_neg (fun q => e2 q.2)]
      by_cases e : x.a = n.a
      · have hg : ∀ y ∈ l, ltA n y := fun y hy => by have := l1.1 y hy; unfold ltA at *; rw [e] at this; exact this
        rw [if_neg (fun q => q e), putF, List.filter_cons_of_neg (by rw [e]; simp), List.filter_cons_of_neg (by rw [e]; simp), (filt_gt hg).1, (filt_gt hg).2]
        cases z with
        | true => rw [pGo_done hg]; simp
        | false => rw [pGo_gt hg]; simp
      · have e3 : x.a.toNat < n.a.toNat := by
          have : x.a.toNat ≠ n.a.toNat := fun q => e (UInt8.toNat_inj.1 q)
          omega
        rw [if_pos e, ih, putF, putF, List.filter_cons_of_pos (by simpa using e3), List.filter_cons_of_neg (by simpa using e2)]
        simp
theorem putF_bals {T : Tb} {a : UInt8} {l : List Coin} : putF ⟨a, l⟩ (decide (l.length = 0)) (bals T) = bals (upd T (some a) l) := by
  have hs := srt_bals T
  have hz : ∀ b, b ∈ (if decide (l.length = 0) = true then ([] : List Bl) else [⟨a, l⟩]) ↔ b = ⟨a, l⟩ ∧ l ≠ [] := fun b => by
    by_cases e : l = [] <;> simp [e]
  refine srtA_ext ?_ (srt_bals _) (fun b => ?_)
  · unfold putF
    rw [List.append_assoc, List.pairwise_append, List.pairwise_append]
    refine ⟨hs.filter _, ⟨?_, hs.filter _, fun x hx y hy => ?_⟩, fun x hx y hy => ?_⟩
    · split
      · exact .nil
      · exact List.pairwise_singleton _ _
    · have e := ((hz x).1 hx).1
      subst e
      have := (List.mem_filter.1 hy).2
      show a.toNat < y.a.toNat
      simpa using this
    · have h1 : x.a.toNat < a.toNat := by simpa using (List.mem_filter.1 hx).2
      rcases List.mem_append.1 hy with hy | hy
      · have e := ((hz y).1 hy).1
        subst e; exact h1
      · have h2 : a.toNat < y.a.toNat := by simpa using (List.mem_filter.1 hy).2
        show x.a.toNat < y.a.toNat
        omega
  · rw [mem_bals]
    unfold putF
    rw [List.mem_append, List.mem_append, List.mem_filter, List.mem_filter, mem_bals, hz]
    simp only [decide_eq_true_eq]
    by_cases e : b.a = a
    · rw [show upd T (some a) l (some b.a) = l by rw [e]; exact upd_self _ _ _, e]
      constructor
      · rintro ((⟨_, h⟩ | ⟨h, h2⟩) | ⟨_, h⟩)
        · omega
        · rw [h]; exact ⟨rfl, h2⟩
        · omega
      · intro ⟨h1, h2⟩
        cases b; simp only at e h1 h2; subst e h1
        exact .inl (.inr ⟨rfl, h2⟩)
    · rw [upd_ne T _ (fun q => e (Option.some.inj q))]
      have : b.a.toNat ≠ a.toNat := fun q => e (UInt8.toNat_inj.1 q)
      constructor
      · rintro ((⟨h, _⟩ | ⟨h, h2⟩) | ⟨h, _⟩)
        · exact h
        · exact absurd (by rw [h]) e
        · exact h
      · intro h
        by_cases q : b.a.toNat < a.toNat
        · exact .inl (.inl ⟨h, q⟩)
        · exact .inr ⟨h, by omega⟩

def bX (x y : AV) : List AV := [.v (.int .u64 0), x, y, .sl 0 [] 0 .full, .sl 0 [] 0 .full, .sl 0 [] 0 .full, .sl 0 [] 0 .full, .sl 0 [] 0 .full]
def bC (T : Tb) : List AV := bX (.sl 5 (coinsC (T none)) (T none).length .shut) (.sl 2 (balsC (bals T)) (bals T).length .shut)
theorem bX_wk {x x' y y' : AV} (hx : Wk x x') (hy : Wk y y') : WkL (bX x y) (bX x' y') :=
  .cons (Wk.refl _) (.cons hx (.cons hy (.cons (Wk.refl _) (.cons (Wk.refl _) (.cons (Wk.refl _) (.cons (Wk.refl _) (.cons (Wk.refl _) .nil)))))))
theorem bC_under (B : Bd) (T : Tb) : underL B (bC T) = true := by simp [bC, bX, underL, AV.under, balsC_under]
def putBk (σ : St) (m : Nat) (T : Tb) : St := { σ with objs := σ.objs.set m (bC T) }
theorem putBk_put (σ : St) (m : Nat) (T U : Tb) : putBk (putBk σ m T) m U = putBk σ m U := by simp [putBk]
theorem putBk_get {σ : St} {m : Nat} (T : Tb) (h : m < σ.objs.length) : (putBk σ m T).objs[m]? = some (bC T) := by simp [putBk, h]
theorem putBk_len (σ : St) (m : Nat) (T : Tb) : (putBk σ m T).objs.length = σ.objs.length := by simp [putBk]
theorem putBk_self {σ : St} {m : Nat} {T : Tb} (h : σ.objs[m]? = some (bC T)) : putBk σ m T = σ := by rw [putBk, set_same' h]
theorem bcall {P : Program} {f : FuncId} {args : List AV} {σ : St} {m : Nat} {W : Tb} {A : AV} (hw : m < σ.objs.length) (hA : A.under σ.bd = true)
    (k : CallsA P f args σ (fun av σ' => av = A ∧ ∃ tk x y l r, Wk x (.sl 5 (coinsC (W none)) (W none).length .shut) ∧ Wk y (.sl 2 (balsC (bals W)) (bals W).length .shut) ∧ σ' = { σ with objs := σ.objs.set m (bX x y) ++ l, toks := σ.toks ++ tk, rows := σ.rows ++ r })) :
    CallsA P f args σ (fun av σ' => av = A ∧ σ' = putBk σ m W) := by
  refine callsA_gcT (A := A) (τ := putBk σ m W) ?_ hA (by simp [putBk]) rfl rfl rfl (ku_set (ku_refl _) (bC_under _ _)) (kur_refl _)
  refine callsA_wkS k (fun av σ' h => ?_)
  obtain ⟨rfl, tk, x, y, l, r, hx, hy, rfl⟩ := h
  refine ⟨av, { σ with objs := σ.objs.set m (bC W) ++ l, toks := σ.toks ++ tk, rows := σ.rows ++ r }, Wk.refl _, ?_, Wk.refl _, l, tk, r, by simp [putBk]⟩
  rw [← List.set_append_left _ _ hw, ← List.set_append_left _ _ hw]
  exact WkS.set (σ := { σ with toks := σ.toks ++ tk, rows := σ.rows ++ r }) (bX_wk hx hy)

set_option maxHeartbeats 1600000 in
attribute [local simp] undefA List.getElem?_cons_zero List.getElem?_cons_succ in
theorem rcoins_ok {σ : St} {m : Nat} {T : Tb} {a : UInt8} (h : σ.objs[m]? = some (bC T)) :
    CallsA Try.prog 20 [.ptr m 0, .v (.int .u8 a.toNat)] σ (fun av σ' => av = .sl 5 (coinsC (T (some a))) (T (some a)).length .shut ∧ σ = σ') := by
  refine callsA_gcS ?_ (by simp [AV.under])
  have hmem := fun b => mem_bals (T := T) (b := b)
  obtain ⟨B, hB⟩ : ∃ B, B = bals T := ⟨_, rfl⟩
  have hBl : B.length ≤ 256 := by rw [hB]; exact bals_len T
  simp only [bC, bX, ← hB] at h hmem
  have hBc := balsC_len B
  have hge : ∀ h2 : m < σ.objs.length, σ.objs[m]'h2 = _ := fun h2 => (List.getElem?_eq_some_iff.1 h).2
  have hml := lt_of_get h
  have F := And.intro h (And.intro hge (And.intro hml (And.intro hBc (True.intro))))
  refine callsA_body Try.func20 rfl rfl rfl ?_; refine sr fun _ hJ2 => ?_; refine hJ2 _ _ ?_; refine sq fun K3 hK3 => ?_; refine sr fun _ hJ5 => ?_; refine hJ5 _ _ ?_; refine run_block_k ?_; refine run_loopF (X := Nat) [0, 1] (fun i ρ σ1 => (i ≤ B.length) ∧ (∀ j (hj : j < B.length), j < i → B[j].a ≠ a) ∧ (ρ 5 = .v (.int .i64 i)) ∧ (σ1 = σ)) (fun i => B.length - i) (0) ?st1 ?rd1
  case st1 =>
   refine ⟨lp, ?_, lp, lp⟩
   · intro j hj q
     omega
  case rd1 =>
   rintro i ρ1 σ1 hF1 ⟨h1, h2, h5, hσ⟩; obtain rfl := hσ.symm
   have f1 := keepL hF1
   (try simp [KeepL, F] at f1); replace F := aF h5 F; (try replace F := aF f1 F); refine sq fun K6 hK6 => ?_; refine sr fun _ hJ8 => ?_; refine hJ8 _ _ ?_; refine cs (fun c12 => ?_) (fun c12 => ?_)
   · (try exact nope c12); all_goals have c12p := c12; try simp [F] at c12p
     all_goals
      replace F := aF c12 F; try replace F := aF c12p F
      have hlt : i < B.length := by have h := c12; simp at h; omega
      obtain ⟨R, hR⟩ := balsC_at hlt
      obtain ⟨b, hb⟩ : ∃ b, b = B[i] := ⟨_, rfl⟩
      rw [← hb] at hR
      have f0 : ∀ h2 : i * 2 < (balsC B).length, (balsC B)[i * 2]'h2 = .v (.int .u8 (b.a.toNat : Nat)) := fun h2 => by have := get_dropB (l := balsC B) (i := i * 2) (j := 0) (x := .v (.int .u8 (b.a.toNat : Nat))) (by rw [hR]; rfl); exact this h2
      have f1 := get_dropB (l := balsC B) (i := i * 2) (j := 1) (x := .sl 5 (coinsC b.l) b.l.length .shut) (by rw [hR]; rfl)
      have d0 : i * 2 < B.length * 2 := by omega
      have d1 : i * 2 + 1 < B.length * 2 := by omega
      have hi1 : i + 1 ≤ B.length := hlt
      have hwi : IntKind.i64.wrap ((i : Int) + 1) = (i : Int) + 1 := wrap_i64 _ (by omega) (by omega)
      have hbm := (hmem b).1 (by rw [hb]; exact List.getElem_mem hlt)
      replace F := aF hlt (And.intro f0 (And.intro f1 (And.intro d0 (And.intro d1 (And.intro hi1 (And.intro hwi F)))))); refine run_skip ?_; refine hK6 _ _ ?_; refine sq fun K9 hK9 => ?_; refine run_block_k ?_; refine sr fun _ hJ11 => ?_; refine hJ11 _ _ ?_; refine cs (fun c24 => ?_) (fun c24 => ?_)
      · (try exact nope c24); all_goals have c24p := c24; try simp [F] at c24p
        all_goals
         replace F := aF c24 F; try replace F := aF c24p F
         have e : b.a = a := by have h := c24; simp at h; exact UInt8.toNat_inj.1 (by omega)
         have e2 : b.l = T (some a) := by rw [hbm.1, e]
         replace F := aF e2 F; refine sr fun _ hJ13 => ?_; refine hJ13 _ _ ?_; refine ra ?_; exact gcr
      (try exact nope c24); all_goals have c24p := c24; try simp [F] at c24p
      all_goals
       replace F := aF c24 F; (try replace F := aF c24p F); refine run_skip ?_; refine hK9 _ _ ?_; refine rg' (h := fun J14 hJ14 => ?_); refine hJ14 _ _ ?_; refine ⟨(i + 1), ⟨kp, lp, ?_, lp, lp⟩, lp⟩
       · intro j hj q
         by_cases e : j = i
         · subst e; rw [← hb]; intro e3; have h := c24; simp [e3] at h
         · exact h2 j hj (by omega)
   (try exact nope c12); all_goals have c12p := c12; try simp [F] at c12p
   all_goals
    replace F := aF c12 F; try replace F := aF c12p F
    have hie : i = B.length := by have h := c12; simp at h; omega
    have e0 : T (some a) = [] := Classical.byContradiction fun q => by
      obtain ⟨j, hj, e⟩ := List.mem_iff_getElem.1 ((hmem ⟨a, T (some a)⟩).2 ⟨rfl, q⟩)
      exact h2 j hj (by omega) (by rw [e])
    replace F := aF e0 F; refine run_exit ?_; refine hK3 _ _ ?_; refine sr fun _ hJ16 => ?_; refine hJ16 _ _ ?_; refine ra ?_
    rw [e0]
    exact gcr (hA := by simpa using Wk.nil _ _ _)

structure GB where
  i : Nat
  O : List Bl
  b : Bool
set_option maxHeartbeats 1600000 in
attribute [local simp] undefA List.getElem?_cons_zero List.getElem?_cons_succ lsA_nil lsT_nil lsZ_nil lsL_nil gcO_ls noObj_ls balsC_noObj in
theorem rput_ok {σ : St} {m : Nat} {T : Tb} {a : UInt8} {l : List Coin} (h : σ.objs[m]? = some (bC T)) (hl : l.length ≤ 9223372036854775807) :
    CallsA Try.prog 84 [.ptr m 0, .v (.int .u8 a.toNat), .sl 5 (coinsC l) l.length .shut] σ (fun av σ' => av = .tup [] ∧ σ' = putBk σ m (upd T (some a) l)) := by
  have hw := lt_of_get h
  refine bcall hw rfl ?_
  rw [upd_sn]
  obtain ⟨E, hE⟩ : ∃ E, E = bals (upd T (some a) l) := ⟨_, rfl⟩
  rw [← hE]
  obtain ⟨n, hn⟩ : ∃ n : Bl, n = ⟨a, l⟩ := ⟨_, rfl⟩
  obtain ⟨z, hz⟩ : ∃ z, z = decide (l.length = 0) := ⟨_, rfl⟩
  have hzi : ((l.length : Int) == 0) = z := by rw [hz, Bool.eq_iff_iff]; simp
  have hgo : pGo n (bals T) z [] = E := by rw [pGo_all (srt_bals T), List.nil_append, hn, hz, putF_bals, ← hE]
  have hna : n.a = a := by rw [hn]
  have hnC : balC n = [.v (.int .u8 a.toNat), .sl 5 (coinsC l) l.length .shut] := by rw [hn]; rfl
  obtain ⟨B, hB⟩ : ∃ B, B = bals T := ⟨_, rfl⟩
  have hBl : B.length ≤ 256 := by rw [hB]; exact bals_len T
  rw [← hB] at hgo
  obtain ⟨X, hX⟩ : ∃ X, X = AV.sl 5 (coinsC (T none)) (T none).length .shut := ⟨_, rfl⟩
  have hXo : ∀ n, X.noObj n = true := fun n => by rw [hX]; simp [AV.noObj]
  simp only [bC, bX, ← hB, ← hX] at h
  rw [← hX]
  have hoX : ∀ l, (σ.objs ++ l)[m]? = some _ := fun l => by rw [List.getElem?_append_left hw]; exact h
  have ho3 : ∀ x l, (σ.objs ++ l).set m x = σ.objs.set m x ++ l := fun x l => List.set_append_left _ _ hw
  have hge : ∀ h2 : m < σ.objs.length, σ.objs[m]'h2 = _ := fun h2 => (List.getElem?_eq_some_iff.1 h).2
  have hBc := balsC_len B
  have hap : ∀ (O : List Bl) (x : Bl) objs, O.length ≤ 1000000 → appendA Try.prog 30 (lsA σ.toks.length 2 (balsC O) O.length) (.sl 2 (balC x) 1 .full) ⟨objs, σ.toks ++ lsT O.length, σ.gl, σ.rows⟩ = some (lsA σ.toks.length 2 (balsC (O ++ [x])) (O.length + 1), ⟨objs, σ.toks ++ lsT (O.length + 1), σ.gl, σ.rows⟩) := fun O x objs hO => by
    rw [balsC_app, show balsC [x] = balC x by simp [balsC]]
    exact append_ls elemT_30 ti_61 (by decide) rfl (fun h => by rw [List.eq_nil_of_length_eq_zero h]; rfl) rfl (by omega) (by simp only [roomA]; omega) (by simp only [maxLen]; omega)
  have F := And.intro hzi (And.intro hoX (And.intro h (And.intro ho3 (And.intro hge (And.intro hw (And.intro hBc (And.intro hXo (True.intro))))))))
  refine callsA_body Try.func84 rfl rfl rfl ?_; refine sr fun _ hJ2 => ?_; refine hJ2 _ _ ?_; refine sr fun _ hJ4 => ?_; refine hJ4 _ _ ?_; refine sq fun K5 hK5 => ?_; refine sr fun _ hJ7 => ?_; refine hJ7 _ _ ?_; refine run_block_k ?_; refine run_loopG (X := GB) [0, 1, 2] (fun x ρ σ1 => (x.i ≤ B.length) ∧ (pGo n (B.drop x.i) x.b x.O = E) ∧ (x.O.length ≤ 2 * x.i) ∧ (ρ 6 = lsA σ.toks.length 2 (balsC x.O) x.O.length) ∧ (ρ 7 = .v (.bool x.b)) ∧ (ρ 8 = .v (.int .i64 x.i)) ∧ (σ1 = { σ with toks := σ.toks ++ lsT x.O.length })) (fun x => B.length - x.i) (⟨0, [], z⟩) ?st1 ?rd1
  case st1 =>
   refine ⟨lp, ?_, lp, lp, lp, lp, ?_⟩
   · exact hgo
   · simp [lsT_nil, F]
  case rd1 =>
   rintro x ρ1 σ1 hF1 ⟨h1, h2, h3, h4, h5, h6, hσ⟩; obtain rfl := hσ.symm
   have f1 := keepL hF1
   (try simp [KeepL, F] at f1); replace F := aF h4 F; replace F := aF h5 F; replace F := aF h6 F; (try replace F := aF f1 F); refine sq fun K8 hK8 => ?_; refine sr fun _ hJ10 => ?_; refine hJ10 _ _ ?_; refine cs (fun c19 => ?_) (fun c19 => ?_)
   · (try exact nope c19); all_goals have c19p := c19; try simp [F] at c19p
     all_goals
      replace F := aF c19 F; try replace F := aF c19p F
      have hlt : x.i < B.length := by have h := c19; simp at h; omega
      obtain ⟨R, hR9⟩ := balsC_at (l := B) (i := x.i) hlt
      obtain ⟨y, hy⟩ : ∃ y, y = B[x.i] := ⟨_, rfl⟩
      rw [← hy] at hR9
      have hR3 : List.take 2 (List.drop (x.i * 2) (balsC B)) = balC y := by rw [hR9]; rfl
      have d3 : x.i * 2 + 2 ≤ B.length * 2 := by omega
      have hi1 : x.i + 1 ≤ B.length := hlt
      have hwi : IntKind.i64.wrap ((x.i : Int) + 1) = (x.i : Int) + 1 := wrap_i64 _ (by omega) (by omega)
      have hdr : B.drop x.i = y :: B.drop (x.i + 1) := by rw [hy]; exact List.drop_eq_getElem_cons hlt
      rw [hdr, pGo, hna] at h2
      have p1 := fun objs => hap x.O y objs (by omega)
      have p2 := fun objs => hap x.O n objs (by omega)
      have p3 := fun objs => hap (x.O ++ [n]) y objs (by simp; omega)
      simp only [List.length_append, List.length_cons, List.length_nil, Nat.zero_add] at p3
      have hyc : (∀ x, x ∈ balC y → x.isCell = true) = True := eq_true (cellBl y)
      have hyl : (balC y).length = 2 := rfl
      have hyt : List.take 2 (balC y) = balC y := rfl
      have hyo : ∀ nb, noObjL nb (balC y) = true := fun nb => balC_noObj nb y
      obtain ⟨Y, hY⟩ : ∃ Y, Y = balC y := ⟨_, rfl⟩
      have y0 : ∀ h2 : 0 < Y.length, Y[0]'h2 = .v (.int .u8 (y.a.toNat : Nat)) := fun h2 => by subst hY; rfl
      rw [← hY] at hyc hyl hR3 hyt
      simp only [← hY] at hyo p1 p3
      simp only [AV.isCell] at hyc
      simp only [hnC] at p2
      replace F := aF hlt (And.intro hR3 (And.intro d3 (And.intro hi1 (And.intro hwi (And.intro hyc (And.intro hyl (And.intro hyt (And.intro hyo (And.intro y0 (And.intro p1 (And.intro p2 (And.intro p3 F)))))))))))); refine run_skip ?_; refine hK8 _ _ ?_; refine sq fun K11 hK11 => ?_; refine run_block_k ?_; refine sr fun _ hJ13 => ?_; refine hJ13 _ _ ?_; refine sq fun K14 hK14 => ?_; refine sr fun _ hJ16 => ?_; refine gs 31 (fun g6_2 => ?_) (fun g6_2 => ?_)
      · (try exact nope g6_2); all_goals have g6_2p := g6_2; try simp [F] at g6_2p
        all_goals
         replace F := aF g6_2 F; try replace F := aF g6_2p F
         have hb : x.b = false := by simpa using g6_2
         (iterate 4 refine go2 (k := ?_)); refine hJ16 _ _ ?_; refine cs (fun c36 => ?_) (fun c36 => ?_)
         · (try exact nope c36); all_goals have c36p := c36; try simp [F] at c36p
           all_goals
            replace F := aF c36 F; try replace F := aF c36p F
            have hla : a.toNat < y.a.toNat := by have h := c36; simp at h; omega
            rw [if_pos ⟨hb, hla⟩] at h2
            refine sr fun _ hJ18 => ?_; refine hJ18 _ _ ?_; refine rg' (h := fun J19 hJ19 => ?_); refine hJ19 _ _ ?_; refine hK14 _ _ ?_; refine sr fun _ hJ21 => ?_; refine hJ21 _ _ ?_; refine cs (fun c46 => ?_) (fun c46 => ?_)
            · (try exact nope c46); all_goals have c46p := c46; try simp [F] at c46p
              all_goals
               replace F := aF c46 F; try replace F := aF c46p F
               have hne : y.a ≠ a := by intro q; have h := c46; simp [q] at h
               rw [if_pos hne] at h2
               refine rg' (h := fun J22 hJ22 => ?_); refine hJ22 _ _ ?_; refine hK11 _ _ ?_; refine rg' (h := fun J23 hJ23 => ?_); refine hJ23 _ _ ?_; refine ⟨gk, (⟨x.i + 1, x.O ++ [n] ++ [y], true⟩), ⟨kpG, lpG, ?_, ?_, lpG, lpG, lpG, lpG⟩, lpG⟩
               · exact h2
               · simp
                 omega
            (try exact nope c46); all_goals have c46p := c46; try simp [F] at c46p
            all_goals
             replace F := aF c46 F; try replace F := aF c46p F
             have heq : y.a = a := by have h := c46; simp at h; exact UInt8.toNat_inj.1 (by omega)
             rw [if_neg (not_not_intro heq)] at h2
             refine run_skip ?_; refine hK11 _ _ ?_; refine rg' (h := fun J24 hJ24 => ?_); refine hJ24 _ _ ?_; refine ⟨gk, (⟨x.i + 1, x.O ++ [n], true⟩), ⟨kpG, lpG, ?_, ?_, lpG, lpG, lpG, lpG⟩, lpG⟩
             · exact h2
             · simp
               omega
         (try exact nope c36); all_goals have c36p := c36; try simp [F] at c36p
         all_goals
          replace F := aF c36 F; (try replace F := aF c36p F); (try (have hla : ¬ a.toNat < y.a.toNat := by { have h := c36; simp at h; omega }; rw [if_neg (fun q => hla q.2)] at h2)); refine run_skip ?_; refine hK14 _ _ ?_; refine sr fun _ hJ26 => ?_; refine hJ26 _ _ ?_; refine cs (fun c46 => ?_) (fun c46 => ?_)
          · (try exact nope c46); all_goals have c46p := c46; try simp [F] at c46p
            all_goals
             replace F := aF c46 F; try replace F := aF c46p F
             have hne : y.a ≠ a := by intro q; have h := c46; simp [q] at h
             rw [if_pos hne] at h2
             refine rg' (h := fun J27 hJ27 => ?_); refine hJ27 _ _ ?_; refine hK11 _ _ ?_; refine rg' (h := fun J28 hJ28 => ?_); refine hJ28 _ _ ?_; refine ⟨gk, (⟨x.i + 1, x.O ++ [y], x.b⟩), ⟨kpG, lpG, ?_, ?_, lpG, lpG, lpG, lpG⟩, lpG⟩
             · exact h2
             · simp
               omega
          (try exact nope c46); all_goals have c46p := c46; try simp [F] at c46p
          all_goals
           replace F := aF c46 F; try replace F := aF c46p F
           have heq : y.a = a := by have h := c46; simp at h; exact UInt8.toNat_inj.1 (by omega)
           rw [if_neg (not_not_intro heq)] at h2
           refine run_skip ?_; refine hK11 _ _ ?_; refine rg' (h := fun J29 hJ29 => ?_); refine hJ29 _ _ ?_; refine ⟨gk, (⟨x.i + 1, x.O, x.b⟩), ⟨kpG, lpG, ?_, ?_, lpG, lpG, lpG, lpG⟩, lpG⟩
           · exact h2
           · simp
             omega
      (try exact nope g6_2); all_goals have g6_2p := g6_2; try simp [F] at g6_2p
      all_goals
       replace F := aF g6_2 F; try replace F := aF g6_2p F
       have hb : x.b = true := by simpa using g6_2
       rw [if_neg (by rw [hb]; simp)] at h2
       (iterate 4 refine no2 (k := ?_)); refine hJ16 _ _ ?_; refine cf ?_; refine run_skip ?_; refine hK14 _ _ ?_; refine sr fun _ hJ31 => ?_; refine hJ31 _ _ ?_; refine cs (fun c46 => ?_) (fun c46 => ?_)
       · (try exact nope c46); all_goals have c46p := c46; try simp [F] at c46p
         all_goals
          replace F := aF c46 F; try replace F := aF c46p F
          have hne : y.a ≠ a := by intro q; have h := c46; simp [q] at h
          rw [if_pos hne] at h2
          refine rg' (h := fun J32 hJ32 => ?_); refine hJ32 _ _ ?_; refine hK11 _ _ ?_; refine rg' (h := fun J33 hJ33 => ?_); refine hJ33 _ _ ?_; refine ⟨gk, (⟨x.i + 1, x.O ++ [y], x.b⟩), ⟨kpG, lpG, ?_, ?_, lpG, lpG, lpG, lpG⟩, lpG⟩
          · exact h2
          · simp
            omega
       (try exact nope c46); all_goals have c46p := c46; try simp [F] at c46p
       all_goals
        replace F := aF c46 F; try replace F := aF c46p F
        have heq : y.a = a := by have h := c46; simp at h; exact UInt8.toNat_inj.1 (by omega)
        rw [if_neg (not_not_intro heq)] at h2
        refine run_skip ?_; refine hK11 _ _ ?_; refine rg' (h := fun J34 hJ34 => ?_); refine hJ34 _ _ ?_; refine ⟨gk, (⟨x.i + 1, x.O, x.b⟩), ⟨kpG, lpG, ?_, ?_, lpG, lpG, lpG, lpG⟩, lpG⟩
        · exact h2
        · simp
          omega
   (try exact nope c19); all_goals have c19p := c19; try simp [F] at c19p
   all_goals
    replace F := aF c19 F; try replace F := aF c19p F
    have hde : B.drop x.i = [] := List.drop_of_length_le (by have h := c19; simp at h; omega)
    rw [hde, pGo] at h2
    have p2 := fun objs => hap x.O n objs (by omega)
    simp only [hnC] at p2
    replace F := aF p2 F; refine run_exit ?_; refine hK5 _ _ ?_; refine sq fun K35 hK35 => ?_; refine sr fun _ hJ37 => ?_; refine hJ37 _ _ ?_; refine cs (fun c52 => ?_) (fun c52 => ?_)
    · (try exact nope c52); all_goals have c52p := c52; try simp [F] at c52p
      all_goals
       replace F := aF c52 F; try replace F := aF c52p F
       have hb : x.b = false := by simpa using c52
       rw [hb, if_neg (by simp)] at h2
       refine rg' (h := fun J38 hJ38 => ?_); refine hJ38 _ _ ?_; refine hK35 _ _ ?_; refine rg' (h := fun J39 hJ39 => ?_); refine hJ39 _ _ ?_; (try simp only [Then, InBlock, NoGoto, if_true]); refine answer_none rfl (.inl rfl) ?_
       refine ⟨by simp [F], lsT (x.O.length + 1), _, lsA σ.toks.length 2 (balsC (x.O ++ [n])) (x.O.length + 1), [], [], Wk.refl _, by rw [← h2]; simpa using lsA_wk (k := σ.toks.length) (sz := 2) (n := x.O.length + 1) (cs := balsC (x.O ++ [n])) (fun h => by simp at h), by simp [bX]⟩
    (try exact nope c52); all_goals have c52p := c52; try simp [F] at c52p
    all_goals
     replace F := aF c52 F; try replace F := aF c52p F
     have hb : x.b = true := by simpa using c52
     rw [hb, if_pos rfl] at h2
     refine run_skip ?_; refine hK35 _ _ ?_; refine rg' (h := fun J40 hJ40 => ?_); refine hJ40 _ _ ?_; (try simp only [Then, InBlock, NoGoto, if_true]); refine answer_none rfl (.inl rfl) ?_
     refine ⟨by simp [F], lsT x.O.length, _, lsA σ.toks.length 2 (balsC x.O) x.O.length, [], [], Wk.refl _, by rw [← h2]; exact lsA_wk (k := σ.toks.length) (sz := 2) (n := x.O.length) (cs := balsC x.O) (fun h => by rw [List.eq_nil_of_length_eq_zero h]; rfl), by simp [bX]⟩
set_option maxHeartbeats 1600000 in
attribute [local simp] undefA List.getElem?_cons_zero List.getElem?_cons_succ in
theorem rmay_ok {σ : St} {l : List Coin} {a b : UInt8} (hl : l.length ≤ 9223372036854775807) :
    CallsA Try.prog 82 [.sl 5 (coinsC l) l.length .shut, .v (.int .u8 a.toNat), .v (.int .u8 b.toNat)] σ (fun av σ' => av = .v (.bool (decide (Right l) && isB a && isB b)) ∧ σ = σ') := by
  have hr := rright_ok (σ := σ) (tl := .shut) hl
  have ha := ris_ok (σ := σ) (a := a)
  have hb := ris_ok (σ := σ) (a := b)
  obtain ⟨R, hR⟩ : ∃ R, R = decide (Right l) := ⟨_, rfl⟩
  obtain ⟨A, hA⟩ : ∃ A, A = isB a := ⟨_, rfl⟩
  obtain ⟨B, hB⟩ : ∃ B, B = isB b := ⟨_, rfl⟩
  rw [← hR] at hr; rw [← hA] at ha; rw [← hB] at hb
  rw [← hR, ← hA, ← hB]
  have F := True.intro
  refine callsA_body Try.func82 rfl rfl rfl ?_; refine sr fun _ hJ2 => ?_; refine hJ2 _ _ ?_; refine sr fun _ hJ4 => ?_; refine ca (c := hr) (k := ?_); rintro _ _ ⟨rfl, rfl⟩; (repeat (first | simp [F] | simp (disch := omega) only [wC, if_pos, if_neg])); refine gs 9 (fun g1_2 => ?_) (fun g1_2 => ?_)
  · (try exact nope g1_2); all_goals have g1_2p := g1_2; try simp [F] at g1_2p
    all_goals
     replace F := aF g1_2 F; (try replace F := aF g1_2p F); refine go2 (k := ?_); refine ca (c := ha) (k := ?_); rintro _ _ ⟨rfl, rfl⟩; (repeat (first | simp [F] | simp (disch := omega) only [wC, if_pos, if_neg])); refine gs 13 (fun g1_6 => ?_) (fun g1_6 => ?_)
     · (try exact nope g1_6); all_goals have g1_6p := g1_6; try simp [F] at g1_6p
       all_goals
        replace F := aF g1_6 F; (try replace F := aF g1_6p F); refine go2 (k := ?_); refine ca (c := hb) (k := ?_); rintro _ _ ⟨rfl, rfl⟩; (repeat (first | simp [F] | simp (disch := omega) only [wC, if_pos, if_neg])); refine hJ4 _ _ ?_; refine ra ?_; exact rt
     (try exact nope g1_6); all_goals have g1_6p := g1_6; try simp [F] at g1_6p
     all_goals
      replace F := aF g1_6 F; (try replace F := aF g1_6p F); (iterate 2 refine no2 (k := ?_)); refine hJ4 _ _ ?_; refine ra ?_; exact rt
  (try exact nope g1_2); all_goals have g1_2p := g1_2; try simp [F] at g1_2p
  all_goals
   replace F := aF g1_2 F; (try replace F := aF g1_2p F); (iterate 4 refine no2 (k := ?_)); refine hJ4 _ _ ?_; refine ra ?_; exact rt
theorem upd_right {T : Tb} {o : Option UInt8} {L : List Coin} (hr : ∀ o, Right (T o)) (hL : Right L) : ∀ o', Right (upd T o L o') := fun o' => by
  by_cases e : o' = o
  · subst e; rw [upd_self]; exact hL
  · rw [upd_ne _ _ e]; exact hr o'
theorem addC_cAdd {a b : List Coin} (h : ∀ d, d < 8 → amt a d + amt b d < 2 ^ 256) : cAddL a b = addC a b ∧ cAddE a b = 0 := by
  have h0 := cAddE_zero.2 h
  exact ⟨cAddL_yes h0, h0⟩

set_option maxHeartbeats 1600000 in
attribute [local simp] undefA List.getElem?_cons_zero List.getElem?_cons_succ in
theorem rsend_ok {σ : St} {m : Nat} {T : Tb} {a b : UInt8} {l : List Coin} (h : σ.objs[m]? = some (bC T)) (hr : ∀ o, Right (T o)) (hs : SumT T) (hl : l.length ≤ 9223372036854775807) :
    CallsA Try.prog 49 [.ptr m 0, .v (.int .u8 a.toNat), .v (.int .u8 b.toNat), .sl 5 (coinsC l) l.length .shut] σ (fun av σ' => av = .v (.int .i64 ((sendB T a b l).e : Nat)) ∧ σ' = putBk σ m (sendB T a b l).T) := by
  have hw := lt_of_get h
  obtain ⟨⟨PT, PE⟩, hP⟩ : ∃ P, P = sendB T a b l := ⟨_, rfl⟩
  rw [← hP]
  simp only
  have hmy := rmay_ok (σ := σ) (a := a) (b := b) hl
  have hco := rcoins_ok (a := a) h
  have hself := putBk_self h
  have hwi := fun hR => rpwith_ok (σ := σ) (a := l) (b := T (some a)) (ta := .shut) (tb := .shut) hR (hr _)
  have hre := fun hR => rprest_ok (σ := σ) (a := T (some a)) (b := l) (ta := .shut) (tb := .shut) (hr _) hR
  have hrl : (cRest (T (some a)) l).length ≤ 9223372036854775807 := by have := right_len (right_cRest (T (some a)) l); omega
  have hp1 := rput_ok (a := a) (l := cRest (T (some a)) l) h hrl
  have hrt := upd_right (o := some a) hr (right_cRest (T (some a)) l)
  have hroom := fun hw => send_room (T := T) (a := a) (b := b) (l := l) hs hw
  obtain ⟨T1, hT1⟩ : ∃ T1, T1 = upd T (some a) (cRest (T (some a)) l) := ⟨_, rfl⟩
  have hP' : PT = if ¬ (isB a = true ∧ isB b = true ∧ Right l) ∨ ¬ cWith l (T (some a)) then T else upd T1 (some b) (addC (T1 (some b)) l) := by
    have := congrArg BR.T hP
    rw [hT1]
    simp only at this
    rw [this, sendB]
    by_cases q1 : isB a = true ∧ isB b = true ∧ Right l
    · by_cases q2 : cWith l (T (some a))
      · rw [if_neg (not_not_intro q1), if_neg (not_not_intro q2), if_neg (fun q => q.elim (fun f => f q1) (fun f => f q2))]
      · rw [if_neg (not_not_intro q1), if_pos q2, if_pos (.inr q2)]
    · rw [if_pos q1, if_pos (.inl q1)]
  have hPE : PE = if ¬ (isB a = true ∧ isB b = true ∧ Right l) then 1 else if ¬ cWith l (T (some a)) then 3 else 0 := by
    have := congrArg BR.e hP
    simp only at this
    rw [this, sendB]
    split
    · rfl
    · split <;> rfl
  clear hP
  simp only [← hT1] at hp1 hrt hroom
  have h1 := putBk_get (σ := σ) (m := m) T1 hw
  have hc1 := rcoins_ok (a := b) h1
  have had := fun hR => rpadd_ok (σ := putBk σ m T1) (a := T1 (some b)) (b := l) (ta := .shut) (tb := .shut) (hrt _) hR
  have hcl : (cAddL (T1 (some b)) l).length ≤ 9223372036854775807 := by have := right_len (right_cAdd (T1 (some b)) l); omega
  have hp2 := rput_ok (a := b) (l := cAddL (T1 (some b)) l) h1 hcl
  rw [putBk_put] at hp2
  obtain ⟨S, hS⟩ : ∃ S, S = cAddL (T1 (some b)) l := ⟨_, rfl⟩
  obtain ⟨R1, hR1⟩ : ∃ R1, R1 = cRest (T (some a)) l := ⟨_, rfl⟩
  simp only [← hS] at had hp2
  simp only [← hR1] at hre hp1
  clear hT1
  have F := True.intro
  refine callsA_body Try.func49 rfl rfl rfl ?_; refine sr fun _ hJ2 => ?_; refine hJ2 _ _ ?_; refine sq fun K3 hK3 => ?_; refine sr fun _ hJ5 => ?_; refine ca (c := hmy) (k := ?_); rintro _ _ ⟨rfl, rfl⟩; (repeat (first | simp [F] | simp (disch := omega) only [wC, if_pos, if_neg])); refine hJ5 _ _ ?_; refine cs (fun c15 => ?_) (fun c15 => ?_)
  · (try exact nope c15); all_goals have c15p := c15; try simp [F] at c15p
    all_goals
     replace F := aF c15 F; try replace F := aF c15p F
     have hR : ¬ (isB a = true ∧ isB b = true ∧ Right l) := by have h := c15; simp at h; intro q; simp [q.1, q.2.1, q.2.2] at h
     obtain rfl : PE = 1 := by rw [hPE, if_pos hR]
     obtain rfl : PT = T := by rw [hP', if_pos (.inl hR)]
     refine sr fun _ hJ7 => ?_; refine hJ7 _ _ ?_; refine ra ?_; exact ⟨rfl, hself.symm⟩
  (try exact nope c15); all_goals have c15p := c15; try simp [F] at c15p
  all_goals
   replace F := aF c15 F; try replace F := aF c15p F
   have hR : isB a = true ∧ isB b = true ∧ Right l := by have h := c15; simp at h; exact ⟨h.1.2, h.2, h.1.1⟩
   refine run_skip ?_; refine hK3 _ _ ?_; refine sq fun K8 hK8 => ?_; refine sr fun _ hJ10 => ?_; refine ca (c := hco) (k := ?_); rintro _ _ ⟨rfl, rfl⟩; (repeat (first | simp [F] | simp (disch := omega) only [wC, if_pos, if_neg])); refine ca (c := hwi hR.2.2) (k := ?_); rintro _ _ ⟨rfl, rfl⟩; (repeat (first | simp [F] | simp (disch := omega) only [wC, if_pos, if_neg])); refine hJ10 _ _ ?_; refine cs (fun c21 => ?_) (fun c21 => ?_)
   · (try exact nope c21); all_goals have c21p := c21; try simp [F] at c21p
     all_goals
      replace F := aF c21 F; try replace F := aF c21p F
      have hw : ¬ cWith l (T (some a)) := by have h := c21; simpa using h
      obtain rfl : PE = 3 := by rw [hPE, if_neg (not_not_intro hR), if_pos hw]
      obtain rfl : PT = T := by rw [hP', if_pos (.inr hw)]
      refine sr fun _ hJ12 => ?_; refine hJ12 _ _ ?_; refine ra ?_; exact ⟨rfl, hself.symm⟩
   (try exact nope c21); all_goals have c21p := c21; try simp [F] at c21p
   all_goals
    replace F := aF c21 F; try replace F := aF c21p F
    have hwi2 : cWith l (T (some a)) := by have h := c21; simpa using h
    obtain rfl : PE = 0 := by rw [hPE, if_neg (not_not_intro hR), if_neg (not_not_intro hwi2)]
    have hSa : S = addC (T1 (some b)) l := by rw [hS]; exact (addC_cAdd (hroom hwi2)).1
    have hPT : PT = upd T1 (some b) S := by rw [hP', if_neg (fun q => q.elim (fun f => f hR) (fun f => f hwi2)), hSa]
    refine run_skip ?_; refine hK8 _ _ ?_; refine sr fun _ hJ14 => ?_; refine ca (c := hco) (k := ?_); rintro _ _ ⟨rfl, rfl⟩; (repeat (first | simp [F] | simp (disch := omega) only [wC, if_pos, if_neg])); refine ca (c := hre hR.2.2) (k := ?_); rintro _ _ ⟨rfl, rfl⟩; (repeat (first | simp [F] | simp (disch := omega) only [wC, if_pos, if_neg])); refine ca (c := hp1) (k := ?_); rintro _ _ ⟨rfl, rfl⟩; (repeat (first | simp [F] | simp (disch := omega) only [wC, if_pos, if_neg])); refine hJ14 _ _ ?_; refine sr fun _ hJ16 => ?_; refine ca (c := hc1) (k := ?_); rintro _ _ ⟨rfl, rfl⟩; (repeat (first | simp [F] | simp (disch := omega) only [wC, if_pos, if_neg])); refine ca (c := had hR.2.2) (k := ?_); rintro _ _ ⟨rfl, rfl⟩; (repeat (first | simp [F] | simp (disch := omega) only [wC, if_pos, if_neg])); refine hJ16 _ _ ?_; refine sr fun _ hJ18 => ?_; refine ca (c := hp2) (k := ?_); rintro _ _ ⟨rfl, rfl⟩; (repeat (first | simp [F] | simp (disch := omega) only [wC, if_pos, if_neg])); refine hJ18 _ _ ?_; refine sr fun _ hJ20 => ?_; refine hJ20 _ _ ?_; refine ra ?_; exact ⟨rfl, by rw [hPT]⟩

set_option maxHeartbeats 1600000 in
attribute [local simp] undefA List.getElem?_cons_zero List.getElem?_cons_succ in
theorem rmint_ok {σ : St} {m : Nat} {T : Tb} {b : UInt8} {l : List Coin} (h : σ.objs[m]? = some (bC T)) (hr : ∀ o, Right (T o)) (hs : SumT T) (hl : l.length ≤ 9223372036854775807) :
    CallsA Try.prog 50 [.ptr m 0, .v (.int .u8 b.toNat), .sl 5 (coinsC l) l.length .shut] σ (fun av σ' => av = .v (.int .i64 ((mintB T b l).e : Nat)) ∧ σ' = putBk σ m (mintB T b l).T) := by
  have hw := lt_of_get h
  obtain ⟨⟨PT, PE⟩, hP⟩ : ∃ P, P = mintB T b l := ⟨_, rfl⟩
  rw [← hP]
  simp only
  have hmy := rmay_ok (σ := σ) (a := b) (b := b) hl
  have hself := putBk_self h
  have ha1 := fun hR => rpadd_ok (σ := σ) (a := T none) (b := l) (ta := .shut) (tb := .shut) (hr _) hR
  have hroom := fun hw => mint_room (T := T) (b := b) (l := l) hs hw
  obtain ⟨T1, hT1⟩ : ∃ T1, T1 = upd T none (cAddL (T none) l) := ⟨_, rfl⟩
  have hT1b : T1 (some b) = T (some b) := by rw [hT1]; exact upd_ne _ _ (by simp)
  have hPT : isB b = true ∧ Right l → cAddE (T none) l = 0 → PT = upd T1 (some b) (cAddL (T1 (some b)) l) := fun q1 q2 => by
    have := congrArg BR.T hP
    simp only at this
    rw [this, mintB, if_neg (not_not_intro q1), if_neg (not_not_intro q2), hT1b, (addC_cAdd (hroom q2)).1, hT1, cAddL_yes q2]; rfl
  have hPn : (¬ (isB b = true ∧ Right l) → PT = T ∧ PE = 1) := fun q => by
    rw [mintB, if_pos q] at hP; simpa using hP
  have hPm : isB b = true ∧ Right l → ¬ cAddE (T none) l = 0 → PT = T ∧ PE = 2 := fun q1 q2 => by
    rw [mintB, if_neg (not_not_intro q1), if_pos q2] at hP; simpa using hP
  have hP0 : isB b = true ∧ Right l → cAddE (T none) l = 0 → PE = 0 := fun q1 q2 => by
    rw [mintB, if_neg (not_not_intro q1), if_neg (not_not_intro q2)] at hP; simp at hP; exact hP.2
  clear hP
  have hX1 : σ.objs.set m (bX (.sl 5 (coinsC (cAddL (T none) l)) (cAddL (T none) l).length .shut) (.sl 2 (balsC (bals T)) (bals T).length .shut)) = σ.objs.set m (bC T1) := by
    rw [hT1, bC, upd_self, bals_none]
  have h1 := putBk_get (σ := σ) (m := m) T1 hw
  have hc1 := rcoins_ok (a := b) h1
  have hrt : ∀ o, Right (T1 o) := by rw [hT1]; exact upd_right hr (right_cAdd _ _)
  have had := fun hR => rpadd_ok (σ := putBk σ m T1) (a := T1 (some b)) (b := l) (ta := .shut) (tb := .shut) (hrt _) hR
  have hcl : (cAddL (T1 (some b)) l).length ≤ 9223372036854775807 := by have := right_len (right_cAdd (T1 (some b)) l); omega
  have hp2 := rput_ok (a := b) (l := cAddL (T1 (some b)) l) h1 hcl
  rw [putBk_put] at hp2
  obtain ⟨S, hS⟩ : ∃ S, S = cAddL (T1 (some b)) l := ⟨_, rfl⟩
  obtain ⟨A1, hA1⟩ : ∃ A1, A1 = cAddL (T none) l := ⟨_, rfl⟩
  obtain ⟨Y, hY⟩ : ∃ Y, Y = AV.sl 2 (balsC (bals T)) (bals T).length .shut := ⟨_, rfl⟩
  simp only [← hS] at had hp2 hPT
  simp only [← hA1, ← hY] at ha1 hX1
  have hg := h
  simp only [bC, bX, ← hY] at hg
  simp only [bX] at hX1
  have hge : ∀ h2 : m < σ.objs.length, σ.objs[m]'h2 = _ := fun h2 => (List.getElem?_eq_some_iff.1 hg).2
  have hst : ∀ X, X = σ.objs.set m (bC T1) → ({ σ with objs := X } : St) = putBk σ m T1 := fun X e => by rw [e, putBk]
  clear hT1
  have F := And.intro hg (And.intro hge (And.intro hw (True.intro)))
  refine callsA_body Try.func50 rfl rfl rfl ?_; refine sr fun _ hJ2 => ?_; refine hJ2 _ _ ?_; refine sq fun K3 hK3 => ?_; refine sr fun _ hJ5 => ?_; refine ca (c := hmy) (k := ?_); rintro _ _ ⟨rfl, rfl⟩; (repeat (first | simp [F] | simp (disch := omega) only [wC, if_pos, if_neg])); refine hJ5 _ _ ?_; refine cs (fun c15 => ?_) (fun c15 => ?_)
  · (try exact nope c15); all_goals have c15p := c15; try simp [F] at c15p
    all_goals
     replace F := aF c15 F; try replace F := aF c15p F
     have hR : ¬ (isB b = true ∧ Right l) := by have h := c15; simp at h; intro q; simp [q.1, q.2] at h
     obtain ⟨rfl, rfl⟩ := hPn hR
     refine sr fun _ hJ7 => ?_; refine hJ7 _ _ ?_; refine ra ?_; exact ⟨rfl, hself.symm⟩
  (try exact nope c15); all_goals have c15p := c15; try simp [F] at c15p
  all_goals
   replace F := aF c15 F; try replace F := aF c15p F
   have hR : isB b = true ∧ Right l := by have h := c15; simp at h; exact ⟨h.2, h.1⟩
   refine run_skip ?_; refine hK3 _ _ ?_; refine sr fun _ hJ9 => ?_; refine ca (c := ha1 hR.2) (k := ?_); rintro _ _ ⟨rfl, rfl⟩; (repeat (first | simp [F] | simp (disch := omega) only [wC, if_pos, if_neg])); refine hJ9 _ _ ?_; refine sq fun K10 hK10 => ?_; refine sr fun _ hJ12 => ?_; refine hJ12 _ _ ?_; refine cs (fun c26 => ?_) (fun c26 => ?_)
   · (try exact nope c26); all_goals have c26p := c26; try simp [F] at c26p
     all_goals
      replace F := aF c26 F; try replace F := aF c26p F
      have hw9 : ¬ cAddE (T none) l = 0 := by have h := c26; simpa using h
      obtain ⟨rfl, rfl⟩ := hPm hR hw9
      refine sr fun _ hJ14 => ?_; refine hJ14 _ _ ?_; refine ra ?_; exact ⟨rfl, hself.symm⟩
   (try exact nope c26); all_goals have c26p := c26; try simp [F] at c26p
   all_goals
    replace F := aF c26 F; try replace F := aF c26p F
    have hw9 : cAddE (T none) l = 0 := by have h := c26; simpa using h
    obtain rfl := hP0 hR hw9
    have hPT2 := hPT hR hw9
    refine run_skip ?_; refine hK10 _ _ ?_; refine sr fun _ hJ16 => ?_; refine hJ16 _ _ ?_; refine sq fun K17 hK17 => ?_
    rw [hst _ hX1]
    refine rg' (h := fun J18 hJ18 => ?_); refine ca (c := hc1) (k := ?_); rintro _ _ ⟨rfl, rfl⟩; (repeat (first | simp [F] | simp (disch := omega) only [wC, if_pos, if_neg])); refine ca (c := had hR.2) (k := ?_); rintro _ _ ⟨rfl, rfl⟩; (repeat (first | simp [F] | simp (disch := omega) only [wC, if_pos, if_neg])); refine hJ18 _ _ ?_; refine hK17 _ _ ?_; refine sr fun _ hJ20 => ?_; refine ca (c := hp2) (k := ?_); rintro _ _ ⟨rfl, rfl⟩; (repeat (first | simp [F] | simp (disch := omega) only [wC, if_pos, if_neg])); refine hJ20 _ _ ?_; refine sr fun _ hJ22 => ?_; refine hJ22 _ _ ?_; refine ra ?_; exact ⟨rfl, by rw [hPT2]⟩

set_option maxHeartbeats 1600000 in
attribute [local simp] undefA List.getElem?_cons_zero List.getElem?_cons_succ in
theorem rburn_ok {σ : St} {m : Nat} {T : Tb} {a : UInt8} {l : List Coin} (h : σ.objs[m]? = some (bC T)) (hr : ∀ o, Right (T o)) (hl : l.length ≤ 9223372036854775807) :
    CallsA Try.prog 51 [.ptr m 0, .v (.int .u8 a.toNat), .sl 5 (coinsC l) l.length .shut] σ (fun av σ' => av = .v (.int .i64 ((burnB T a l).e : Nat)) ∧ σ' = putBk σ m (burnB T a l).T) := by
  have hw := lt_of_get h
  obtain ⟨⟨PT, PE⟩, hP⟩ : ∃ P, P = burnB T a l := ⟨_, rfl⟩
  rw [← hP]
  simp only
  have hmy := rmay_ok (σ := σ) (a := a) (b := a) hl
  have hself := putBk_self h
  have hco := rcoins_ok (a := a) h
  have hwi := fun hR => rpwith_ok (σ := σ) (a := l) (b := T (some a)) (ta := .shut) (tb := .shut) hR (hr _)
  have hre := fun hR => rprest_ok (σ := σ) (a := T (some a)) (b := l) (ta := .shut) (tb := .shut) (hr _) hR
  have hrl : (cRest (T (some a)) l).length ≤ 9223372036854775807 := by have := right_len (right_cRest (T (some a)) l); omega
  have hp1 := rput_ok (a := a) (l := cRest (T (some a)) l) h hrl
  obtain ⟨T1, hT1⟩ : ∃ T1, T1 = upd T (some a) (cRest (T (some a)) l) := ⟨_, rfl⟩
  have hT1n : T1 none = T none := by rw [hT1]; exact upd_sn _ _ _
  have hPT : isB a = true ∧ Right l → cWith l (T (some a)) → PT = upd T1 none (cRest (T1 none) l) ∧ PE = 0 := fun q1 q2 => by
    rw [burnB, if_neg (not_not_intro q1), if_neg (not_not_intro q2)] at hP
    rw [hT1n, hT1]; simpa using hP
  have hPn : (¬ (isB a = true ∧ Right l) → PT = T ∧ PE = 1) := fun q => by
    rw [burnB, if_pos q] at hP; simpa using hP
  have hPm : isB a = true ∧ Right l → ¬ cWith l (T (some a)) → PT = T ∧ PE = 3 := fun q1 q2 => by
    rw [burnB, if_neg (not_not_intro q1), if_pos q2] at hP; simpa using hP
  clear hP
  have h1 := putBk_get (σ := σ) (m := m) T1 hw
  have hrt : ∀ o, Right (T1 o) := by rw [hT1]; exact upd_right hr (right_cRest _ _)
  rw [← hT1] at hp1
  have hr2 := fun hR => rprest_ok (σ := putBk σ m T1) (a := T1 none) (b := l) (ta := .shut) (tb := .shut) (hrt _) hR
  have hX1 : (putBk σ m T1).objs.set m (bX (.sl 5 (coinsC (cRest (T1 none) l)) (cRest (T1 none) l).length .shut) (.sl 2 (balsC (bals T1)) (bals T1).length .shut)) = σ.objs.set m (bC (upd T1 none (cRest (T1 none) l))) := by
    rw [bC, upd_self, bals_none]; simp [putBk]
  obtain ⟨S, hS⟩ : ∃ S, S = cRest (T1 none) l := ⟨_, rfl⟩
  obtain ⟨R1, hR1⟩ : ∃ R1, R1 = cRest (T (some a)) l := ⟨_, rfl⟩
  obtain ⟨Y, hY⟩ : ∃ Y, Y = AV.sl 2 (balsC (bals T1)) (bals T1).length .shut := ⟨_, rfl⟩
  simp only [← hS, ← hY] at hr2 hX1 hPT
  simp only [← hR1] at hre hp1
  have hg := h1
  simp only [bC, bX, ← hY] at hg
  simp only [bX] at hX1
  have hge : ∀ h2 : m < (putBk σ m T1).objs.length, (putBk σ m T1).objs[m]'h2 = _ := fun h2 => (List.getElem?_eq_some_iff.1 hg).2
  have hpl : m < (putBk σ m T1).objs.length := by rw [putBk_len]; exact hw
  have hst : ∀ X, X = σ.objs.set m (bC (upd T1 none S)) → ({ putBk σ m T1 with objs := X } : St) = putBk σ m (upd T1 none S) := fun X e => by rw [e]; rfl
  clear hT1
  have F := And.intro hg (And.intro hge (And.intro hpl (True.intro)))
  refine callsA_body Try.func51 rfl rfl rfl ?_; refine sr fun _ hJ2 => ?_; refine hJ2 _ _ ?_; refine sq fun K3 hK3 => ?_; refine sr fun _ hJ5 => ?_; refine ca (c := hmy) (k := ?_); rintro _ _ ⟨rfl, rfl⟩; (repeat (first | simp [F] | simp (disch := omega) only [wC, if_pos, if_neg])); refine hJ5 _ _ ?_; refine cs (fun c11 => ?_) (fun c11 => ?_)
  · (try exact nope c11); all_goals have c11p := c11; try simp [F] at c11p
    all_goals
     replace F := aF c11 F; try replace F := aF c11p F
     have hR : ¬ (isB a = true ∧ Right l) := by have h := c11; simp at h; intro q; simp [q.1, q.2] at h
     obtain ⟨rfl, rfl⟩ := hPn hR
     refine sr fun _ hJ7 => ?_; refine hJ7 _ _ ?_; refine ra ?_; exact ⟨rfl, hself.symm⟩
  (try exact nope c11); all_goals have c11p := c11; try simp [F] at c11p
  all_goals
   replace F := aF c11 F; try replace F := aF c11p F
   have hR : isB a = true ∧ Right l := by have h := c11; simp at h; exact ⟨h.2, h.1⟩
   refine run_skip ?_; refine hK3 _ _ ?_; refine sq fun K8 hK8 => ?_; refine sr fun _ hJ10 => ?_; refine ca (c := hco) (k := ?_); rintro _ _ ⟨rfl, rfl⟩; (repeat (first | simp [F] | simp (disch := omega) only [wC, if_pos, if_neg])); refine ca (c := hwi hR.2) (k := ?_); rintro _ _ ⟨rfl, rfl⟩; (repeat (first | simp [F] | simp (disch := omega) only [wC, if_pos, if_neg])); refine hJ10 _ _ ?_; refine cs (fun c17 => ?_) (fun c17 => ?_)
   · (try exact nope c17); all_goals have c17p := c17; try simp [F] at c17p
     all_goals
      replace F := aF c17 F; try replace F := aF c17p F
      have hw9 : ¬ cWith l (T (some a)) := by have h := c17; simpa using h
      obtain ⟨rfl, rfl⟩ := hPm hR hw9
      refine sr fun _ hJ12 => ?_; refine hJ12 _ _ ?_; refine ra ?_; exact ⟨rfl, hself.symm⟩
   (try exact nope c17); all_goals have c17p := c17; try simp [F] at c17p
   all_goals
    replace F := aF c17 F; try replace F := aF c17p F
    have hw9 : cWith l (T (some a)) := by have h := c17; simpa using h
    obtain ⟨hPT2, rfl⟩ := hPT hR hw9
    refine run_skip ?_; refine hK8 _ _ ?_; refine sr fun _ hJ14 => ?_; refine ca (c := hco) (k := ?_); rintro _ _ ⟨rfl, rfl⟩; (repeat (first | simp [F] | simp (disch := omega) only [wC, if_pos, if_neg])); refine ca (c := hre hR.2) (k := ?_); rintro _ _ ⟨rfl, rfl⟩; (repeat (first | simp [F] | simp (disch := omega) only [wC, if_pos, if_neg])); refine ca (c := hp1) (k := ?_); rintro _ _ ⟨rfl, rfl⟩; (repeat (first | simp [F] | simp (disch := omega) only [wC, if_pos, if_neg])); refine hJ14 _ _ ?_; refine sr fun _ hJ16 => ?_; refine ca (c := hr2 hR.2) (k := ?_); rintro _ _ ⟨rfl, rfl⟩; (repeat (first | simp [F] | simp (disch := omega) only [wC, if_pos, if_neg])); refine hJ16 _ _ ?_; refine sr fun _ hJ18 => ?_; refine hJ18 _ _ ?_; refine ra ?_; refine ⟨rfl, ?_⟩
    rw [hPT2]
    exact hst _ hX1
structure AB where
  f : UInt8
  a : UInt8
  b : UInt8
  l : List Coin
  z : Bool
def AB.Ok (x : AB) : Prop := x.l.length ≤ 9223372036854775807
def abC (x : AB) : List AV := [.v (.int .u8 x.f.toNat), .v (.int .u8 x.a.toNat), .v (.int .u8 x.b.toNat), .sl 5 (coinsC x.l) x.l.length .shut, .v (.bool x.z)]
def absC (l : List AB) : List AV := l.flatMap abC
theorem abC_len (x : AB) : (abC x).length = 5 := rfl
theorem absC_len (l : List AB) : (absC l).length = l.length * 5 := flat_length abC 5 (fun _ => rfl) l
theorem absC_at {l : List AB} {i : Nat} (h : i < l.length) : ∃ R, (absC l).drop (i * 5) = abC l[i] ++ R := ⟨_, flat_at abC 5 (fun _ => rfl) l i h⟩
theorem cellAB (x : AB) : (∀ y ∈ abC x, AV.isCell y = true) := fun y hy => by simp only [abC, List.mem_cons, List.not_mem_nil, or_false] at hy; rcases hy with rfl | rfl | rfl | rfl | rfl <;> rfl

set_option maxHeartbeats 1600000 in
attribute [local simp] undefA List.getElem?_cons_zero List.getElem?_cons_succ in
theorem few09_ok {σ : St} {l : List AB} (hl : l.length ≤ 9223372036854775807) :
    CallsA Try.prog 15 [.sl 5 (absC l) l.length .shut] σ (fun av σ' => ∃ b : Bool, (b = true → l.length ≤ 30) ∧ av = .v (.bool b) ∧ σ = σ') := by
  have hlc := absC_len l
  have F := And.intro hlc (True.intro)
  refine callsA_body Try.func15 rfl rfl rfl ?_; refine sr fun _ hJ2 => ?_; refine hJ2 _ _ ?_; refine sq fun K3 hK3 => ?_; refine sr fun _ hJ5 => ?_; refine hJ5 _ _ ?_; refine cs (fun c6 => ?_) (fun c6 => ?_)
  · (try exact nope c6); all_goals have c6p := c6; try simp [F] at c6p
    all_goals
     replace F := aF c6 F; (try replace F := aF c6p F); refine sr fun _ hJ7 => ?_; refine hJ7 _ _ ?_; refine ra ?_; exact ⟨false, by simp, by simp [F], rfl⟩
  (try exact nope c6); all_goals have c6p := c6; try simp [F] at c6p
  all_goals
   replace F := aF c6 F; try replace F := aF c6p F
   have h30 : l.length ≤ 30 := by have h := c6; simp at h; omega
   refine run_skip ?_; refine hK3 _ _ ?_; refine sq fun K8 hK8 => ?_; refine sr fun _ hJ10 => ?_; refine hJ10 _ _ ?_; refine run_block_k ?_; refine run_loopF (X := Nat) [0] (fun i ρ σ1 => (i ≤ l.length) ∧ (ρ 3 = .v (.int .i64 i)) ∧ (σ1 = σ)) (fun i => l.length - i) (0) ?st1 ?rd1
   case st1 =>
    refine ⟨lp, lp, lp⟩
   case rd1 =>
    rintro i ρ1 σ1 hF1 ⟨h1, h5, hσ⟩; obtain rfl := hσ.symm
    have f1 := keepL hF1
    (try simp [KeepL, F] at f1); replace F := aF h5 F; (try replace F := aF f1 F); refine sq fun K11 hK11 => ?_; refine sr fun _ hJ13 => ?_; refine hJ13 _ _ ?_; refine cs (fun c10 => ?_) (fun c10 => ?_)
    · (try exact nope c10); all_goals have c10p := c10; try simp [F] at c10p
      all_goals
       replace F := aF c10 F; try replace F := aF c10p F
       have hlt : i < l.length := by have h := c10; simp at h; omega
       obtain ⟨R, hR⟩ := absC_at hlt
       obtain ⟨a, ha⟩ : ∃ a, a = l[i] := ⟨_, rfl⟩
       rw [← ha] at hR
       have e1 := get_dropB (l := absC l) (i := i * 5) (j := 3) (x := .sl 5 (coinsC a.l) a.l.length .shut) (by rw [hR]; rfl)
       have d1 : i * 5 + 3 < l.length * 5 := by omega
       have d4 : i * 5 + 5 ≤ l.length * 5 := by omega
       have hi1 : i + 1 ≤ l.length := hlt
       have hwi : IntKind.i64.wrap ((i : Int) + 1) = (i : Int) + 1 := wrap_i64 _ (by omega) (by omega)
       replace F := aF hlt (And.intro e1 (And.intro d1 (And.intro d4 (And.intro hi1 (And.intro hwi F))))); refine run_skip ?_; refine hK11 _ _ ?_; refine sq fun K14 hK14 => ?_; refine run_block_k ?_; refine sr fun _ hJ16 => ?_; refine hJ16 _ _ ?_; refine cs (fun c19 => ?_) (fun c19 => ?_)
       · (try exact nope c19); all_goals have c19p := c19; try simp [F] at c19p
         all_goals
          replace F := aF c19 F; (try replace F := aF c19p F); refine sr fun _ hJ18 => ?_; refine hJ18 _ _ ?_; refine ra ?_; exact ⟨false, by simp, by simp [F], rfl⟩
       (try exact nope c19); all_goals have c19p := c19; try simp [F] at c19p
       all_goals
        replace F := aF c19 F; (try replace F := aF c19p F); refine run_skip ?_; refine hK14 _ _ ?_; refine rg' (h := fun J19 hJ19 => ?_); refine hJ19 _ _ ?_; refine ⟨(i + 1), ⟨kp, lp, lp, lp⟩, lp⟩
    (try exact nope c10); all_goals have c10p := c10; try simp [F] at c10p
    all_goals
     replace F := aF c10 F; (try replace F := aF c10p F); refine run_exit ?_; refine hK8 _ _ ?_; refine sr fun _ hJ21 => ?_; refine hJ21 _ _ ?_; refine ra ?_; exact ⟨true, fun _ => h30, by simp [F], rfl⟩

def purM (l : List Coin) : Nat → Nat := l.foldl (fun f c j => if j = c.d.toNat % 8 then c.n.v else f j) (fun _ => 0)
theorem purM_snoc (l : List Coin) (c : Coin) : purM (l ++ [c]) = fun j => if j = c.d.toNat % 8 then c.n.v else purM l j := by simp [purM]
theorem fold_lt : ∀ (l : List Coin) (f : Nat → Nat), (∀ j, f j < 2 ^ 256) → ∀ j, l.foldl (fun f c j => if j = c.d.toNat % 8 then c.n.v else f j) f j < 2 ^ 256
  | [], f, h => h
  | c :: l, f, h => fold_lt l _ (fun j => by
    show (if j = c.d.toNat % 8 then c.n.v else f j) < _
    split
    · exact c.n.h
    · exact h j)
theorem purM_lt (l : List Coin) (j : Nat) : purM l j < 2 ^ 256 := fold_lt l _ (fun _ => Nat.two_pow_pos 256) j
def lawC (x : AB) : List Coin := if x.z then x.l else lstF (purM x.l) 8
theorem lawC_len {x : AB} (h : x.Ok) : (lawC x).length ≤ 9223372036854775807 := by
  unfold lawC; split
  · exact h
  · have := lstF_len (purM x.l) 8; omega
theorem rem_p8b (b : UInt8) (m : Nat) (hm : (m : Int) ≠ 0) (xo yo : Operand) : binA Try.prog .rem 5 xo yo (.v (.int .u8 (b.toNat : Nat))) (.v (.int .u8 m)) = some (.v (.int .u8 ((b.toNat % m : Nat) : Int))) := by rw [binA_rem (h := hm)]; rfl
set_option maxHeartbeats 1600000 in
attribute [local simp] undefA List.getElem?_cons_zero List.getElem?_cons_succ in
theorem coins09_ok {σ : St} {x : AB} (hx : x.Ok) :
    CallsA Try.prog 33 [.agg (abC x)] σ (fun av σ' => av = .sl 5 (coinsC (lawC x)) (lawC x).length .shut ∧ σ = σ') := by
  refine callsA_gcS ?_ (by simp [AV.under])
  have hli := fun τ => rlist_ok (σ := τ) (f := purM x.l) (fun d _ => purM_lt x.l d)
  have hL1 : x.z = true → lawC x = x.l := fun h => by rw [lawC, if_pos h]
  have hL2 : x.z = false → lawC x = lstF (purM x.l) 8 := fun h => by rw [lawC, if_neg (by simp [h])]
  obtain ⟨C, hC⟩ : ∃ C, C = lawC x := ⟨_, rfl⟩
  rw [← hC] at hL1 hL2 ⊢
  obtain ⟨l, hl⟩ : ∃ l, l = x.l := ⟨_, rfl⟩
  obtain ⟨z, hz⟩ : ∃ z, z = x.z := ⟨_, rfl⟩
  have hxl : l.length ≤ 9223372036854775807 := by rw [hl]; exact hx
  obtain ⟨A, hA⟩ : ∃ A, A = abC x := ⟨_, rfl⟩
  have hAl : A.length = 5 := by rw [hA]; rfl
  have hAt : List.take 5 A = A := List.take_of_length_le (Nat.le_of_eq hAl)
  have hA3 : ∀ h2 : 3 < A.length, A[3]'h2 = .sl 5 (coinsC l) l.length .shut := fun _ => by subst hA hl; rfl
  have hA4 : ∀ h2 : 4 < A.length, A[4]'h2 = .v (.bool z) := fun _ => by subst hA hz; rfl
  have hAc : (∀ x, x ∈ A → x.isCell = true) = True := eq_true (by rw [hA]; exact cellAB x)
  simp only [AV.isCell] at hAc
  rw [← hA]
  rw [← hl] at hli hL1 hL2
  rw [← hz] at hL1 hL2
  clear hA hl hz hx
  have hPl := pur_len
  have hPt := pur_take
  have hPd := pur_drop
  have hPc := pur_all
  simp only [AV.isCell] at hPc
  have hPn : ∀ n g, noObjL n (purA (purF g)) = true := fun n g => purA_noObj n _
  have hlc := coinsC_len l
  have F := And.intro hAl (And.intro hAt (And.intro hA3 (And.intro hA4 (And.intro hAc (And.intro hPl (And.intro hPt (And.intro hPd (And.intro hPc (And.intro hPn (And.intro hlc (True.intro)))))))))))
  refine callsA_body Try.func33 rfl rfl rfl ?_; refine sr fun _ hJ2 => ?_; refine hJ2 _ _ ?_; refine sq fun K3 hK3 => ?_; refine sr fun _ hJ5 => ?_; refine hJ5 _ _ ?_; refine cs (fun c6 => ?_) (fun c6 => ?_)
  · (try exact nope c6); all_goals have c6p := c6; try simp [F] at c6p
    all_goals
     replace F := aF c6 F; try replace F := aF c6p F
     have hz1 : z = true := by have h := c6; simpa using h
     have hC1 := hL1 hz1
     replace F := aF hC1 F; refine sr fun _ hJ7 => ?_; refine hJ7 _ _ ?_; refine ra ?_; exact gcr
  (try exact nope c6); all_goals have c6p := c6; try simp [F] at c6p
  all_goals
   replace F := aF c6 F; try replace F := aF c6p F
   have hz1 : z = false := by have h := c6; simpa using h
   have hC1 := hL2 hz1
   replace F := aF hC1 F; refine run_skip ?_; refine hK3 _ _ ?_; refine sr fun _ hJ9 => ?_; refine hJ9 _ _ ?_; refine sq fun K10 hK10 => ?_; refine sr fun _ hJ12 => ?_; refine hJ12 _ _ ?_; refine run_block_k ?_; refine run_loopF (X := Nat) [1, 2, 3] (fun i ρ σ1 => (i ≤ l.length) ∧ (ρ 4 = .v (.int .i64 i)) ∧ (σ1 = { σ with objs := σ.objs ++ [A, purA (purF (purM (l.take i)))] })) (fun i => l.length - i) (0) ?st1 ?rd1
   case st1 =>
    refine ⟨lp, lp, ?_⟩
    · simp only [List.take_zero, show purM [] = fun _ => 0 from rfl, purA_zero]
   case rd1 =>
    rintro i ρ1 σ1 hF1 ⟨hi, h4, hσ⟩; obtain rfl := hσ.symm
    have f1 := keepL hF1
    (try simp [KeepL, F] at f1); replace F := aF h4 F; (try replace F := aF f1 F); refine sq fun K13 hK13 => ?_; refine sr fun _ hJ15 => ?_; refine hJ15 _ _ ?_; refine cs (fun c13 => ?_) (fun c13 => ?_)
    · (try exact nope c13); all_goals have c13p := c13; try simp [F] at c13p
      all_goals
       replace F := aF c13 F; try replace F := aF c13p F
       have hlt : i < l.length := by have h := c13; simp at h; omega
       obtain ⟨c, hc⟩ : ∃ c, c = l[i] := ⟨_, rfl⟩
       have hat := coinsC_at hlt
       simp only [coinC] at hat
       rw [← hc] at hat
       have hb1 : i * 5 + 5 ≤ l.length * 5 := by omega
       have htk : l.take (i + 1) = l.take i ++ [c] := by rw [hc]; exact (List.take_append_getElem hlt).symm
       have hr8 : ∀ xo yo, binA Try.prog .rem 5 xo yo (.v (.int .u8 (c.d.toNat : Nat))) (.v (.int .u8 8)) = some (.v (.int .u8 ((c.d.toNat % 8 : Nat) : Int))) := fun xo yo => rem_p8b c.d 8 (by decide) xo yo
       have hsn := purM_snoc (l.take i) c
       rw [← htk] at hsn
       obtain ⟨d, hd⟩ : ∃ d, d = c.d.toNat % 8 := ⟨_, rfl⟩
       have hd8 : d < 8 := by omega
       have hd5 : (d : Int) < 8 := by omega
       have hb2 : d * 4 + 4 ≤ 32 := by omega
       simp only [← hd] at hr8 hsn
       obtain ⟨g, hg⟩ : ∃ g, g = purM (l.take i) := ⟨_, rfl⟩
       have hset := purA_set (P := purF g) (d := d) (by simpa using hd8) c.n.v
       rw [purF_set] at hset
       have hnx : purF (fun j => if j = d then c.n.v else g j) = purF (purM (l.take (i + 1))) := by rw [hsn, hg]
       rw [hnx] at hset
       rw [← hg]
       have hi1 : i + 1 ≤ l.length := hlt
       have hwi : IntKind.i64.wrap ((i : Int) + 1) = (i : Int) + 1 := wrap_i64 _ (by omega) (by omega)
       replace F := aF hlt (And.intro hb1 (And.intro hr8 (And.intro hd8 (And.intro hd5 (And.intro hb2 (And.intro hset (And.intro hi1 (And.intro hwi (And.intro hat F))))))))); refine run_skip ?_; refine hK13 _ _ ?_; refine sq fun K16 hK16 => ?_; refine run_block_k ?_
       refine run_draw (by kernel_rfl) fun J17 hJ17 => ?_
       refine rp2 0 (k := ?_); refine rp2 1 (k := ?_); refine rp2 2 (k := ?_); refine rp2 3 (k := ?_); refine rp2 4 (k := ?_); refine rp2 5 (k := ?_); refine rp2 6 (k := ?_); refine rp2 7 (k := ?_); refine rp2 8 (k := ?_); refine rp2 9 (k := ?_); refine rp2 10 (k := ?_); refine rp2 11 (k := ?_); refine rp2 12 (k := ?_); refine rp2 13 (k := ?_); refine dop 14 rfl ?_; (repeat (first | simp [F] | simp (disch := omega) only [wC, if_pos, if_neg])); refine ⟨ln, ?_⟩; refine dd ?_; refine hJ17 _ _ ?_; refine hK16 _ _ ?_; refine rg' (h := fun J18 hJ18 => ?_); refine hJ18 _ _ ?_; refine ⟨(i + 1), ⟨kp, lp, lp, lp⟩, lp⟩
    (try exact nope c13); all_goals have c13p := c13; try simp [F] at c13p
    all_goals
     replace F := aF c13 F; try replace F := aF c13p F
     have hend : l.take i = l := List.take_of_length_le (by have h := c13; simp at h; omega)
     rw [hend]
     refine run_exit ?_; refine hK10 _ _ ?_; refine sr fun _ hJ20 => ?_; refine ca (c := hli _) (k := ?_); rintro _ _ ⟨rfl, rfl⟩; (repeat (first | simp [F] | simp (disch := omega) only [wC, if_pos, if_neg])); refine hJ20 _ _ ?_; refine ra ?_; exact gcr

def adr (n : UInt8) : UInt8 := if 240 ≤ n.toNat then n else ([0, 1, 2, 199, 200, 204] : List UInt8)[n.toNat % 6]'(Nat.mod_lt _ (by decide))
theorem six (k : Nat) (h : k < 6) : ([AV.v (.int .u8 0), AV.v (.int .u8 1), AV.v (.int .u8 2), AV.v (.int .u8 199), AV.v (.int .u8 200), AV.v (.int .u8 204)] : List AV)[k]'h = .v (.int .u8 ((([0, 1, 2, 199, 200, 204] : List UInt8)[k]'h).toNat : Nat)) := by
  rcases (by omega : k = 0 ∨ k = 1 ∨ k = 2 ∨ k = 3 ∨ k = 4 ∨ k = 5) with rfl | rfl | rfl | rfl | rfl | rfl <;> rfl
set_option maxHeartbeats 1600000 in
attribute [local simp] undefA List.getElem?_cons_zero List.getElem?_cons_succ in
theorem addr09_ok {σ : St} {n : UInt8} :
    CallsA Try.prog 32 [.v (.int .u8 n.toNat)] σ (fun av σ' => av = .v (.int .u8 (adr n).toNat) ∧ σ = σ') := by
  have hr6 : ∀ xo yo, binA Try.prog .rem 5 xo yo (.v (.int .u8 (n.toNat : Nat))) (.v (.int .u8 6)) = some (.v (.int .u8 ((n.toNat % 6 : Nat) : Int))) := fun xo yo => rem_p8b n 6 (by decide) xo yo
  have ha1 : 240 ≤ n.toNat → adr n = n := fun h => by rw [adr, if_pos h]
  have ha2 : ¬ 240 ≤ n.toNat → ∀ h2 : n.toNat % 6 < [AV.v (.int .u8 0), AV.v (.int .u8 1), AV.v (.int .u8 2), AV.v (.int .u8 199), AV.v (.int .u8 200), AV.v (.int .u8 204)].length, [AV.v (.int .u8 0), AV.v (.int .u8 1), AV.v (.int .u8 2), AV.v (.int .u8 199), AV.v (.int .u8 200), AV.v (.int .u8 204)][n.toNat % 6]'h2 = .v (.int .u8 ((adr n).toNat : Nat)) := fun h h2 => by
    rw [adr, if_neg h]
    exact six _ h2
  obtain ⟨A, hA⟩ : ∃ A, A = adr n := ⟨_, rfl⟩
  rw [← hA] at ha1 ha2 ⊢
  obtain ⟨k, hk⟩ : ∃ k, k = n.toNat % 6 := ⟨_, rfl⟩
  have hk6 : k < 6 := by omega
  simp only [← hk] at hr6 ha2
  have F := And.intro hr6 (And.intro hk6 (True.intro))
  refine callsA_body Try.func32 rfl rfl rfl ?_; refine sr fun _ hJ2 => ?_; refine hJ2 _ _ ?_; refine sq fun K3 hK3 => ?_; refine sr fun _ hJ5 => ?_; refine hJ5 _ _ ?_; refine cs (fun c4 => ?_) (fun c4 => ?_)
  · (try exact nope c4); all_goals have c4p := c4; try simp [F] at c4p
    all_goals
     replace F := aF c4 F; try replace F := aF c4p F
     have h1 : 240 ≤ n.toNat := by have h := c4; simp at h; omega
     have e := ha1 h1
     replace F := aF e F; refine sr fun _ hJ7 => ?_; refine hJ7 _ _ ?_; refine ra ?_; exact rt
  (try exact nope c4); all_goals have c4p := c4; try simp [F] at c4p
  all_goals
   replace F := aF c4 F; try replace F := aF c4p F
   have h1 : ¬ 240 ≤ n.toNat := by have h := c4; simp at h; omega
   have e := ha2 h1
   replace F := aF e F; refine run_skip ?_; refine hK3 _ _ ?_; refine sr fun _ hJ9 => ?_; refine hJ9 _ _ ?_; refine ra ?_; exact rt

structure BkI (s : Sto) (T : Tb) (n : Nat) : Prop where
  bk : BankS s T n
  sm : SumT T
theorem BkI.nil : BkI newSg.s tb0 0 := ⟨BankS.nil, SumT.nil⟩
set_option maxHeartbeats 1600000 in
attribute [local simp] undefA List.getElem?_cons_zero List.getElem?_cons_succ in
theorem does09_ok {σ : St} {o k m n : Nat} {G : Sg} {T : Tb} {x : AB} (h : HasS σ o k G) (hm : σ.objs[m]? = some (bC T)) (hom : o ≠ m) (hi : BkI G.s T n) (hn : n ≤ 900) (hx : x.Ok) :
    CallsA Try.prog 17 [.ptr o 0, .ptr m 0, .agg (abC x)] σ (fun av σ' => ∃ G' T', BkI G'.s T' (n + 16) ∧ av = .v (.bool true) ∧ σ' = putBk (putS σ o k G') m T') := by
  refine callsA_mono (callsA_gcX (X := { x : Sg × Tb // BkI x.1.s x.2 (n + 16) }) (A := fun _ => .v (.bool true)) (τ := fun x => putBk (putS σ o k x.1.1) m x.1.2) ?_ (fun _ => rfl) (fun x => by simp [putBk, putS]) (fun x => rfl) (fun x => by simp [putBk, putS]) (fun x => rfl) (fun x => ku_set (putS_o h _) (bC_under _ _)) (fun x => putS_r (o := o) (k := k) (σ := σ) _)) (fun av σ' ⟨x, e1, e2⟩ => ⟨x.1.1, x.1.2, x.2, e1, e2⟩)
  have hwl := lt_of_get hm
  have hco := fun τ => coins09_ok (σ := τ) hx
  have hLl := lawC_len hx
  obtain ⟨L, hL⟩ : ∃ L, L = lawC x := ⟨_, rfl⟩
  simp only [← hL] at hco hLl
  have hx1 := fun τ => addr09_ok (σ := τ) (n := x.a)
  have hx2 := fun τ => addr09_ok (σ := τ) (n := x.b)
  obtain ⟨a, ha⟩ : ∃ a, a = adr x.a := ⟨_, rfl⟩
  obtain ⟨b, hb⟩ : ∃ b, b = adr x.b := ⟨_, rfl⟩
  simp only [← ha] at hx1
  simp only [← hb] at hx2
  obtain ⟨A, hA⟩ : ∃ A, A = abC x := ⟨_, rfl⟩
  have hAl : A.length = 5 := by rw [hA]; rfl
  have hAt : List.take 5 A = A := List.take_of_length_le (Nat.le_of_eq hAl)
  have hA0 : ∀ h2 : 0 < A.length, A[0]'h2 = .v (.int .u8 (x.f.toNat : Nat)) := fun _ => by subst hA; rfl
  have hA1 : ∀ h2 : 1 < A.length, A[1]'h2 = .v (.int .u8 (x.a.toNat : Nat)) := fun _ => by subst hA; rfl
  have hA2 : ∀ h2 : 2 < A.length, A[2]'h2 = .v (.int .u8 (x.b.toNat : Nat)) := fun _ => by subst hA; rfl
  have hr4 : ∀ xo yo, binA Try.prog .rem 5 xo yo (.v (.int .u8 (x.f.toNat : Nat))) (.v (.int .u8 4)) = some (.v (.int .u8 ((x.f.toNat % 4 : Nat) : Int))) := fun xo yo => rem_p8b x.f 4 (by decide) xo yo
  obtain ⟨r, hr9⟩ : ∃ r, r = x.f.toNat % 4 := ⟨_, rfl⟩
  simp only [← hr9] at hr4
  have hpa := fun (G' : Sg) => putS_app h G' [A]
  have hS : HasS { σ with objs := σ.objs ++ [A] } o k G := h.app [A] σ.toks
  have gw : ∀ G', (putS { σ with objs := σ.objs ++ [A] } o k G').objs[m]? = some (bC T) := fun G' => by simp only [putS]; rw [List.getElem?_set_ne hom, List.getElem?_append_left hwl]; exact hm
  have hfin : ∀ G' W', putBk (putS { σ with objs := σ.objs ++ [A] } o k G') m W' = { putBk (putS σ o k G') m W' with objs := (putBk (putS σ o k G') m W').objs ++ [A] } := fun G' W' => by
    rw [hpa]; simp only [putBk]; rw [List.set_append_left _ _ (by simpa [putS] using hwl)]
  have d1 := send_ok2 (a := a) (b := b) hS hi.bk hi.sm hn hLl
  have d2 := mint_ok2 (b := b) hS hi.bk hi.sm hn hLl
  have d3 := burn_ok2 (a := a) hS hi.bk hn hLl
  have w1 := fun G' => rsend_ok (a := a) (b := b) (gw G') hi.bk.rt hi.sm hLl
  have w2 := fun G' => rmint_ok (b := b) (gw G') hi.bk.rt hi.sm hLl
  have w3 := fun G' => rburn_ok (a := a) (gw G') hi.bk.rt hLl
  have s1 := sumT_send (a := a) (b := b) (l := L) hi.sm
  have s2 := sumT_mint (b := b) (l := L) hi.sm
  have s3 := sumT_burn (a := a) (l := L) hi.sm
  obtain ⟨P1, hP1⟩ : ∃ P, P = sendB T a b L := ⟨_, rfl⟩
  obtain ⟨P2, hP2⟩ : ∃ P, P = mintB T b L := ⟨_, rfl⟩
  obtain ⟨P3, hP3⟩ : ∃ P, P = burnB T a L := ⟨_, rfl⟩
  simp only [← hP1] at d1 w1 s1
  simp only [← hP2] at d2 w2 s2
  simp only [← hP3] at d3 w3 s3
  rw [← hA] at hco ⊢
  have F := And.intro hAl (And.intro hAt (And.intro hA0 (And.intro hA1 (And.intro hA2 (And.intro hr4 (True.intro))))))
  refine callsA_body Try.func17 rfl rfl rfl ?_; refine sr fun _ hJ2 => ?_; refine hJ2 _ _ ?_; refine sr fun _ hJ4 => ?_; refine ca (c := hco _) (k := ?_); rintro _ _ ⟨rfl, rfl⟩; (repeat (first | simp [F] | simp (disch := omega) only [wC, if_pos, if_neg])); refine hJ4 _ _ ?_; refine sq fun K5 hK5 => ?_
  refine run_draw (by kernel_rfl) fun J6 hJ6 => ?_
  refine rp2 0 (k := ?_); refine rp2 1 (k := ?_); refine rp2 3 (k := ?_); refine rp2 4 (k := ?_); refine dc 2 rfl (c := hx1 _) (k := ?_); rintro _ _ ⟨rfl, rfl⟩
  refine ⟨by first | exact fun _ _ h => h | (refine later_list [4, 3, 0] (by kernel_rfl) (List.forall_mem_cons.2 ⟨fun _ => fact2 rfl rfl ?_, List.forall_mem_cons.2 ⟨fun _ => fact2 rfl rfl ?_, List.forall_mem_cons.2 ⟨fun _ => fact2 rfl rfl ?_, fun _ h => absurd h List.not_mem_nil⟩⟩⟩) <;> constructor <;> first | rfl | (simp [F]; done)), ?_⟩
  (repeat (first | simp [F] | simp (disch := omega) only [wC, if_pos, if_neg])); refine dc 5 rfl (c := hx2 _) (k := ?_); rintro _ _ ⟨rfl, rfl⟩
  refine ⟨by first | exact fun _ _ h => h | (refine later_list [3, 0] (by kernel_rfl) (List.forall_mem_cons.2 ⟨fun _ => fact2 rfl rfl ?_, List.forall_mem_cons.2 ⟨fun _ => fact2 rfl rfl ?_, fun _ h => absurd h List.not_mem_nil⟩⟩) <;> constructor <;> first | rfl | (simp [F]; done)), ?_⟩
  (repeat (first | simp [F] | simp (disch := omega) only [wC, if_pos, if_neg])); refine rp2 6 (k := ?_); refine rp2 7 (k := ?_); refine dd ?_; refine hJ6 _ _ ?_; refine hK5 _ _ ?_; refine sq fun K7 hK7 => ?_; refine sr fun _ hJ9 => ?_; refine hJ9 _ _ ?_; refine run_block_k ?_; refine sq fun K10 hK10 => ?_; refine sr fun _ hJ12 => ?_; refine hJ12 _ _ ?_; refine cs (fun c21 => ?_) (fun c21 => ?_)
  · (try exact nope c21); all_goals have c21p := c21; try simp [F] at c21p
    all_goals
     replace F := aF c21 F; (try replace F := aF c21p F); refine run_skip ?_; refine hK10 _ _ ?_; refine cs (fun c21 => ?_) (fun c21 => ?_)
     · (try exact nope c21); all_goals have c21p := c21; try simp [F] at c21p
       all_goals
        replace F := aF c21 F; (try replace F := aF c21p F); refine sr fun _ hJ14 => ?_; refine ca (c := d1) (k := ?_); rintro _ _ ⟨G1, e1, rfl, rfl⟩; (repeat (first | simp [F] | simp (disch := omega) only [wC, if_pos, if_neg])); refine ca (c := w1 G1) (k := ?_); rintro _ _ ⟨rfl, rfl⟩; (repeat (first | simp [F] | simp (disch := omega) only [wC, if_pos, if_neg])); refine hJ14 _ _ ?_; refine ra ?_
        refine ⟨⟨(G1, _), ⟨e1, by first | exact s1 | exact s2 | exact s3⟩⟩, ?_⟩
        rw [hfin]
        exact gcr
     (try exact nope c21); all_goals have c21p := c21; try simp [F] at c21p
     all_goals
      replace F := aF c21 F; (try replace F := aF c21p F); refine sr fun _ hJ16 => ?_; refine hJ16 _ _ ?_; refine cs (fun c35 => ?_) (fun c35 => ?_)
      · (try exact nope c35); all_goals have c35p := c35; try simp [F] at c35p
        all_goals
         replace F := aF c35 F; (try replace F := aF c35p F); refine sr fun _ hJ18 => ?_; refine ca (c := d2) (k := ?_); rintro _ _ ⟨G1, e1, rfl, rfl⟩; (repeat (first | simp [F] | simp (disch := omega) only [wC, if_pos, if_neg])); refine ca (c := w2 G1) (k := ?_); rintro _ _ ⟨rfl, rfl⟩; (repeat (first | simp [F] | simp (disch := omega) only [wC, if_pos, if_neg])); refine hJ18 _ _ ?_; refine ra ?_
         refine ⟨⟨(G1, _), ⟨e1, by first | exact s1 | exact s2 | exact s3⟩⟩, ?_⟩
         rw [hfin]
         exact gcr
      (try exact nope c35); all_goals have c35p := c35; try simp [F] at c35p
      all_goals
       replace F := aF c35 F; (try replace F := aF c35p F); refine run_skip ?_; refine hK7 _ _ ?_; refine sr fun _ hJ20 => ?_; refine ca (c := d3) (k := ?_); rintro _ _ ⟨G1, e1, rfl, rfl⟩; (repeat (first | simp [F] | simp (disch := omega) only [wC, if_pos, if_neg])); refine ca (c := w3 G1) (k := ?_); rintro _ _ ⟨rfl, rfl⟩; (repeat (first | simp [F] | simp (disch := omega) only [wC, if_pos, if_neg])); refine hJ20 _ _ ?_; refine ra ?_
       refine ⟨⟨(G1, _), ⟨e1, by first | exact s1 | exact s2 | exact s3⟩⟩, ?_⟩
       rw [hfin]
       exact gcr
  (try exact nope c21); all_goals have c21p := c21; try simp [F] at c21p
  all_goals
   replace F := aF c21 F; (try replace F := aF c21p F); refine rg' (h := fun J21 hJ21 => ?_); refine hJ21 _ _ ?_; refine hK10 _ _ ?_; refine cs (fun c21 => ?_) (fun c21 => ?_)
   · (try exact nope c21); all_goals have c21p := c21; try simp [F] at c21p
     all_goals
      replace F := aF c21 F; (try replace F := aF c21p F); refine sr fun _ hJ23 => ?_; refine ca (c := d1) (k := ?_); rintro _ _ ⟨G1, e1, rfl, rfl⟩; (repeat (first | simp [F] | simp (disch := omega) only [wC, if_pos, if_neg])); refine ca (c := w1 G1) (k := ?_); rintro _ _ ⟨rfl, rfl⟩; (repeat (first | simp [F] | simp (disch := omega) only [wC, if_pos, if_neg])); refine hJ23 _ _ ?_; refine ra ?_
      refine ⟨⟨(G1, _), ⟨e1, by first | exact s1 | exact s2 | exact s3⟩⟩, ?_⟩
      rw [hfin]
      exact gcr
   (try exact nope c21); all_goals have c21p := c21; try simp [F] at c21p
   all_goals
    replace F := aF c21 F; (try replace F := aF c21p F); refine sr fun _ hJ25 => ?_; refine hJ25 _ _ ?_; refine cs (fun c35 => ?_) (fun c35 => ?_)
    · (try exact nope c35); all_goals have c35p := c35; try simp [F] at c35p
      all_goals
       replace F := aF c35 F; (try replace F := aF c35p F); refine sr fun _ hJ27 => ?_; refine ca (c := d2) (k := ?_); rintro _ _ ⟨G1, e1, rfl, rfl⟩; (repeat (first | simp [F] | simp (disch := omega) only [wC, if_pos, if_neg])); refine ca (c := w2 G1) (k := ?_); rintro _ _ ⟨rfl, rfl⟩; (repeat (first | simp [F] | simp (disch := omega) only [wC, if_pos, if_neg])); refine hJ27 _ _ ?_; refine ra ?_
       refine ⟨⟨(G1, _), ⟨e1, by first | exact s1 | exact s2 | exact s3⟩⟩, ?_⟩
       rw [hfin]
       exact gcr
    (try exact nope c35); all_goals have c35p := c35; try simp [F] at c35p
    all_goals
     replace F := aF c35 F; (try replace F := aF c35p F); refine run_skip ?_; refine hK7 _ _ ?_; refine sr fun _ hJ29 => ?_; refine ca (c := d3) (k := ?_); rintro _ _ ⟨G1, e1, rfl, rfl⟩; (repeat (first | simp [F] | simp (disch := omega) only [wC, if_pos, if_neg])); refine ca (c := w3 G1) (k := ?_); rintro _ _ ⟨rfl, rfl⟩; (repeat (first | simp [F] | simp (disch := omega) only [wC, if_pos, if_neg])); refine hJ29 _ _ ?_; refine ra ?_
     refine ⟨⟨(G1, _), ⟨e1, by first | exact s1 | exact s2 | exact s3⟩⟩, ?_⟩
     rw [hfin]
     exact gcr
end Go.Proofs.Ytmponlabfccjaaa

/-
  bank.All: all balances in order.
-/
namespace Go.Proofs.Ytmponlabfccjaaa
set_option linter.unnecessarySimpa false
set_option maxRecDepth 100000
open Go Go.Vm
set_option linter.unusedSimpArgs false
set_option linter.unusedVariables false
attribute [local simp] evalL wantedA isCall opA evalA evalAll evalsA evalOpt ofValue ofCell plain binA_eql_pn binA_neq_pn binA_gtr binA_lss binA_geq binA_leq binA_add binA_sub binA_eql binA_neq binA_orI binA_shl binA_shr binA_mul binA_quo binA_rem binA_agg_eql binA_agg_neq convA_int unA_not fieldAddrA loadA partA pickA_true pickA_false pickA_bb lenA builtinA storeA splice AV.cells AV.isCell sliceA boundA intA callOf indexAddrA newObjA buildA fillA zeroA ofCells buildSliceA indexA fieldA set_appN get_appN take_appN List.getElem?_cons_zero List.getElem?_cons_succ get_sa0 get_sa1 get_sa2 get_sa3 set_sa0 set_sa1 set_sa2 set_sa3 sliceRowA binA_eqn binA_neqn drop_mr
abbrev Pc := UInt8 × Coin

def flatB (B : List Bl) : List Pc := B.flatMap fun b => b.l.map fun c => (b.a, c)
def prB (p : Pc) : Pr := prT (some p.1) p.2
theorem keyB_lt (a b c d : UInt8) : ltB (key (some a) b) (key (some c) d) = decide (a.toNat < c.toNat ∨ (a = c ∧ b.toNat < d.toNat)) := by
  simp only [key, kk, List.cons_append, List.nil_append, ltB, if_true]
  by_cases e : a = c
  · subst e
    by_cases e2 : b = d
    · subst e2; simp
    · rw [if_pos rfl, if_neg e2]; simp
  · rw [if_neg e]; simp [e]
theorem mem_flatB {B : List Bl} {p : Pc} : p ∈ flatB B ↔ ∃ b ∈ B, b.a = p.1 ∧ p.2 ∈ b.l := by
  unfold flatB
  rw [List.mem_flatMap]
  constructor
  · rintro ⟨b, hb, h⟩
    obtain ⟨c, hc, rfl⟩ := List.mem_map.1 h
    exact ⟨b, hb, rfl, hc⟩
  · rintro ⟨b, hb, e, h⟩; exact ⟨b, hb, List.mem_map.2 ⟨p.2, h, by rw [e]⟩⟩
theorem mem_flatT {T : Tb} {p : Pc} : p ∈ flatB (bals T) ↔ p.2 ∈ T (some p.1) := by
  rw [mem_flatB]
  constructor
  · rintro ⟨b, hb, e, h⟩
    rw [(mem_bals.1 hb).1, e] at h; exact h
  · intro h
    exact ⟨⟨p.1, T (some p.1)⟩, mem_bals.2 ⟨rfl, fun e => by have e2 : T (some p.1) = [] := e; rw [e2] at h; simp at h⟩, rfl, h⟩
theorem BankS.plB {s : Sto} {T : Tb} {n : Nat} (h : BankS s T n) : Proofs.Ytmponlabfccjaaa.pl s.l [98] = (flatB (bals T)).map prB := by
  have s1 := pl_srt (p := [98]) h.ok.srt
  have s2 : Srt ((flatB (bals T)).map prB) := by
    rw [Srt, List.pairwise_map]
    have hp : (flatB (bals T)).Pairwise (fun x y => x.1.toNat < y.1.toNat ∨ (x.1 = y.1 ∧ x.2.d.toNat < y.2.d.toNat)) := by
      unfold flatB
      rw [List.pairwise_flatMap]
      refine ⟨fun b hb => ?_, List.Pairwise.imp (fun {x y} hxy p hp q hq => ?_) (srt_bals T)⟩
      · rw [List.pairwise_map]
        have hR := h.rt (some b.a)
        rw [← (mem_bals.1 hb).1] at hR
        exact List.Pairwise.imp (fun hxy => .inr ⟨rfl, hxy⟩) hR.2
      · obtain ⟨c, _, rfl⟩ := List.mem_map.1 hp
        obtain ⟨d, _, rfl⟩ := List.mem_map.1 hq
        exact .inl hxy
    refine List.Pairwise.imp (fun {x y} hxy => ?_) hp
    show ltB (key (some x.1) x.2.d) (key (some y.1) y.2.d) = true
    rw [keyB_lt, decide_eq_true_eq]; exact hxy
  have m1 : ∀ p ∈ Proofs.Ytmponlabfccjaaa.pl s.l [98], p ∈ (flatB (bals T)).map prB := fun p hp => by
    have hp2 := List.mem_filter.1 hp
    obtain ⟨o, d, hk⟩ := h.ks p hp2.1
    have hpre := hp2.2
    rw [hk] at hpre
    cases o with
    | none => simp [key, kk, preB] at hpre
    | some a =>
      have hg := getL_of_mem h.ok.srt hp2.1
      rw [hk, h.gt] at hg
      have hne : amt (T (some a)) d.toNat ≠ 0 := fun e => by rw [e] at hg; simp [enc] at hg
      have hex : ∃ c ∈ T (some a), c.d.toNat = d.toNat := Classical.byContradiction fun hx => hne (amt_none (fun c hc e => hx ⟨c, hc, e⟩))
      obtain ⟨c, hc, hcd⟩ := hex
      have hcn := amt_mem (h.rt (some a)).2 hc
      rw [hcd] at hcn
      refine List.mem_map.2 ⟨(a, c), mem_flatT.2 hc, ?_⟩
      rw [hcn, enc, if_neg (by rw [← hcn]; exact hne)] at hg
      have e1 : c.d = d := UInt8.toNat_inj.1 hcd
      cases p with
      | mk k v =>
        simp only at hk hg
        simp only [prB, prT, Pr.mk.injEq]
        exact ⟨by rw [hk, e1], by simpa using hg⟩
  have m2 : ∀ p ∈ (flatB (bals T)).map prB, p ∈ Proofs.Ytmponlabfccjaaa.pl s.l [98] := fun p hp => by
    obtain ⟨⟨a, c⟩, hc, rfl⟩ := List.mem_map.1 hp
    have hc := mem_flatT.1 hc
    have hR := h.rt (some a)
    have hcn := amt_mem hR.2 hc
    have hg := h.gt (some a) c.d
    rw [hcn, enc, if_neg (hR.1 c hc).2] at hg
    exact List.mem_filter.2 ⟨getL_mem hg, by show preB (key (some a) c.d) [98] = true; simp [key, kk, preB]⟩
  exact (srt_sub s1 s2 m1).eq_of_length_le (srt_sub s2 s1 m2).length_le

def grpS (B : List Bl) (p : Pc) : List Bl :=
  match B.getLast? with
  | some y => if y.a = p.1 then B.dropLast ++ [⟨p.1, y.l ++ [p.2]⟩] else B ++ [⟨p.1, [p.2]⟩]
  | none => B ++ [⟨p.1, [p.2]⟩]
theorem grpS_nil (p : Pc) : grpS [] p = [⟨p.1, [p.2]⟩] := rfl
theorem grpS_new {C : List Bl} {y : Bl} {p : Pc} (h : y.a ≠ p.1) : grpS (C ++ [y]) p = C ++ [y] ++ [⟨p.1, [p.2]⟩] := by
  simp [grpS, h]
theorem grpS_same {C : List Bl} {y : Bl} {p : Pc} (h : y.a = p.1) : grpS (C ++ [y]) p = C ++ [⟨p.1, y.l ++ [p.2]⟩] := by
  simp [grpS, h]
theorem grp_in {a : UInt8} {C : List Bl} : ∀ (cs m : List Coin), (cs.map fun c => (a, c)).foldl grpS (C ++ [⟨a, m⟩]) = C ++ [⟨a, m ++ cs⟩]
  | [], m => by simp
  | c :: cs, m => by
    rw [List.map_cons, List.foldl_cons, grpS_same (y := ⟨a, m⟩) (p := (a, c)) rfl, grp_in cs (m ++ [c])]
    simp
theorem grp_flat : ∀ (B C : List Bl), (∀ y, C.getLast? = some y → ∀ b ∈ B, y.a.toNat < b.a.toNat) → B.Pairwise ltA → (∀ b ∈ B, b.l ≠ []) → (flatB B).foldl grpS C = C ++ B
  | [], C, _, _, _ => by simp [flatB]
  | ⟨a, []⟩ :: r, C, _, _, h3 => absurd rfl (h3 ⟨a, []⟩ (by simp))
  | ⟨a, c :: cs⟩ :: r, C, h1, h2, h3 => by
    have p2 := List.pairwise_cons.1 h2
    have e : flatB (⟨a, c :: cs⟩ :: r) = (a, c) :: ((cs.map fun c => (a, c)) ++ flatB r) := by simp [flatB]
    have e1 : grpS C (a, c) = C ++ [⟨a, [c]⟩] := by
      rcases List.eq_nil_or_concat C with rfl | ⟨D, y, rfl⟩
      · rfl
      · have hlt := h1 y (by simp) ⟨a, c :: cs⟩ (by simp)
        rw [List.concat_eq_append, grpS_new]
        intro q; rw [q] at hlt; simp at hlt
    have ih := grp_flat r (C ++ [(⟨a, [c] ++ cs⟩ : Bl)]) (fun y hy b hb => by
      simp at hy
      subst hy
      exact p2.1 b hb) p2.2 (fun b hb => h3 b (by simp [hb]))
    rw [e, List.foldl_cons, List.foldl_append, e1, grp_in, ih]
    simp
theorem grp_bals (T : Tb) : (flatB (bals T)).foldl grpS [] = bals T := by
  rw [grp_flat _ _ (fun y hy => by simp at hy) (srt_bals T) (fun b hb => (mem_bals.1 hb).2), List.nil_append]
theorem grpS_len (B : List Bl) (p : Pc) (n : Nat) (h : B.length ≤ n ∧ ∀ b ∈ B, b.l.length ≤ n) : (grpS B p).length ≤ n + 1 ∧ ∀ b ∈ grpS B p, b.l.length ≤ n + 1 := by
  rcases List.eq_nil_or_concat B with rfl | ⟨D, y, rfl⟩
  · rw [grpS_nil]; simp
  · rw [List.concat_eq_append] at h ⊢
    by_cases e : y.a = p.1
    · rw [grpS_same e]
      refine ⟨by have := h.1; simp at this ⊢; omega, fun b hb => ?_⟩
      rcases List.mem_append.1 hb with hb | hb
      · have := h.2 b (by simp [hb]); omega
      · simp at hb; subst hb; have := h.2 y (by simp); simp; omega
    · rw [grpS_new e]
      refine ⟨by have := h.1; simp at this ⊢; omega, fun b hb => ?_⟩
      rcases List.mem_append.1 hb with hb | hb
      · have := h.2 b hb; omega
      · simp at hb; subst hb; simp

def rcE (t : Nat) (b : Bl) : List AV := [.v (.int .u8 b.a.toNat), .sl 5 (coinsC b.l) b.l.length (.own t)]
def rcC (t : Nat) : List Bl → List AV
  | [] => []
  | b :: r => rcE t b ++ rcC (t + 1) r
theorem rcC_len : ∀ (B : List Bl) (t : Nat), (rcC t B).length = B.length * 2
  | [], _ => rfl
  | b :: r, t => by simp [rcC, rcE, rcC_len r]; omega
theorem rcC_app : ∀ (B C : List Bl) (t : Nat), rcC t (B ++ C) = rcC t B ++ rcC (t + B.length) C
  | [], C, t => by simp [rcC]
  | b :: r, C, t => by
    have := rcC_app r C (t + 1)
    simp only [List.cons_append, rcC, this, List.length_cons, List.append_assoc]
    rw [show t + 1 + r.length = t + (r.length + 1) by omega]
theorem rcC_snoc (B : List Bl) (b : Bl) (t : Nat) : rcC t (B ++ [b]) = rcC t B ++ rcE (t + B.length) b := by rw [rcC_app]; simp [rcC]
theorem rcC_wk : ∀ (B : List Bl) (t : Nat), WkL (rcC t B) (balsC B)
  | [], _ => .nil
  | b :: r, t => .cons (Wk.refl _) (.cons (Wk.shut _ _ _ _) (rcC_wk r (t + 1)))
theorem HasS.ext {σ : St} {o k : Nat} {G : Sg} (h : HasS σ o k G) (l : List (List AV)) (t : List Nat) (r : List RowSt) : HasS { σ with objs := σ.objs ++ l, toks := t, rows := σ.rows ++ r } o k G := by
  have e1 := lt_of_get h.o; have e2 := lt_of_get h.r1; have e3 := lt_of_get h.r2; have e4 := lt_of_get h.r3
  exact ⟨by simp only; rw [List.getElem?_append_left e1]; exact h.o, by simp only; rw [List.getElem?_append_left e2]; exact h.r1, by simp only; rw [List.getElem?_append_left e3]; exact h.r2, by simp only; rw [List.getElem?_append_left e4]; exact h.r3⟩

end Go.Proofs.Ytmponlabfccjaaa

/-
  bank.All.
-/
namespace Go.Proofs.Ytmponlabfccjaaa
set_option linter.unnecessarySimpa false
set_option maxRecDepth 100000
open Go Go.Vm
set_option linter.unusedSimpArgs false
set_option linter.unusedVariables false
attribute [local simp] evalL wantedA isCall opA evalA evalAll evalsA evalOpt ofValue ofCell plain binA_eql_pn binA_neq_pn binA_gtr binA_lss binA_geq binA_leq binA_add binA_sub binA_eql binA_neq binA_orI binA_shl binA_shr binA_mul binA_quo binA_rem binA_agg_eql binA_agg_neq convA_int unA_not fieldAddrA loadA partA pickA_true pickA_false pickA_bb lenA builtinA storeA splice AV.cells AV.isCell sliceA boundA intA callOf indexAddrA newObjA buildA fillA zeroA ofCells buildSliceA indexA fieldA set_appN get_appN take_appN List.getElem?_cons_zero List.getElem?_cons_succ get_sa0 get_sa1 get_sa2 get_sa3 set_sa0 set_sa1 set_sa2 set_sa3 sliceRowA binA_eqn binA_neqn drop_mr

theorem splice_last {R : List AV} {v w X : AV} {m : Nat} (h : R.length = m) : List.take (m + 1) (R ++ [v, w]) ++ X :: List.drop (m + 1 + 1) (R ++ [v, w]) = R ++ [v, X] := by
  subst h
  rw [List.take_append, List.take_of_length_le (by omega), show R.length + 1 - R.length = 1 by omega, List.drop_of_length_le (by simp)]
  simp
theorem appR {R : List AV} {n g : Nat} (hR : R.length = n * 2) (hn : n ≤ 1000) (v : AV) (objs : List (List AV)) (tk : List Nat) (gl : Nat → Option (List AV)) (rs : List RowSt) : appendA Try.prog 30 (.row rs.length g 0 2 n) (.sl 2 [v, .sl 0 [] 0 .full] 1 .full) ⟨objs, tk, gl, rs ++ [⟨g, R, none⟩]⟩ = some (.row rs.length (g + 1) 0 2 (n + 1), ⟨objs, tk, gl, rs ++ [⟨g + 1, R ++ [v, .sl 0 [] 0 .full], none⟩]⟩) := by
  have e1 := elemT_30
  have e2 := ti_61
  have h1 : n + 1 ≤ 9223372036854775807 := by omega
  have h2 : (n + 1) * 32 ≤ 140737488355328 := by omega
  have h3 : List.take (n * 2) R = R := List.take_of_length_le (Nat.le_of_eq hR)
  simp [appendA, rowAppA, readA, e1, e2, roomA, maxLen, zeroCell, Value.oneCell', Value.cells, h1, h2, h3, hR]
structure CS where
  g : Nat
  m : Nat
  R : List AV
  Y : AV
  c : List AV
  n : Nat
  q : Nat
  TK : List Nat
structure AS where
  j : Nat
  g : Nat
  B : List Bl
  l : List (List AV)
theorem roomB {n j : Nat} (h1 : n ≤ j) (h2 : j ≤ 1000000) : (n + 1) * 40 ≤ 140737488355328 ∧ (n + 1) * 32 ≤ 140737488355328 ∧ n + 1 ≤ 9223372036854775807 ∧ (n + 1 + 1) * 40 ≤ 140737488355328 ∧ (n + 1 + 1) * 32 ≤ 140737488355328 ∧ n + 1 + 1 ≤ 9223372036854775807 := by omega
theorem appB1 {Q : List AV} (hq : Q.length = 5) (objs : List (List AV)) (tk : List Nat) (gl : Nat → Option (List AV)) (rows : List RowSt) : appendA Try.prog 29 (.sl 0 [] 0 .full) (.sl 5 Q 1 .full) ⟨objs, tk, gl, rows⟩ = some (.sl 5 Q 1 (.own tk.length), ⟨objs, tk ++ [1], gl, rows⟩) := by
  have e1 := elemT_29
  have e2 := ti_93
  simp [appendA, readA, e1, e2, roomA, maxLen, Value.cells]
theorem appB2 {Q cs : List AV} {n q : Nat} (hn : n ≤ 1000000) {tk : List Nat} (hk : tk[q]? = some n) (objs : List (List AV)) (gl : Nat → Option (List AV)) (rows : List RowSt) : appendA Try.prog 29 (.sl 5 cs n (.own q)) (.sl 5 Q 1 .full) ⟨objs, tk, gl, rows⟩ = some (.sl 5 (cs ++ Q) (n + 1) (.own q), ⟨objs, tk.set q (n + 1), gl, rows⟩) := by
  have e1 := elemT_29
  have e2 := ti_93
  have h1 : n + 1 ≤ 9223372036854775807 := by omega
  have h2 : (n + 1) * 40 ≤ 140737488355328 := by omega
  simp [appendA, readA, e1, e2, roomA, maxLen, Value.cells, h1, h2, hk]

set_option maxHeartbeats 1600000 in
attribute [local simp] undefA List.getElem?_cons_zero List.getElem?_cons_succ drop_mr in
theorem allB_ok {σ : St} {o k n : Nat} {G : Sg} {T : Tb} (h : HasS σ o k G) (hi : BankS G.s T n) (hn : n ≤ 1000) :
    CallsA Try.prog 29 [.ptr o 0] σ (fun av σ' => av = .sl 2 (balsC (bals T)) (bals T).length .shut ∧ σ = σ') := by
  refine callsA_gcS ?_ (by simp [AV.under, balsC_under])
  have hke := fun r => keys_ok (p := [98]) (t := .full) (HasS.ext h [] σ.toks r) hi.ok (by omega)
  have hkl : keysL G.s.l [98] = (flatB (bals T)).map fun p => key (some p.1) p.2.d := by rw [keysL_filter hi.ok.srt]; show (pl G.s.l [98]).map (·.k) = _; rw [hi.plB, List.map_map]; rfl
  have hLn : (flatB (bals T)).length ≤ 1000 := by
    have e : (pl G.s.l [98]).length = (flatB (bals T)).length := by rw [hi.plB, List.length_map]
    have e2 : (pl G.s.l [98]).length ≤ G.s.l.length := List.length_filter_le _ _
    have := hi.ok.l
    omega
  simp only [hkl, List.length_map, List.append_nil] at hke
  have hol := lt_of_get h.o
  have hgr := grp_bals T
  have hmem := fun p => mem_flatT (T := T) (p := p)
  obtain ⟨L, hL⟩ : ∃ L, L = flatB (bals T) := ⟨_, rfl⟩
  rw [← hL] at hLn hgr
  simp only [← hL] at hke
  simp only [← hL] at hmem
  have hb1 := HasS.ext h
  have hva : ∀ (p : Pc), p ∈ L → ∀ τ, HasS τ o k G → CallsA Try.prog 52 [.ptr o 0, .sl 1 (bytesA (key (some p.1) p.2.d)) (key (some p.1) p.2.d).length .shut] τ (fun av σ' => av = .agg (numA p.2.n.v) ∧ τ = σ') := fun p hp τ hh => by
    have hg := hi.gt (some p.1) p.2.d
    rw [amt_mem (hi.rt _).2 ((hmem p).1 hp)] at hg
    exact read_ok2 hh hi.ok (by omega) hg p.2.n.h
  obtain ⟨K, hK⟩ : ∃ K, K = L.map fun p => key (some p.1) p.2.d := ⟨_, rfl⟩
  have hKl : K.length = L.length := by rw [hK, List.length_map]
  simp only [← hK] at hke
  have hkc := kysC_len K
  rw [hKl] at hkc
  obtain ⟨BT, hBT⟩ : ∃ BT, BT = bals T := ⟨_, rfl⟩
  rw [← hBT] at hgr ⊢
  have hke2 : ∀ r, CallsA Try.prog 56 [.ptr o 0, .sl 1 [.v (.int .u8 98)] 1 .full] { σ with rows := σ.rows ++ r } _ := hke
  have F := And.intro hol (And.intro hkc (And.intro hKl (True.intro)))
  refine callsA_body Try.func29 rfl rfl rfl ?_; refine sr fun _ hJ2 => ?_; refine hJ2 _ _ ?_; refine sr fun _ hJ4 => ?_; refine hJ4 _ _ ?_; refine sq fun K5 hK5 => ?_; refine sq fun K6 hK6 => ?_; refine run_nilrow 3 2 (k := ?_); refine rg' (h := fun J7 hJ7 => ?_); refine ca (c := hke2 _) (k := ?_); rintro _ _ ⟨rfl, rfl⟩; (repeat (first | simp [F] | simp (disch := omega) only [wC, if_pos, if_neg])); refine hJ7 _ _ ?_; refine hK6 _ _ ?_; refine run_block_k ?_; refine run_loopF (X := AS) [0, 2, 10, 11] (fun x ρ σ1 => (x.j ≤ L.length) ∧ (x.B = (L.take x.j).foldl grpS []) ∧ (x.B.length ≤ x.j ∧ ∀ b ∈ x.B, b.l.length ≤ x.j) ∧ (ρ 12 = .v (.int .i64 x.j)) ∧ (ρ 3 = .row σ.rows.length x.g 0 2 x.B.length) ∧ (σ1 = { σ with objs := σ.objs ++ x.l, toks := σ.toks ++ x.B.map (fun b => b.l.length), rows := σ.rows ++ [⟨x.g, rcC σ.toks.length x.B, none⟩] })) (fun x => L.length - x.j) (⟨0, 0, [], []⟩) ?st1 ?rd1
  case st1 =>
   refine ⟨lp, ?_, ?_, lp, lp, ?_⟩
   · rfl
   · exact ⟨Nat.le_refl _, fun b hb => by simp at hb⟩
   · simp [rcC]
  case rd1 =>
   rintro x ρ1 σ1 hF1 ⟨h1, h2, h3, h16, h7, hσ⟩; obtain rfl := hσ.symm
   have f1 := keepL hF1
   (try simp [KeepL, F] at f1); replace F := aF h16 F; replace F := aF h7 F; (try replace F := aF f1 F); refine sr fun _ hJ9 => ?_; refine hJ9 _ _ ?_; refine sq fun K10 hK10 => ?_; refine cs (fun c13 => ?_) (fun c13 => ?_)
   · (try exact nope c13); all_goals have c13p := c13; try simp [F] at c13p
     all_goals
      replace F := aF c13 F; try replace F := aF c13p F
      have hlt : x.j < L.length := by have h := c13; simp at h; omega
      obtain ⟨p, hp⟩ : ∃ p, p = L[x.j] := ⟨_, rfl⟩
      have hpm : p ∈ L := by rw [hp]; exact List.getElem_mem _
      obtain ⟨a, c⟩ := p
      have hrd := hva _ hpm
      simp only at hrd
      obtain ⟨y, hy⟩ : ∃ y, y = key (some a) c.d := ⟨_, rfl⟩
      have hgK : ∀ h : x.j < (kysC K).length, (kysC K)[x.j]'h = .sl 1 (bytesA y) y.length .shut := fun h => by rw [kysC_ix (by omega) h]; simp only [hK, List.getElem_map, hy, ← hp]
      have hyl : y.length = 3 := by rw [hy]; rfl
      have hbl : (bytesA y).length = 3 := by simp [hyl]
      have hy1 : ∀ h2 : 1 < (bytesA y).length, (bytesA y)[1]'h2 = .v (.int .u8 (a.toNat : Nat)) := fun h2 => by subst hy; rfl
      have hy2 : ∀ h2 : 2 < (bytesA y).length, (bytesA y)[2]'h2 = .v (.int .u8 (c.d.toNat : Nat)) := fun h2 => by subst hy; rfl
      rw [← hy] at hrd
      simp only [hyl] at hrd hgK
      have hj1 : x.j + 1 ≤ L.length := hlt
      have hwi : IntKind.i64.wrap ((x.j : Int) + 1) = (x.j : Int) + 1 := wrap_i64 _ (by omega) (by omega)
      have hta : (L.take (x.j + 1)).foldl grpS [] = grpS x.B (a, c) := by rw [← List.take_append_getElem hlt, ← hp, List.foldl_append, ← h2]; rfl
      obtain ⟨NB, hNB⟩ : ∃ NB, NB = grpS x.B (a, c) := ⟨_, rfl⟩
      rw [← hNB] at hta
      have h3n := grpS_len x.B (a, c) x.j h3
      rw [← hNB] at h3n
      have hcc : AV.v (.int .u8 (c.d.toNat : Nat)) :: numA c.n.v = coinC c := rfl
      have hnl : (numA c.n.v).length = 4 := rfl
      have hnt : List.take 4 (numA c.n.v) = numA c.n.v := rfl
      have hnc : (∀ x, x ∈ numA c.n.v → x.isCell = true) = True := eq_true (fun x hx => by simp only [numA, List.mem_cons, List.not_mem_nil, or_false] at hx; rcases hx with rfl | rfl | rfl | rfl <;> rfl)
      obtain ⟨N, hN⟩ : ∃ N, N = numA c.n.v := ⟨_, rfl⟩
      rw [← hN] at hnl hnt hnc hcc
      simp only [← hN] at hrd
      simp only [AV.isCell] at hnc
      have hql : (AV.v (.int .u8 (c.d.toNat : Nat)) :: N).length = 5 := by simp [hnl]
      obtain ⟨r1, r2, r3, r4, r5, r6⟩ := roomB h3.1 (by omega)
      have p1 := appB1 hql
      obtain ⟨R, hR⟩ : ∃ R, R = rcC σ.toks.length x.B := ⟨_, rfl⟩
      obtain ⟨TK, hTK⟩ : ∃ TK, TK = x.B.map (fun b => b.l.length) := ⟨_, rfl⟩
      have hRl : R.length = x.B.length * 2 := by rw [hR, rcC_len]
      have hRt : List.take (x.B.length * 2) R = R := List.take_of_length_le (Nat.le_of_eq hRl)
      have hTl : TK.length = x.B.length := by rw [hTK, List.length_map]
      rw [← hR, ← hTK]
      replace F := aF hlt (And.intro hgK (And.intro hbl (And.intro hy1 (And.intro hy2 (And.intro hj1 (And.intro hwi (And.intro hnl (And.intro hnt (And.intro hnc (And.intro r1 (And.intro r2 (And.intro r3 (And.intro r4 (And.intro r5 (And.intro r6 (And.intro p1 (And.intro hRl (And.intro hRt (And.intro hTl F))))))))))))))))))); refine run_skip ?_; refine hK10 _ _ ?_; refine sq fun K11 hK11 => ?_; refine run_block_k ?_; refine sr fun _ hJ13 => ?_; refine hJ13 _ _ ?_; refine sqc (X := Unit) [0, 2, 3, 5, 10, 11, 12, 13, 14, 15] (fun z ρ σ1 => (ρ 6 = .ptr (σ.objs.length + x.l.length) 0) ∧ (σ1 = { σ with objs := σ.objs ++ (x.l ++ [AV.v (.int .u8 (c.d.toNat : Nat)) :: N]), toks := σ.toks ++ TK, rows := σ.rows ++ [⟨x.g, R, none⟩] })) ?cy14 ?cx14
      case cy14 =>
       rintro z ρCr5 σ1 hFCr5 ⟨h6, hσ⟩; obtain rfl := hσ.symm
       have fCr5 := keepL hFCr5
       (try simp [KeepL, F] at fCr5); replace F := aF h6 F; (try replace F := aF fCr5 F); refine sqc (X := CS) [0, 2, 5, 6, 10, 11, 12, 13, 14, 15, 16, 17, 18, 19, 20, 21, 22] (fun z ρ σ1 => (z.R.length = (z.m + 1) * 2) ∧ (z.R[z.m * 2 + 1]? = some z.Y) ∧ (∀ objs rows, appendA Try.prog 29 z.Y (.sl 5 (AV.v (.int .u8 (c.d.toNat : Nat)) :: N) 1 .full) ⟨objs, σ.toks ++ TK, σ.gl, rows⟩ = some (.sl 5 z.c z.n (.own z.q), ⟨objs, σ.toks ++ z.TK, σ.gl, rows⟩)) ∧ (List.take (z.m * 2 + 1) z.R ++ .sl 5 z.c z.n (.own z.q) :: List.drop (z.m * 2 + 1 + 1) z.R = rcC σ.toks.length NB) ∧ (z.TK = NB.map (fun b => b.l.length)) ∧ (NB.length = z.m + 1) ∧ (ρ 3 = .row σ.rows.length z.g 0 2 (z.m + 1)) ∧ (σ1 = { σ with objs := σ.objs ++ (x.l ++ [AV.v (.int .u8 (c.d.toNat : Nat)) :: N]), toks := σ.toks ++ TK, rows := σ.rows ++ [⟨z.g, z.R, none⟩] })) ?cy15 ?cx15
       case cy15 =>
        rintro z ρCc38 σ1 hFCc38 ⟨k1, k2, k4, k5, k6, k7, k9, hσ⟩; obtain rfl := hσ.symm
        have fCc38 := keepL hFCc38
        (try simp [KeepL, F] at fCc38); replace F := aF k9 F; try replace F := aF fCc38 F
        have hzm : z.m ≤ 1000 := by have := h3n.1; omega
        have w9 : IntKind.i64.wrap (z.m : Int) = (z.m : Int) := wrap_i64 _ (by omega) (by omega)
        have z3 : (0 : Int) ≤ (z.m : Int) + 1 := by omega
        have z4 : (z.m : Int) < (z.m : Int) + 1 := by omega
        have b2 : z.m * 2 + 1 < (z.m + 1) * 2 := by omega
        have b3 : z.m < z.m + 1 := by omega
        have k3 : ∀ h2 : z.m * 2 + 1 < z.R.length, z.R[z.m * 2 + 1]'h2 = z.Y := fun h2 => (List.getElem?_eq_some_iff.1 k2).2
        replace F := aF k1 (And.intro k3 (And.intro k4 (And.intro k5 (And.intro k6 (And.intro k7 (And.intro w9 (And.intro z3 (And.intro z4 (And.intro b2 (And.intro b3 F))))))))))
        all_goals
         refine run_draw (by kernel_rfl) fun J16 hJ16 => ?_
         refine rp2 0 (k := ?_); refine rp2 1 (k := ?_); refine rp2 2 (k := ?_); refine rp2 3 (k := ?_); refine rp2 4 (k := ?_); refine rp2 5 (k := ?_); refine rp2 6 (k := ?_); refine rp2 7 (k := ?_); refine rp2 8 (k := ?_); refine rp2 9 (k := ?_); refine rp2 10 (k := ?_); refine rp2 11 (k := ?_); refine rp2 12 (k := ?_); refine dop 13 rfl ?_; repeat (first | simp [F] | simp (disch := omega) only [wC, if_pos, if_neg])
         refine ⟨by first | exact fun _ _ h => h | (refine later_list [11, 9, 8, 7, 6, 5, 4, 3, 2, 1, 0] (by kernel_rfl) (List.forall_mem_cons.2 ⟨fun _ => fact2 rfl rfl ?_, List.forall_mem_cons.2 ⟨fun _ => fact2 rfl rfl ?_, List.forall_mem_cons.2 ⟨fun _ => fact2 rfl rfl ?_, List.forall_mem_cons.2 ⟨fun _ => fact2 rfl rfl ?_, List.forall_mem_cons.2 ⟨fun _ => fact2 rfl rfl ?_, List.forall_mem_cons.2 ⟨fun _ => fact2 rfl rfl ?_, List.forall_mem_cons.2 ⟨fun _ => fact2 rfl rfl ?_, List.forall_mem_cons.2 ⟨fun _ => fact2 rfl rfl ?_, List.forall_mem_cons.2 ⟨fun _ => fact2 rfl rfl ?_, List.forall_mem_cons.2 ⟨fun _ => fact2 rfl rfl ?_, List.forall_mem_cons.2 ⟨fun _ => fact2 rfl rfl ?_, fun _ h => absurd h List.not_mem_nil⟩⟩⟩⟩⟩⟩⟩⟩⟩⟩⟩) <;> constructor <;> first | rfl | (simp [F]; done)), ?_⟩
         refine rp2 14 (k := ?_); refine rp2 15 (k := ?_); refine dop 16 rfl ?_; repeat (first | simp [F] | simp (disch := omega) only [wC, if_pos, if_neg])
         refine ⟨by first | exact fun _ _ h => h | (refine later_list [14] (by kernel_rfl) (List.forall_mem_cons.2 ⟨fun _ => fact2 rfl rfl ?_, fun _ h => absurd h List.not_mem_nil⟩) <;> constructor <;> first | rfl | (simp [F]; done)), ?_⟩
         refine dd ?_; refine hJ16 _ _ ?_; refine hK11 _ _ ?_; refine rg' (h := fun J17 hJ17 => ?_); refine hJ17 _ _ ?_; refine ⟨(⟨x.j + 1, z.g, NB, x.l ++ [AV.v (.int .u8 (c.d.toNat : Nat)) :: N]⟩), ⟨kp, lp, ?_, ?_, lp, lp, lp⟩, lp⟩
         · exact hta.symm
         · exact h3n
       case cx15 =>
        intro K15 hK15
        refine sr fun _ hJ19 => ?_; refine hJ19 _ _ ?_; refine sq fun K20 hK20 => ?_
        refine run_draw (by kernel_rfl) fun J21 hJ21 => ?_
        refine rp2 0 (k := ?_); refine rp2 1 (k := ?_); refine rp2 2 (k := ?_); refine gd 27 (fun g7_2 => ?_) (fun g7_2 => ?_)
        · (try exact nope g7_2); all_goals have g7_2p := g7_2; try simp [F] at g7_2p
          all_goals
           replace F := aF g7_2 F; try replace F := aF g7_2p F
           have hn0 : x.B.length = 0 := by have h := g7_2; simp at h; rw [h]; rfl
           have hB0 : x.B = [] := List.eq_nil_of_length_eq_zero hn0
           have hR0 : R = [] := by rw [hR, hB0]; rfl
           have hT0 : TK = [] := by rw [hTK, hB0]; rfl
           have hN0 : NB = [⟨a, [c]⟩] := by rw [hNB, hB0]; rfl
           have p0 := fun objs tk => appR (R := R) (g := x.g) (n := 0) (by rw [hR0]; rfl) (by omega) (.v (.int .u8 (a.toNat : Nat))) objs tk σ.gl σ.rows
           simp only [Nat.zero_add] at p0
           replace F := aF p0 F; refine rp2 3 (k := ?_); refine rp2 4 (k := ?_); refine rp2 5 (k := ?_); refine rp2 6 (k := ?_); refine rp2 7 (k := ?_); refine rp2 8 (k := ?_); refine rp2 9 (k := ?_); refine rp2 10 (k := ?_); refine rp2 11 (k := ?_); refine rp2 12 (k := ?_); refine rp2 13 (k := ?_); refine dd ?_; refine hJ21 _ _ ?_; refine hK20 _ _ ?_; refine ct ?_; refine rg' (h := fun J22 hJ22 => ?_); refine hJ22 _ _ ?_; refine hK15 (⟨x.g + 1, 0, R ++ [.v (.int .u8 (a.toNat : Nat)), .sl 0 [] 0 .full], .sl 0 [] 0 .full, AV.v (.int .u8 (c.d.toNat : Nat)) :: N, 1, (σ.toks ++ TK).length, TK ++ [1]⟩) _ _ ⟨kp, ?_, ?_, ?_, ?_, ?_, ?_, lp, lp⟩
           · rw [hR0]
             rfl
           · rw [hR0]
             rfl
           · intro objs rows
             rw [← List.append_assoc]
             exact p1 objs (σ.toks ++ TK) σ.gl rows
           · rw [hR0, hN0, hT0]
             simp [rcC, rcE, coinsC, hcc]
           · rw [hT0, hN0]
             rfl
           · rw [hN0]
             rfl
        (try exact nope g7_2); all_goals have g7_2p := g7_2; try simp [F] at g7_2p
        all_goals
         replace F := aF g7_2 F; try replace F := aF g7_2p F
         have hn0 : x.B.length ≠ 0 := by have h := g7_2; simp at h; intro q; exact h (List.eq_nil_of_length_eq_zero q)
         obtain ⟨C, y, hB⟩ : ∃ C y, x.B = C ++ [y] := by
           rcases List.eq_nil_or_concat x.B with q | ⟨D, y, q⟩
           · exact absurd (by rw [q]; rfl) hn0
           · exact ⟨D, y, by rw [q, List.concat_eq_append]⟩
         obtain ⟨cl, hcl⟩ : ∃ cl, cl = C.length := ⟨_, rfl⟩
         have hn : x.B.length = cl + 1 := by rw [hB, List.length_append, hcl]; rfl
         have hR1 : R = rcC σ.toks.length C ++ [.v (.int .u8 (y.a.toNat : Nat)), .sl 5 (coinsC y.l) y.l.length (.own (σ.toks.length + cl))] := by rw [hR, hB, rcC_snoc, hcl]; rfl
         have hCl : (rcC σ.toks.length C).length = cl * 2 := by rw [rcC_len, hcl]
         have f0 : ∀ h2 : cl * 2 < R.length, R[cl * 2]'h2 = .v (.int .u8 (y.a.toNat : Nat)) := fun h2 => by
           have e : R[cl * 2]? = some (.v (.int .u8 (y.a.toNat : Nat))) := by rw [hR1, List.getElem?_append_right (by omega), hCl, Nat.sub_self]; rfl
           exact (List.getElem?_eq_some_iff.1 e).2
         have e1 : R[cl * 2 + 1]? = some (.sl 5 (coinsC y.l) y.l.length (.own (σ.toks.length + cl))) := by rw [hR1, List.getElem?_append_right (by omega), hCl, Nat.add_sub_cancel_left]; rfl
         rw [hn] at hRl hTl
         have w1 : IntKind.i64.wrap (cl : Int) = (cl : Int) := wrap_i64 _ (by omega) (by omega)
         have z1 : ((cl : Int) + 1 = 0) = False := eq_false (by omega)
         have z2 : (((cl : Int) + 1) == 0) = false := by simp; omega
         have z3 : (0 : Int) ≤ (cl : Int) + 1 := by omega
         have z4 : (cl : Int) < (cl : Int) + 1 := by omega
         have b1 : cl * 2 < (cl + 1) * 2 := by omega
         have b2 : cl < cl + 1 := by omega
         have p0 := fun objs tk => appR (R := R) (g := x.g) (n := cl + 1) hRl (by omega) (.v (.int .u8 (a.toNat : Nat))) objs tk σ.gl σ.rows
         replace F := aF z1 (And.intro z2 (And.intro z3 (And.intro z4 F))); replace F := aF hn (And.intro f0 (And.intro w1 (And.intro b1 (And.intro b2 (And.intro hRl (And.intro p0 F)))))); refine rp2 3 (k := ?_); refine rp2 4 (k := ?_); refine rp2 5 (k := ?_); refine rp2 6 (k := ?_); refine rp2 7 (k := ?_); refine rp2 8 (k := ?_); refine rp2 9 (k := ?_); refine rp2 10 (k := ?_); refine rp2 11 (k := ?_); refine rp2 12 (k := ?_); refine rp2 13 (k := ?_); refine dd ?_; refine hJ21 _ _ ?_; refine hK20 _ _ ?_; refine cs (fun c38 => ?_) (fun c38 => ?_)
         · (try exact nope c38); all_goals have c38p := c38; try simp [F] at c38p
           all_goals
            replace F := aF c38 F; try replace F := aF c38p F
            have hne : y.a ≠ a := by intro q; have h := c38; simp [q] at h
            have hN0 : NB = x.B ++ [⟨a, [c]⟩] := by rw [hNB, hB, grpS_new hne]
            refine rg' (h := fun J23 hJ23 => ?_); refine hJ23 _ _ ?_; refine hK15 (⟨x.g + 1, cl + 1, R ++ [.v (.int .u8 (a.toNat : Nat)), .sl 0 [] 0 .full], .sl 0 [] 0 .full, AV.v (.int .u8 (c.d.toNat : Nat)) :: N, 1, (σ.toks ++ TK).length, TK ++ [1]⟩) _ _ ⟨kp, ?_, ?_, ?_, ?_, ?_, ?_, lp, lp⟩
            · show (R ++ [_, _]).length = _
              rw [List.length_append, hRl]
              simp
              omega
            · show (R ++ [_, _])[(cl + 1) * 2 + 1]? = _
              rw [List.getElem?_append_right (by omega), hRl, Nat.add_sub_cancel_left]
              rfl
            · intro objs rows
              rw [← List.append_assoc]
              exact p1 objs (σ.toks ++ TK) σ.gl rows
            · rw [hN0]
              refine (splice_last hRl).trans ?_
              rw [rcC_snoc, ← hR, hn, List.length_append, hTl]
              simp [rcE, coinsC, hcc]
            · rw [hN0, hTK]
              simp
            · rw [hN0, List.length_append, hn]
              rfl
         (try exact nope c38); all_goals have c38p := c38; try simp [F] at c38p
         all_goals
          replace F := aF c38 F; try replace F := aF c38p F
          have heq : y.a = a := by have h := c38; simp [F] at h; exact UInt8.toNat_inj.1 (by omega)
          have hN0 : NB = C ++ [⟨a, y.l ++ [c]⟩] := by rw [hNB, hB, grpS_same heq]
          have hyl9 : y.l.length ≤ x.j := h3.2 y (by rw [hB]; simp)
          refine run_skip ?_; refine hK15 (⟨x.g, cl, R, .sl 5 (coinsC y.l) y.l.length (.own (σ.toks.length + cl)), coinsC y.l ++ AV.v (.int .u8 (c.d.toNat : Nat)) :: N, y.l.length + 1, σ.toks.length + cl, TK.set cl (y.l.length + 1)⟩) _ _ ⟨kp, ?_, ?_, ?_, ?_, ?_, ?_, lp, lp⟩
          · exact hRl
          · exact e1
          · intro objs rows
            have q3 : TK[cl]? = some y.l.length := by rw [hTK, hB, hcl]; simp
            have := appB2 (Q := AV.v (.int .u8 (c.d.toNat : Nat)) :: N) (cs := coinsC y.l) (n := y.l.length) (q := σ.toks.length + cl) (tk := σ.toks ++ TK) (by omega) (by rw [List.getElem?_append_right (by omega), Nat.add_sub_cancel_left]; exact q3) objs σ.gl rows
            rw [List.set_append_right _ _ (by omega), Nat.add_sub_cancel_left] at this
            exact this
          · have hR2 : R = rcC σ.toks.length C ++ [.v (.int .u8 (a.toNat : Nat)), .sl 5 (coinsC y.l) y.l.length (.own (σ.toks.length + cl))] := by rw [hR1, heq]
            rw [hN0]
            show List.take (cl * 2 + 1) R ++ _ :: List.drop (cl * 2 + 1 + 1) R = _
            rw [hR2]
            refine (splice_last hCl).trans ?_
            rw [rcC_snoc, ← hcl, rcE]
            dsimp only
            rw [hcc, coinsC_snoc]
            simp
          · rw [hN0, hTK, hB, hcl]
            simp
          · rw [hN0, List.length_append, hcl]
            rfl
      case cx14 =>
       intro K14 hK14
       refine run_draw (by kernel_rfl) fun J24 hJ24 => ?_
       refine rp2 0 (k := ?_); refine rp2 1 (k := ?_); refine rp2 2 (k := ?_); refine rp2 3 (k := ?_); refine rp2 4 (k := ?_); refine d2 5 7 ?_ ?_
       · refine ac 5 rfl (c := hrd _ (by first | exact hb1 _ _ _)) (k := ?_)
         rintro _ _ ⟨rfl, rfl⟩
         refine ⟨by first | exact fun _ _ h => h | (refine later_list [2, 1, 0] (by kernel_rfl) (List.forall_mem_cons.2 ⟨fun _ => fact2 rfl rfl ?_, List.forall_mem_cons.2 ⟨fun _ => fact2 rfl rfl ?_, List.forall_mem_cons.2 ⟨fun _ => fact2 rfl rfl ?_, fun _ h => absurd h List.not_mem_nil⟩⟩⟩) <;> constructor <;> first | rfl | (simp [F]; done)), ?_⟩
         (repeat (first | simp [F] | simp (disch := omega) only [wC, if_pos, if_neg])); refine rp2 6 (k := ?_); refine dop 7 rfl ?_; repeat (first | simp [F] | simp (disch := omega) only [wC, if_pos, if_neg])
         refine ⟨by first | exact later_more _ (by kernel_rfl) | exact later_more2 (by kernel_rfl) rfl, ?_⟩
         refine dop 8 rfl ?_; (repeat (first | simp [F] | simp (disch := omega) only [wC, if_pos, if_neg])); refine ⟨ln, ?_⟩; refine dd ?_; refine hJ24 _ _ ?_; refine hK14 (()) _ _ ⟨kp, lp, lp⟩
       · refine ao 7 rfl ?_; repeat (first | simp [F] | simp (disch := omega) only [wC, if_pos, if_neg])
         refine ⟨by first | exact later_more _ (by kernel_rfl) | exact later_more2 (by kernel_rfl) rfl, ?_⟩
         refine dc 5 rfl (c := hrd _ (by first | exact hb1 _ _ _)) (k := ?_)
         rintro _ _ ⟨rfl, rfl⟩
         refine ⟨by first | exact fun _ _ h => h | (refine later_list [2, 1, 0] (by kernel_rfl) (List.forall_mem_cons.2 ⟨fun _ => fact2 rfl rfl ?_, List.forall_mem_cons.2 ⟨fun _ => fact2 rfl rfl ?_, List.forall_mem_cons.2 ⟨fun _ => fact2 rfl rfl ?_, fun _ h => absurd h List.not_mem_nil⟩⟩⟩) <;> constructor <;> first | rfl | (simp [F]; done)), ?_⟩
         (repeat (first | simp [F] | simp (disch := omega) only [wC, if_pos, if_neg])); refine rp2 6 (k := ?_); refine dop 8 rfl ?_; (repeat (first | simp [F] | simp (disch := omega) only [wC, if_pos, if_neg])); refine ⟨ln, ?_⟩; refine dd ?_; refine hJ24 _ _ ?_; refine hK14 (()) _ _ ⟨kp, lp, lp⟩
   (try exact nope c13); all_goals have c13p := c13; try simp [F] at c13p
   all_goals
    replace F := aF c13 F; try replace F := aF c13p F
    have hje : L.take x.j = L := List.take_of_length_le (by have h := c13; simp at h; omega)
    rw [hje, hgr] at h2
    have hrl := rcC_len x.B σ.toks.length
    replace F := aF hrl F
    have hwk := Wk.cells (sz := 2) (n := x.B.length) (t := .shut) (rcC_wk x.B σ.toks.length)
    have h2l := congrArg List.length h2
    refine run_exit ?_; refine hK5 _ _ ?_; refine sq fun K25 hK25 => ?_; refine run_fz 3 2 (k := ?_); refine rg' (h := fun J26 hJ26 => ?_); refine hJ26 _ _ ?_; refine hK25 _ _ ?_; refine ra ?_
    rw [← h2]
    exact gcr (hA := by simp only [putA_get]; simp [F]; exact hwk)

end Go.Proofs.Ytmponlabfccjaaa

/-
  BankBalances.
-/
namespace Go.Proofs.Ytmponlabfccjaaa
set_option linter.unnecessarySimpa false
set_option maxRecDepth 100000
open Go Go.Vm
set_option linter.unusedSimpArgs false
set_option linter.unusedVariables false
attribute [local simp] evalL wantedA isCall opA evalA evalAll evalsA evalOpt ofValue ofCell plain binA_eql_pn binA_neq_pn binA_gtr binA_lss binA_geq binA_leq binA_add binA_sub binA_eql binA_neq binA_orI binA_shl binA_shr binA_mul binA_quo binA_rem binA_agg_eql binA_agg_neq convA_int unA_not fieldAddrA loadA partA pickA_true pickA_false pickA_bb lenA builtinA storeA splice AV.cells AV.isCell sliceA boundA intA callOf indexAddrA newObjA buildA fillA zeroA ofCells buildSliceA indexA fieldA set_appN get_appN take_appN List.getElem?_cons_zero List.getElem?_cons_succ get_sa0 get_sa1 get_sa2 get_sa3 set_sa0 set_sa1 set_sa2 set_sa3 sliceRowA binA_eqn binA_neqn drop_mr
section
variable {z : Zone} {P : Program} {N : Nat} {ρ : Nat → AV}

theorem bals_tb0 : bals tb0 = [] := by
  have h : ∀ b, ¬ b ∈ bals tb0 := fun b hb => (mem_bals.1 hb).2 (mem_bals.1 hb).1
  exact List.eq_nil_iff_forall_not_mem.2 h
theorem run_newB {c : Code} {Q : Exit → (Nat → AV) → St → Prop} (σ : St) (k : Run z P N c ρ (Sp σ newSg [bC tb0]) Q) :
    Run z P N c ρ { Sp σ newSg [] with objs := (Sp σ newSg []).objs ++ [bX (.sl 0 [] 0 .full) (.sl 0 [] 0 .full)] } Q := by
  have h0 : WkS { σ with objs := (σ.objs ++ [stC σ.rows.length newSg, []]).set (σ.objs.length + 1) (bX (.sl 0 [] 0 .full) (.sl 0 [] 0 .full)), rows := σ.rows ++ [stR1 newSg, stR2 newSg, stR3 newSg] }
      { σ with objs := (σ.objs ++ [stC σ.rows.length newSg, []]).set (σ.objs.length + 1) (bC tb0), rows := σ.rows ++ [stR1 newSg, stR2 newSg, stR3 newSg] } :=
    WkS.set (σ := { σ with rows := σ.rows ++ [stR1 newSg, stR2 newSg, stR3 newSg] }) (by rw [bC, bals_tb0]; exact bX_wk (Wk.nil _ _ _) (Wk.nil _ _ _))
  simp only [List.set_append_right _ _ (Nat.le_add_right _ _), Nat.add_sub_cancel_left, List.set_cons_succ, List.set_cons_zero] at h0
  have e : ∀ a b : St, a = b → Run z P N c ρ b Q → Run z P N c ρ a Q := fun a b h k => h ▸ k
  refine e _ _ ?_ (run_wkS h0 k); simp [Sp]
end
theorem Sp.sb (σ : St) (G : Sg) (T : Tb) : (Sp σ G [bC T]).objs[σ.objs.length + 1]? = some (bC T) := by simp [Sp]
theorem does9 {σ : St} {n : Nat} {G : Sg} {T : Tb} {x : AB} (hi : BkI G.s T n) (hn : n ≤ 900) (hx : x.Ok) :
    CallsA Try.prog 17 [.ptr σ.objs.length 0, .ptr (σ.objs.length + 1) 0, .agg (abC x)] (Sp σ G [bC T]) (fun av σ' => ∃ G' T', BkI G'.s T' (n + 16) ∧ av = .v (.bool true) ∧ σ' = Sp σ G' [bC T']) :=
  callsA_mono (does09_ok (Sp.has σ G [bC T]) (Sp.sb σ G T) (by omega) hi hn hx) (fun av σ' ⟨G', T', e1, e2, e3⟩ => ⟨G', T', e1, e2, by rw [e3, Sp.put]; simp [Sp, putBk]⟩)
structure FB where
  i : Nat
  G : Sg
  T : Tb

end Go.Proofs.Ytmponlabfccjaaa

/-
  Plans: what they are, when they are right.
-/
namespace Go.Vm
open Go

structure Per where
  l : Nat
  c : List Coin
deriving DecidableEq

structure Pln where
  k : UInt8
  s : Nat
  e : Nat
  tot : List Coin
  ps : List Per
deriving DecidableEq

def perC (p : Per) : List AV := [.v (.int .u64 p.l), .sl 5 (coinsC p.c) p.c.length .shut]
def persC (l : List Per) : List AV := l.flatMap perC
@[simp] theorem persC_nil : persC [] = [] := rfl
@[simp] theorem persC_len (l : List Per) : (persC l).length = l.length * 2 := flat_length perC 2 (fun _ => rfl) l
def Pln.Ok (p : Pln) : Prop := p.s < 2 ^ 64 ∧ p.e < 2 ^ 64 ∧ p.tot.length ≤ 9223372036854775807 ∧ p.ps.length ≤ 9223372036854775807 ∧ ∀ x ∈ p.ps, x.l < 2 ^ 64 ∧ x.c.length ≤ 9223372036854775807

structure PerQ where
  i : Nat
  e : Nat
  a : List Coin

section
variable {P : Program} {z : Zone} {N : Nat} {σ : St} {ρ : Nat → AV}
theorem run_nilsh {c : Code} {Q : Exit → (Nat → AV) → St → Prop} (d sz : Nat) {s : Nat} (h : ρ d = .sl s [] 0 .full := by first | rfl | (simp [F]; done))
    (k : Run z P N c (putA ρ (some d) (.sl sz [] 0 .shut)) σ Q) : Run z P N c ρ σ Q := run_wk (fun i => by
  rw [putA_get]; split
  · rename_i e; subst e; rw [h]; exact Wk.nil _ _ _
  · exact Wk.refl _) k
end

def lenS : List Per → Nat
  | [] => 0
  | x :: l => x.l + lenS l
def sumL : List Per → List Coin → List Coin
  | [], a => a
  | x :: l, a => sumL l (cAddL a x.c)
end Go.Vm

/-
  Plans that are made of numbers: they are right.
-/
namespace Go.Vm
set_option linter.unnecessarySimpa false
set_option linter.unusedSimpArgs false
set_option linter.unusedVariables false
open Go

structure Pc where
  l : Nat
  c : List Coin
structure Mad where
  k : UInt8
  s : Nat
  n : Nat
  c : List Coin
  ps : List Pc
def Mad.Ok (m : Mad) : Prop := m.s < 2 ^ 32 ∧ m.n < 2 ^ 16 ∧ ∀ x ∈ m.ps, x.l < 2 ^ 16
def pcC (x : Pc) : List AV := [.v (.int .u16 x.l), .sl 5 (coinsC x.c) x.c.length .shut]
def pcsC (l : List Pc) : List AV := l.flatMap pcC
@[simp] theorem pcsC_nil : pcsC [] = [] := rfl
@[simp] theorem pcsC_len (l : List Pc) : (pcsC l).length = l.length * 2 := flat_length pcC 2 (fun _ => rfl) l
def PerOk (x : Per) : Prop := 0 < x.l ∧ x.l ≤ 2 ^ 16 ∧ x.c ≠ [] ∧ Right x.c ∧ ∀ d, d < 8 → amt x.c d < 2 ^ 250
structure Fine (p : Pln) : Prop where
  ok : p.Ok
  tot : Right p.tot
  kinds : p.k = 0 ∨ p.k = 1 ∨ p.k = 2 ∨ p.k = 3 ∨ p.k = 4 ∨ p.k = 5
  zero : p.k = 0 → p = ⟨0, 0, 0, [], []⟩
  even : p.k = 1 → p.s < p.e
  late : p.k = 2 → p.s = 0
  small : p.s + lenS p.ps ≤ 2 ^ 40
  pers : ∀ x ∈ p.ps, PerOk x
  steps : p.k = 3 ∨ p.k = 5 → p.e = p.s + lenS p.ps ∧ p.tot = sumL p.ps [] ∧ p.ps ≠ [] ∧ p.ps.length ≤ 16
end Go.Vm

/-
  Messages: what they are, what a kind has, when they are right.
-/
namespace Go.Vm
set_option linter.unnecessarySimpa false
set_option linter.unusedSimpArgs false
open Go

structure Out where
  t : UInt8
  c : List Coin
deriving DecidableEq
structure Msg where
  k : UInt8
  f : UInt8
  s : Nat
  fee : List Coin
  t : UInt8
  v : UInt8
  o : UInt8
  n : Num
  c : List Coin
  outs : List Out
  p : Pln
  tm : Nat
  pt : Nat
  j : Bool
deriving DecidableEq

def outC (x : Out) : List AV := [.v (.int .u8 x.t.toNat), .sl 5 (coinsC x.c) x.c.length .shut]
def outsC (l : List Out) : List AV := l.flatMap outC
@[simp] theorem outsC_nil : outsC [] = [] := rfl
@[simp] theorem outsC_len (l : List Out) : (outsC l).length = l.length * 2 := flat_length outC 2 (fun _ => rfl) l
structure Msg.Ok (m : Msg) : Prop where
  s : m.s < 2 ^ 64
  fee : m.fee.length ≤ 9223372036854775807
  c : m.c.length ≤ 9223372036854775807
  outs : m.outs.length ≤ 9223372036854775807
  out : ∀ x ∈ m.outs, x.c.length ≤ 9223372036854775807
  p : m.p.Ok
  tm : m.tm < 2 ^ 64
  pt : m.pt < 2 ^ 16

def outA (b : Bool) (l : List Out) : AV := bif b then .sl 2 (outsC l) l.length .shut else .sl 0 [] 0 .full
@[simp] theorem outA_yes (l : List Out) : outA true l = .sl 2 (outsC l) l.length .shut := rfl
@[simp] theorem outA_no (l : List Out) : outA false l = .sl 0 [] 0 .full := rfl
def perA (b : Bool) (l : List Per) : AV := bif b then .sl 2 (persC l) l.length .shut else .sl 0 [] 0 .full
@[simp] theorem perA_yes (l : List Per) : perA true l = .sl 2 (persC l) l.length .shut := rfl
@[simp] theorem perA_no (l : List Per) : perA false l = .sl 0 [] 0 .full := rfl

end Go.Vm

/-
  Arguments: numbers, lists of coins, plans.
-/
namespace Go.Vm
set_option linter.unnecessarySimpa false
set_option linter.unusedVariables false
open Go

theorem leavesF_mono {go go' : TypeId → Option (List TypeId)} (h : ∀ t l, go t = some l → go' t = some l) : ∀ (fs : List Field) (acc ls : List TypeId), leavesF go fs acc = some ls → leavesF go' fs acc = some ls
  | [], acc, ls, e => e
  | f :: fs, acc, ls, e => by
    simp only [leavesF] at e ⊢
    split at e
    · rename_i hf
      rw [if_pos hf]
      cases hg : go f.type with
      | none => rw [hg] at e; cases e
      | some l =>
        rw [hg] at e
        rw [h _ _ hg]
        exact leavesF_mono h fs _ ls e
    · cases e

theorem leaves_succ {P : Program} : ∀ (n : Nat) (t : TypeId) (l : List TypeId), leaves P n t = some l → leaves P (n + 1) t = some l
  | 0, t, l, h => by simp [leaves] at h
  | n + 1, t, l, h => by
    have ih := leaves_succ (P := P) n
    rw [leaves] at h ⊢
    split at h
    · exact h
    · exact h
    · exact h
    · rename_i e hu
      cases hg : leaves P n e with
      | none => rw [hg] at h; cases h
      | some l' => rw [hg] at h; simp only [ih _ _ hg]; exact h
    · rename_i fs hu
      cases hg : leavesF (leaves P n) fs.toList [] with
      | none => rw [hg] at h; cases h
      | some l' => rw [hg] at h; simp only [leavesF_mono ih _ _ _ hg]; exact h
    · rename_i k e hu
      cases hg : leaves P n e with
      | none => rw [hg] at h; cases h
      | some l' => rw [hg] at h; simp only [ih _ _ hg]; exact h
    · cases h

theorem leaves_add {P : Program} {n : Nat} {t : TypeId} {l : List TypeId} (h : leaves P n t = some l) : ∀ k, leaves P (n + k) t = some l
  | 0 => h
  | k + 1 => leaves_succ _ _ _ (leaves_add h k)
theorem leaves_one {P : Program} {n m : Nat} {t : TypeId} {l l' : List TypeId} (h : leaves P n t = some l) (h' : leaves P m t = some l') : l = l' := by
  have h1 := leaves_add h m
  have h2 := leaves_add h' n
  rw [Nat.add_comm] at h2
  rw [h1] at h2
  exact Option.some.inj h2

theorem join4' {a b c d : Nat} (ha : a < 2 ^ 64) (hb : b < 2 ^ 64) (hc : c < 2 ^ 64) (hd : d < 2 ^ 64) : ∃ x, x < 2 ^ 256 ∧ limb x 0 = a ∧ limb x 1 = b ∧ limb x 2 = c ∧ limb x 3 = d := by
  refine ⟨a + 2 ^ 64 * (b + 2 ^ 64 * (c + 2 ^ 64 * d)), ?_, ?_, ?_, ?_, ?_⟩ <;> (try simp only [limb, Nat.reduceMul, Nat.reducePow]) <;> omega

theorem u64_of' {P : Program} {u : TypeId} {a : AV} (hu : P.underlying u = some (.int .u64)) (w : WC P u a) : ∃ n : Nat, n < 2 ^ 64 ∧ a = .v (.int .u64 n) := by
  cases w with
  | bool h => rw [hu] at h; cases h
  | string h _ => rw [hu] at h; cases h
  | slice h _ _ _ _ => rw [hu] at h; cases h
  | int h hw =>
    rename_i k n
    rw [hu] at h
    cases h
    have m1 : IntKind.u64.min = 0 := rfl
    have m2 : IntKind.u64.max = 18446744073709551615 := rfl
    simp [Lit.wf, m1, m2] at hw
    exact ⟨n.toNat, by omega, by congr 2; omega⟩
theorem u8_of {P : Program} {u : TypeId} {a : AV} (hu : P.underlying u = some (.int .u8)) (w : WC P u a) : ∃ b : UInt8, a = .v (.int .u8 b.toNat) := by
  cases w with
  | bool h => rw [hu] at h; cases h
  | string h _ => rw [hu] at h; cases h
  | slice h _ _ _ _ => rw [hu] at h; cases h
  | int h hw =>
    rename_i k n
    rw [hu] at h
    cases h
    have m1 : IntKind.u8.min = 0 := rfl
    have m2 : IntKind.u8.max = 255 := rfl
    simp [Lit.wf, m1, m2] at hw
    refine ⟨UInt8.ofNat n.toNat, ?_⟩
    have e : (UInt8.ofNat n.toNat).toNat = n.toNat := toNat_u8 (by omega)
    rw [e]
    congr 2; omega

theorem num_of {P : Program} {u : TypeId} {a b c d : AV} (hu : P.underlying u = some (.int .u64)) (ha : WC P u a) (hb : WC P u b) (hc : WC P u c) (hd : WC P u d) : ∃ x : Num, [a, b, c, d] = numA x.v := by
  obtain ⟨na, ga, rfl⟩ := u64_of' hu ha
  obtain ⟨nb, gb, rfl⟩ := u64_of' hu hb
  obtain ⟨nc, gc, rfl⟩ := u64_of' hu hc
  obtain ⟨nd, gd, rfl⟩ := u64_of' hu hd
  obtain ⟨x, hx, x0, x1, x2, x3⟩ := join4' ga gb gc gd
  exact ⟨⟨x, hx⟩, by simp [numA, x0, x1, x2, x3]⟩

theorem groups {P : Program} {α : Type} {f : α → List AV} {ls : List TypeId} (hl : 0 < ls.length) (hf : ∀ a, (f a).length = ls.length)
    (one : ∀ cs : List AV, cs.length = ls.length → (∀ (j : Nat) a u, cs[j]? = some a → ls[j]? = some u → WC P u a) → ∃ x, cs = f x) :
    ∀ (n : Nat) (cs : List AV), cs.length = n * ls.length → (∀ (j : Nat) a u, cs[j]? = some a → ls[j % ls.length]? = some u → WC P u a) → ∃ l : List α, l.length = n ∧ cs = l.flatMap f
  | 0, cs, h, _ => ⟨[], rfl, by simpa using h⟩
  | n + 1, cs, h, hc => by
    have hle : ls.length ≤ cs.length := by rw [h, Nat.add_mul]; omega
    obtain ⟨x, hx⟩ := one (cs.take ls.length) (by simp; omega) (fun j a u ha hu => by
      have hj : j < ls.length := (List.getElem?_eq_some_iff.1 hu).1
      rw [List.getElem?_take, if_pos hj] at ha
      exact hc j a u ha (by rw [Nat.mod_eq_of_lt hj]; exact hu))
    obtain ⟨l, hln, hl2⟩ := groups hl hf one n (cs.drop ls.length) (by rw [List.length_drop, h, Nat.add_mul]; omega) (fun j a u ha hu => by
      rw [List.getElem?_drop] at ha
      exact hc (ls.length + j) a u ha (by rw [Nat.add_mod_left]; exact hu))
    exact ⟨x :: l, by simp [hln], by rw [List.flatMap_cons, ← hx, ← hl2, List.take_append_drop]⟩

theorem coins_of {P : Program} {t e tb u : TypeId} {k : Nat} {a : AV} (ht : P.underlying t = some (.slice e)) (hle : leaves P k e = some [tb, u, u, u, u]) (hb : P.underlying tb = some (.int .u8)) (hu : P.underlying u = some (.int .u64)) (w : WC P t a) : ∃ L : List Coin, a = .sl 5 (coinsC L) L.length .shut := by
  cases w with
  | bool h => rw [ht] at h; cases h
  | string h _ => rw [ht] at h; cases h
  | int h _ => rw [ht] at h; cases h
  | slice h hls hl hn hc =>
    rw [ht] at h
    cases h
    rename_i fuel ls cs n
    obtain rfl := leaves_one hle hls
    obtain ⟨L, hL, rfl⟩ := groups (f := coinC) (ls := [tb, u, u, u, u]) (by simp) (fun _ => rfl) (fun cs h1 h2 => by
      obtain ⟨a0, a1, a2, a3, a4, rfl⟩ : ∃ a0 a1 a2 a3 a4, cs = [a0, a1, a2, a3, a4] := by
        match cs, h1 with
        | [a0, a1, a2, a3, a4], _ => exact ⟨a0, a1, a2, a3, a4, rfl⟩
      obtain ⟨b, hb⟩ := u8_of hb (h2 0 a0 tb rfl rfl)
      obtain ⟨x, hx⟩ := num_of hu (h2 1 a1 u rfl rfl) (h2 2 a2 u rfl rfl) (h2 3 a3 u rfl rfl) (h2 4 a4 u rfl rfl)
      exact ⟨⟨b, x⟩, by rw [hb, hx]; rfl⟩) n cs hl hc
    exact ⟨L, by rw [← hL]; rfl⟩

theorem wc_len {P : Program} {t : TypeId} {sz n : Nat} {cs : List AV} {tl : Tail} (w : WC P t (.sl sz cs n tl)) : n ≤ 9223372036854775807 := by
  generalize hx : AV.sl sz cs n tl = x at w
  cases w with
  | bool h => cases hx
  | string h _ => cases hx
  | int h _ => cases hx
  | slice h hls hl hn hc => cases hx; exact hn

end Go.Vm
