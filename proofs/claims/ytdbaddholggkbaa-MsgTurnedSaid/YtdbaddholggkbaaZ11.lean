import Derived.Test.YtdbaddholggkbaaZ10
import Derived.Laws.Externs
/-
  Calls of functions that have no body here.
-/
namespace Go.Vm
set_option linter.unnecessarySimpa false
set_option linter.unusedSimpArgs false
set_option linter.unusedVariables false
open Go

def ExtA (P : Program) (f : FuncId) (args : List AV) (σ : St) (Q : AV → St → Prop) : Prop :=
  ∀ G w (vs : Array Value), RelS G w σ → vs.size = args.length → (∀ (j : Nat) x b, vs[j]? = some x → args[j]? = some b → AVR G w x b) →
    ∃ v av, (callFunc f vs).run P w = .ok (.value v) w ∧ AVR G w v av ∧ Q av σ

section
variable {z : Zone} {P : Program} {N : Nat} {ρ : Nat → AV} {σ : St} {ops : Array Oper} {rest : List Oper} {o : Oper} {K : (Nat → AV) → St → Prop}

theorem run_ext {f : FuncId} {args : List AV} {Qc : AV → St → Prop} {G : Gh} {w : World} {a : Act} (hR : Rel N G w ρ σ a) (ho : callOf ρ σ o.op = some (f, args)) (c : ExtA P f args σ Qc) :
    ∃ v av, (execOp a.eval o).run P w = .ok (.value v) w ∧ AVR G w v av ∧ Qc av σ := by
  unfold callOf at ho
  split at ho
  · rename_i c' hop
    split at ho
    · rename_i x hx
      split at ho
      · rename_i f' caps args' hf ha
        cases ho
        have hfv := evalA_sound hR.s hR.env hf
        obtain ⟨hl, hr⟩ := forall2_get (evalAll_sound hR.s hR.env ha)
        cases hev : a.eval x with
        | func fn first caps' =>
          rw [hev] at hfv
          cases hfv with
          | fn hcl hcr =>
          obtain ⟨v, av, h1, h2, h3⟩ := c G w (c'.args.map a.eval ++ caps') hR.s (by simpa [hcl] using hl) (fun j y b hj hb => by
            by_cases h1 : j < c'.args.size
            · rw [Array.getElem?_append_left (by simpa using h1)] at hj
              rw [List.getElem?_append_left (by simp at hl; omega)] at hb
              refine hr j y b ?_ hb
              have : (c'.args.map a.eval).toList[j]? = some y := by simpa using hj
              simpa using this
            · rw [Array.getElem?_append_right (by simpa using h1)] at hj
              rw [List.getElem?_append_right (by simp at hl; omega)] at hb
              simp only [Array.size_map] at hj
              have e : c'.args.size = args'.length := by simpa using hl
              rw [e] at hj
              exact hcr _ y b hj hb)
          refine ⟨v, av, ?_, h2, h3⟩
          unfold execOp
          rw [hop]
          simp only [resolve, hx, hev, Deferred.ofValue, Sem.run_bind, Sem.run_pure, Result.andThen_ok, invoke]
          rw [Array.empty_append] at *
          exact h1
        | _ => rw [hev] at hfv; cases hfv
      · cases ho
    · cases ho
  · cases ho

theorem de {S D : List Nat} {ρ0 : Nat → AV} (i : Nat) {o : Oper} {f : FuncId} {args : List AV} {Qc : AV → St → Prop} (ho : ops[i]? = some o)
    (hw : wantedA ops o ρ = some true := by first | rfl | (simp [F]; done)) (hv : callOf ρ σ o.op = some (f, args) := by first | rfl | (simp [F]; done)) (c : ExtA P f args σ Qc)
    (k : ∀ av σ', Qc av σ' → σ' = σ → RunD z P N ops (i :: S) (later D o) ρ0 (putA ρ o.dst av) σ' K)
    (hb : (acyclic ops && (ops.toList.all fun o => inN N o.dst) && ready ops S i && ((List.range ops.size).all fun j => j == i || !ready ops S j) && (match o.dst with | some x => fresh ops (later D o) x | none => true) && covers ops D o) = true := by kernel_rfl) : RunD z P N ops S D ρ0 ρ σ K := by
  simp only [Bool.and_eq_true] at hb
  obtain ⟨⟨⟨⟨⟨h1, h2⟩, h3⟩, h4⟩, h5⟩, h6⟩ := hb
  refine runD_core i (K := fun a s => Qc a s ∧ s = σ) h1 h2 h3 ho h4 h5 h6 (fun ρr hag G w a R R' hR hK => ?_) (fun a s ⟨e1, e2⟩ => ⟨fun _ _ h => e2 ▸ h, k a s e1 e2⟩)
  have hv' : callOf ρr σ o.op = some (f, args) := by rw [callOf_congr (fun t ht => hag t (looksAt_op ht))]; exact hv
  obtain ⟨v, av, g1, g2, g3⟩ := run_ext hR hv' c
  have hop : ∃ c', o.op = .call c' := by
    unfold callOf at hv'
    split at hv'
    · exact ⟨_, by assumption⟩
    · cases hv'
  obtain ⟨c', hop⟩ := hop
  unfold wpOpIn
  simp only [ho]
  rw [if_pos (wantedA_sound hR ((wantedA_congr hag).trans hw))]
  refine ⟨fun _ _ => trivial, ?_⟩
  rw [show Oper.semAt z.F.round a.eval o = execOp a.eval o from Oper.semAt_eq _ _ _ (fun c e => by rw [hop] at e; cases e)]
  rw [g1]
  exact hK av σ G w v ⟨g3, rfl⟩ (.refl _ _) hR.s g2
end

theorem args3 {G : Gh} {w : World} {vs : Array Value} {x y z : Value} (hl : vs.size = 3) (h : ∀ (j : Nat) v b, vs[j]? = some v → ([.v x, .v y, .v z] : List AV)[j]? = some b → AVR G w v b) : vs = #[x, y, z] := by
  apply Array.ext
  · simpa using hl
  · intro i h1 h2
    have h3 : i = 0 ∨ i = 1 ∨ i = 2 := by simp at h2; omega
    rcases h3 with rfl | rfl | rfl
    · exact (h 0 _ _ (Array.getElem?_eq_getElem h1) rfl).v_eq
    · exact (h 1 _ _ (Array.getElem?_eq_getElem h1) rfl).v_eq
    · exact (h 2 _ _ (Array.getElem?_eq_getElem h1) rfl).v_eq

theorem add64_ext {P : Program} {σ : St} {f : FuncId} {fn : Func} {x y c : Nat} (hf : P.funcs[f]? = some fn) (hname : (fn.name == "runtime.NumGoroutine") = false) (hb : fn.body.isNone = true) (hn : Extern.findNext fn = none) (he : Extern.find fn = some add64Entry) (hc : c ≤ 1) :
    ExtA P f [.v (.int .u64 x), .v (.int .u64 y), .v (.int .u64 c)] σ (fun av _ => ∃ s c' : Nat, s = (x + y + c) % 18446744073709551616 ∧ c' = (x + y + c) / 18446744073709551616 ∧ av = .tup [.v (.int .u64 s), .v (.int .u64 c')]) := by
  intro G w vs hS hl hr
  rw [args3 hl hr]
  refine ⟨.tuple #[.int .u64 (((x + y + c) % 18446744073709551616 : Nat) : Int), .int .u64 (((x + y + c) / 18446744073709551616 : Nat) : Int)], _, ?_, ?_, _, _, rfl, rfl, rfl⟩
  · rw [run_callFunc_extern hf hname hb hn he, run_add64 x y c (by omega) (by omega) (by omega) (by omega)]
    simp only [Result.andThen]
    congr 5 <;> omega
  · refine .tup rfl (fun j a b ha hb => ?_)
    match j with
    | 0 => simp only [List.getElem?_cons_zero, Option.some.injEq] at hb; subst hb; simp only [List.getElem?_toArray, List.getElem?_cons_zero, Option.some.injEq] at ha; subst ha; exact .v rfl
    | 1 => simp only [List.getElem?_cons_succ, List.getElem?_cons_zero, Option.some.injEq] at hb; subst hb; simp only [List.getElem?_toArray, List.getElem?_cons_succ, List.getElem?_cons_zero, Option.some.injEq] at ha; subst ha; exact .v rfl
    | j + 2 => simp at ha

def amt : List Coin → Nat → Nat
  | [], _ => 0
  | c :: l, d => if c.d.toNat = d then c.n.v else amt l d

theorem amt_lt : ∀ (l : List Coin) (d : Nat), amt l d < 2 ^ 256
  | [], _ => Nat.two_pow_pos 256
  | c :: l, d => by
    unfold amt; split
    · exact c.n.h
    · exact amt_lt l d

def Num.of (x : Nat) : Num := ⟨x % 2 ^ 256, Nat.mod_lt _ (by decide)⟩
@[simp] theorem Num.of_v {x : Nat} (h : x < 2 ^ 256) : (Num.of x).v = x := Nat.mod_eq_of_lt h
def lstF (f : Nat → Nat) : Nat → List Coin
  | 0 => []
  | d + 1 => lstF f d ++ (if f d = 0 then [] else [⟨UInt8.ofNat d, Num.of (f d)⟩])

theorem lstF_len (f : Nat → Nat) : ∀ d, (lstF f d).length ≤ d
  | 0 => by simp [lstF]
  | d + 1 => by
    have := lstF_len f d
    simp only [lstF, List.length_append]
    split <;> simp <;> omega
theorem lstF_congr {f g : Nat → Nat} : ∀ {d : Nat}, (∀ i, i < d → f i = g i) → lstF f d = lstF g d
  | 0, _ => rfl
  | d + 1, h => by
    simp only [lstF, h d (by omega)]
    rw [lstF_congr (fun i hi => h i (by omega))]
theorem toNat_u8 {d : Nat} (h : d < 256) : (UInt8.ofNat d).toNat = d := by simp; omega

theorem lstF_mem {f : Nat → Nat} : ∀ {d : Nat} {c : Coin}, d ≤ 256 → c ∈ lstF f d → c.d.toNat < d ∧ f c.d.toNat ≠ 0 ∧ c.n = Num.of (f c.d.toNat)
  | 0, c, _, h => by simp [lstF] at h
  | d + 1, c, hd, h => by
    simp only [lstF, List.mem_append] at h
    rcases h with h | h
    · obtain ⟨h1, h2⟩ := lstF_mem (by omega) h
      exact ⟨by omega, h2⟩
    · split at h
      · simp at h
      · simp at h; subst h
        rename_i h0
        have e : (UInt8.ofNat d).toNat = d := toNat_u8 (by omega)
        simp only [e]
        refine ⟨by omega, h0, by first | rfl | trivial⟩

theorem right_lstF {f : Nat → Nat} (hf : ∀ d, d < 8 → f d < 2 ^ 256) : ∀ d, d ≤ 8 → Right (lstF f d)
  | 0, _ => by simp [lstF, Right]
  | d + 1, h => by
    have ih := right_lstF hf d (by omega)
    simp only [lstF]
    split
    · simpa using ih
    · rename_i h0
      rw [right_snoc]
      have e : (UInt8.ofNat d).toNat = d := toNat_u8 (by omega)
      refine ⟨ih, ⟨by simp only [e]; omega, by rw [Num.of_v (hf d (by omega))]; exact h0⟩, fun b hb => ?_⟩
      have := (lstF_mem (by omega) hb).1
      simp only [e]; exact this

theorem amt_append (l m : List Coin) (d : Nat) : amt (l ++ m) d = if (∃ c ∈ l, c.d.toNat = d) then amt l d else amt m d := by
  induction l with
  | nil => simp
  | cons c l ih =>
    simp only [List.cons_append, amt]
    by_cases h : c.d.toNat = d
    · simp [h]
    · simp [h, ih]

theorem amt_none {l : List Coin} {d : Nat} (h : ∀ c ∈ l, c.d.toNat ≠ d) : amt l d = 0 := by
  induction l with
  | nil => rfl
  | cons c l ih =>
    unfold amt
    rw [if_neg (h c (by simp)), ih (fun c hc => h c (by simp [hc]))]

theorem amt_mem {l : List Coin} (hl : l.Pairwise (fun a b => a.d.toNat < b.d.toNat)) {c : Coin} (h : c ∈ l) : amt l c.d.toNat = c.n.v := by
  induction l with
  | nil => simp at h
  | cons b l ih =>
    unfold amt
    rw [List.pairwise_cons] at hl
    rcases List.mem_cons.1 h with rfl | h
    · simp
    · have := hl.1 c h
      rw [if_neg (by omega), ih hl.2 h]

theorem amt_lstF {f : Nat → Nat} (hf : ∀ d, d < 8 → f d < 2 ^ 256) {n d : Nat} (hn : n ≤ 8) (hd : d < n) : amt (lstF f n) d = f d := by
  have hR := right_lstF hf n hn
  by_cases h0 : f d = 0
  · rw [h0]
    apply amt_none
    intro c hc e
    have := (lstF_mem (by omega) hc).2.1
    rw [e] at this; exact this h0
  · have hm : ∀ n, d < n → (⟨UInt8.ofNat d, Num.of (f d)⟩ : Coin) ∈ lstF f n := by
      intro n
      induction n with
      | zero => intro h; omega
      | succ n ih =>
        intro h
        simp only [lstF, List.mem_append]
        by_cases e : d = n
        · subst e; right; simp [h0]
        · left; exact ih (by omega)
    have := amt_mem hR.2 (hm n hd)
    have e : (UInt8.ofNat d).toNat = d := toNat_u8 (by omega)
    simp only [e] at this
    rw [this, Num.of_v (hf d (by omega))]

theorem right_ext {l m : List Coin} (hl : Right l) (hm : Right m) (h : ∀ d, d < 8 → amt l d = amt m d) : l = m := by
  have key : ∀ (l m : List Coin), Right l → Right m → (∀ d, d < 8 → amt l d = amt m d) → ∀ c ∈ l, c ∈ m := by
    intro l m hl hm h c hc
    have h1 := h c.d.toNat (hl.1 c hc).1
    rw [amt_mem hl.2 hc] at h1
    by_cases hx : ∃ b ∈ m, b.d.toNat = c.d.toNat
    · obtain ⟨b, hb, e⟩ := hx
      rw [← e, amt_mem hm.2 hb] at h1
      have : b = c := Coin.ext (UInt8.toNat_inj.1 e) (Num.ext h1.symm)
      rwa [← this]
    · rw [amt_none (fun b hb e => hx ⟨b, hb, e⟩)] at h1
      exact absurd h1 (hl.1 c hc).2
  have nd : ∀ {l : List Coin}, Right l → l.Pairwise (fun a b => a ≠ b) := fun hl => hl.2.imp (fun h e => by subst e; omega)
  have hp : l.Perm m := (List.perm_ext_iff_of_nodup (nd hl) (nd hm)).2 (fun c => ⟨key l m hl hm h c, key m l hm hl (fun d hd => (h d hd).symm) c⟩)
  exact hp.eq_of_pairwise (le := fun a b => a.d.toNat < b.d.toNat) (fun a b _ _ h1 h2 => by omega) hl.2 hm.2

theorem lstF_amt {l : List Coin} (h : Right l) : lstF (amt l) 8 = l :=
  right_ext (right_lstF (fun d _ => amt_lt l d) 8 (by omega)) h (fun d hd => amt_lstF (fun d _ => amt_lt l d) (by omega) hd)

def posB (d : Nat) : Bool := decide (0 < d)
@[simp] theorem posB_zero : posB 0 = false := rfl
@[simp] theorem posB_succ (d : Nat) : posB (d + 1) = true := by simp [posB]
theorem posB_no {d : Nat} (h : posB d = false) : d = 0 := by simpa [posB] using h
def oneL (d : UInt8) (n : Num) : List Coin := if d.toNat < 8 ∧ n.v ≠ 0 then [⟨d, n⟩] else []
theorem lstF_one {f : Nat → Nat} {D : UInt8} (h : D.toNat < 8) (hf : f D.toNat < 2 ^ 256) : lstF f (D.toNat + 1) = lstF f D.toNat ++ oneL D (Num.of (f D.toNat)) := by
  simp only [lstF, oneL, Num.of_v hf]
  congr 1
  by_cases h0 : f D.toNat = 0
  · simp [h0]
  · rw [if_neg h0, if_pos ⟨h, h0⟩]
    have : UInt8.ofNat D.toNat = D := by simp
    rw [this]

def grA (k sz : Nat) (b : Bool) (cs : List AV) (n : Nat) : AV := bif b then .sl sz cs n (.own k) else .sl 0 [] 0 .full
def grT (b : Bool) (n : Nat) : List Nat := bif b then [n] else []
@[simp] theorem grA_no (k sz : Nat) (cs : List AV) (n : Nat) : grA k sz false cs n = .sl 0 [] 0 .full := rfl
@[simp] theorem grA_yes (k sz : Nat) (cs : List AV) (n : Nat) : grA k sz true cs n = .sl sz cs n (.own k) := rfl
@[simp] theorem grT_no (n : Nat) : grT false n = [] := rfl
@[simp] theorem grT_yes (n : Nat) : grT true n = [n] := rfl
theorem wk_grA {k sz : Nat} {b : Bool} {cs : List AV} {n : Nat} (h : b = false → cs = [] ∧ n = 0) : Wk (grA k sz b cs n) (.sl sz cs n .shut) := by
  cases b with
  | false => obtain ⟨rfl, rfl⟩ := h rfl; exact Wk.nil _ _ _
  | true => exact Wk.shut _ _ _ _
theorem append_gr {P : Program} {t e : TypeId} {i : TI} {b : Bool} {cs ys : List AV} {n m sz' : Nat} {tl : Tail} {objs : List (List AV)} {tk : List Nat} {gl : Nat → Option (List AV)} {rows : List RowSt}
    (ht : elemT P t = some e) (hi : ti P e = some i) (h0 : 0 < i.size) (hz : i.zero.cells.size = i.size) (hb : b = false → cs = [] ∧ n = 0) (hs : sz' = i.size ∨ m = 0) (hr : (n + m) * i.bytes ≤ roomA) (hm : n + m ≤ maxLen) :
    appendA P t (grA tk.length i.size b cs n) (.sl sz' ys m tl) ⟨objs, tk ++ grT b n, gl, rows⟩ = some (grA tk.length i.size true (cs ++ ys) (n + m), ⟨objs, tk ++ grT true (n + m), gl, rows⟩) := by
  cases b with
  | false =>
    obtain ⟨rfl, rfl⟩ := hb rfl
    simp [grA, grT, appendA, readA, ht, hi, h0, hz, hs] at hr hm ⊢
    exact ⟨hr, hm⟩
  | true =>
    simp [grA, grT, appendA, readA, ht, hi, h0, hz, hs, hr, hm]

def purA (P : List Nat) : List AV := P.flatMap numA
theorem purA_len (P : List Nat) : (purA P).length = P.length * 4 := flat_length numA 4 (fun _ => rfl) P
theorem purA_at {P : List Nat} {d : Nat} (h : d < P.length) : (purA P).drop (d * 4) = numA P[d] ++ restC numA P d := flat_at numA 4 (fun _ => rfl) P d h
theorem purA_set {P : List Nat} {d : Nat} (h : d < P.length) (n : Nat) : (purA P).take (d * 4) ++ (numA n ++ (purA P).drop (d * 4 + 4)) = purA (P.set d n) := by
  have := flat_set numA 4 (fun _ => rfl) P d h n
  unfold splice at this
  rw [List.append_assoc] at this
  exact this
theorem purA_under (B : Bd) : ∀ P : List Nat, underL B (purA P) = true := underL_flat (fun _ => rfl)
theorem purA_noObj (n : Nat) : ∀ P : List Nat, noObjL n (purA P) = true := noObjL_flat (fun _ => rfl)
theorem purA_isCell (P : List Nat) : (purA P).all AV.isCell = true := by
  induction P with
  | nil => rfl
  | cons x P ih => simp only [purA, List.flatMap_cons, List.all_append, Bool.and_eq_true] at ih ⊢; exact ⟨rfl, ih⟩
def purF (f : Nat → Nat) : List Nat := (List.range 8).map f
@[simp] theorem purF_len (f : Nat → Nat) : (purF f).length = 8 := by simp [purF]
theorem purF_get {f : Nat → Nat} {d : Nat} (h : d < 8) : (purF f)[d]'(by simpa using h) = f d := by simp [purF]
theorem purF_congr {f g : Nat → Nat} (h : ∀ d, d < 8 → f d = g d) : purF f = purF g := List.map_congr_left (fun d hd => h d (by simpa using hd))
theorem purF_set {f : Nat → Nat} {d n : Nat} : (purF f).set d n = purF (fun j => if j = d then n else f j) := by
  apply List.ext_getElem
  · simp
  · intro i h1 h2
    rw [List.getElem_set]
    simp [purF]
    split
    · rename_i h; simp [h]
    · rename_i h; rw [if_neg (fun e => h e.symm)]
theorem purA_zero : purA (purF fun _ => 0) = [.v (.int .u64 0), .v (.int .u64 0), .v (.int .u64 0), .v (.int .u64 0), .v (.int .u64 0), .v (.int .u64 0), .v (.int .u64 0), .v (.int .u64 0), .v (.int .u64 0), .v (.int .u64 0), .v (.int .u64 0), .v (.int .u64 0), .v (.int .u64 0), .v (.int .u64 0), .v (.int .u64 0), .v (.int .u64 0), .v (.int .u64 0), .v (.int .u64 0), .v (.int .u64 0), .v (.int .u64 0), .v (.int .u64 0), .v (.int .u64 0), .v (.int .u64 0), .v (.int .u64 0), .v (.int .u64 0), .v (.int .u64 0), .v (.int .u64 0), .v (.int .u64 0), .v (.int .u64 0), .v (.int .u64 0), .v (.int .u64 0), .v (.int .u64 0)] := rfl

theorem amt_snoc {l : List Coin} {c : Coin} (h : Right (l ++ [c])) (d : Nat) : amt (l ++ [c]) d = if d = c.d.toNat then c.n.v else amt l d := by
  rw [amt_append]
  have h3 := (right_snoc.1 h).2.2
  by_cases hd : d = c.d.toNat
  · subst hd
    rw [if_pos rfl, if_neg]
    · simp [amt]
    · rintro ⟨b, hb, e⟩
      have := h3 b hb; omega
  · rw [if_neg hd]
    split
    · rfl
    · rename_i hn
      have h0 : amt l d = 0 := amt_none (fun c hc e => hn ⟨c, hc, e⟩)
      rw [h0]
      simp [amt]
      intro e; exact absurd e.symm hd

def neB : List Coin → Bool
  | [] => false
  | _ :: _ => true
@[simp] theorem neB_nil : neB [] = false := rfl
@[simp] theorem neB_snoc (l : List Coin) (c : Coin) : neB (l ++ [c]) = true := by cases l <;> rfl
theorem neB_no {l : List Coin} (h : neB l = false) : l = [] := by cases l <;> simp [neB] at h ⊢

def eachE (F : Nat → Nat → Nat × Nat) (a b : List Coin) : Nat → Nat
  | 0 => 0
  | d + 1 => if eachE F a b d ≠ 0 then eachE F a b d else (F (amt a d) (amt b d)).2
def eachL (F : Nat → Nat → Nat × Nat) (a b : List Coin) : List Coin := if eachE F a b 8 = 0 then lstF (fun d => (F (amt a d) (amt b d)).1) 8 else []
theorem eachE_stop {F : Nat → Nat → Nat × Nat} {a b : List Coin} {d : Nat} (h : eachE F a b d ≠ 0) : ∀ k, eachE F a b (d + k) = eachE F a b d
  | 0 => rfl
  | k + 1 => by
    have := eachE_stop h k
    rw [← Nat.add_assoc]
    show (if eachE F a b (d + k) ≠ 0 then eachE F a b (d + k) else _) = _
    rw [this, if_pos h]
theorem eachE_iff {F : Nat → Nat → Nat × Nat} {a b : List Coin} : ∀ n, eachE F a b n = 0 ↔ ∀ d, d < n → (F (amt a d) (amt b d)).2 = 0
  | 0 => by simp [eachE]
  | n + 1 => by
    have ih := eachE_iff (F := F) (a := a) (b := b) n
    constructor
    · intro h d hd
      unfold eachE at h
      split at h
      · contradiction
      · rename_i h0
        by_cases e : d = n
        · subst e; exact h
        · exact ih.1 (by simpa using h0) d (by omega)
    · intro h
      unfold eachE
      rw [if_neg (by simpa using ih.2 (fun d hd => h d (by omega)))]
      exact h n (by omega)
def addN (x y : Nat) : Nat := if x + y < 2 ^ 256 then x + y else 0
def addE (x y : Nat) : Nat := if x + y < 2 ^ 256 then 0 else 2
theorem addN_lt (x y : Nat) : addN x y < 2 ^ 256 := by unfold addN; split <;> first | assumption | decide
def cAddE (a b : List Coin) : Nat := eachE (fun x y => (addN x y, addE x y)) a b 8
def cAddL (a b : List Coin) : List Coin := eachL (fun x y => (addN x y, addE x y)) a b
theorem cAddE_zero {a b : List Coin} : cAddE a b = 0 ↔ ∀ d, d < 8 → amt a d + amt b d < 2 ^ 256 := by
  unfold cAddE
  rw [eachE_iff]
  constructor
  · intro h d hd
    have := h d hd
    simp only [addE] at this
    split at this
    · assumption
    · omega
  · intro h d hd
    simp only [addE, if_pos (h d hd)]
theorem cAddL_yes {a b : List Coin} (h : cAddE a b = 0) : cAddL a b = lstF (fun d => amt a d + amt b d) 8 := by
  have h' : eachE (fun x y => (addN x y, addE x y)) a b 8 = 0 := h
  unfold cAddL eachL
  rw [if_pos h']
  exact lstF_congr (fun d hd => by simp only [addN, if_pos (cAddE_zero.1 h d hd)])
theorem cAddL_no {a b : List Coin} (h : ¬ cAddE a b = 0) : cAddL a b = [] := by
  have h' : ¬ eachE (fun x y => (addN x y, addE x y)) a b 8 = 0 := h
  unfold cAddL eachL; rw [if_neg h']
theorem right_cAdd (a b : List Coin) : Right (cAddL a b) := by
  by_cases h : cAddE a b = 0
  · rw [cAddL_yes h]; exact right_lstF (cAddE_zero.1 h) 8 (by omega)
  · rw [cAddL_no h]; exact right_nil
theorem right_len {l : List Coin} (h : Right l) : l.length ≤ 8 := by
  rw [← lstF_amt h]; exact lstF_len _ _
end Go.Vm
