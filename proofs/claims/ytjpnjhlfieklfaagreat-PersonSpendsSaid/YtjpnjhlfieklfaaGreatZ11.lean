import Derived.Test.YtjpnjhlfieklfaaGreatZ10
import Derived.Laws.Externs
set_option linter.unnecessarySimpa false
set_option linter.unusedSimpArgs false
set_option linter.unusedVariables false
namespace Go.Vm
open Go
def z6 (P : Program) (f : FuncId) (args : List AV) (σ : St) (Q : AV → St → Prop) : Prop :=
 ∀ G w (vs : Array Value), dD G w σ → vs.size = args.length → (∀ (j : Nat) x b, vs[j]? = some x → args[j]? = some b → AVR G w x b) →
  ∃ v av, (callFunc f vs).run P w = .ok (.value v) w ∧ AVR G w v av ∧ Q av σ
section
variable {z : kV} {P : Program} {N : Nat} {ρ : Nat → AV} {σ : St} {ops : Array Oper} {rest : List Oper} {o : Oper} {K : (Nat → AV) → St → Prop}
theorem Fm {f : FuncId} {args : List AV} {Qc : AV → St → Prop} {G : Gh} {w : World} {a : Act} (hR : Rel N G w ρ σ a) (ho : bF ρ σ o.op = some (f, args)) (c : z6 P f args σ Qc) :
  ∃ v av, (execOp a.eval o).run P w = .ok (.value v) w ∧ AVR G w v av ∧ Qc av σ := by
 unfold bF at ho
 split at ho
 · rename_i c' hop
   split at ho
   · rename_i x hx
     split at ho
     · rename_i f' caps args' hf ha
       cases ho
       have hfv := iC hR.s hR.env hf
       obtain ⟨hl, hr⟩ := jR (iX hR.s hR.env ha)
       cases hev : a.eval x with
       | func fn first caps' =>
         rw [hev] at hfv
         cases hfv with
         | fn hcl hcr =>
         obtain ⟨v, av, h1, h2, h3⟩ := c G w (c'.args.map a.eval ++ caps') hR.s (by simpa [hcl] using hl) (fun j y b hj hb => by
          by_cases h1 : j < c'.args.size
          · rw [Array.getElem?_append_left (by simpa using h1)] at hj
            rw [List.getElem?_append_left (by simp at hl; omega)] at hb
            refine hr j y b ?_ hb
            have : (c'.args.map a.eval).toList[j]? = some y := by simpa using hj
            simpa using this
          · rw [Array.getElem?_append_right (by simpa using h1)] at hj
            rw [List.getElem?_append_right (by simp at hl; omega)] at hb
            simp only [Array.size_map] at hj
            have e : c'.args.size = args'.length := by simpa using hl
            rw [e] at hj
            exact hcr _ y b hj hb)
         refine ⟨v, av, ?_, h2, h3⟩
         unfold execOp
         rw [hop]
         simp only [resolve, hx, hev, Deferred.ofValue, Sem.run_bind, Sem.run_pure, Result.andThen_ok, invoke]
         rw [Array.empty_append] at *
         exact h1
       | _ => rw [hev] at hfv; cases hfv
     · cases ho
   · cases ho
 · cases ho
theorem ce {f : FuncId} {args : List AV} {Qc : AV → St → Prop} (hw : aI ops o ρ = some true := by first | rfl | (simp [F, aI]; done))
  (ho : bF ρ σ o.op = some (f, args) := by first | rfl | (simp [F, bF]; done)) (c : z6 P f args σ Qc) (k : ∀ av σ', Qc av σ' → σ' = σ → dM z P N ops rest (eF ρ o.dst av) σ' K) (hN : ((o :: rest).all fun o => inN N o.dst) = true := by rfl) : kI z P N ops (o :: rest) ρ σ K := by
 intro G w a R hR hK
 simp only [List.all_cons, Bool.and_eq_true] at hN
 obtain ⟨v, av, h1, h2, h3⟩ := Fm hR ho c
 have ho' : ∃ c', o.op = .call c' := by
  unfold bF at ho
  split at ho
  · exact ⟨_, by assumption⟩
  · cases ho
 obtain ⟨c', hop⟩ := ho'
 unfold wpListIn
 rw [if_pos (eJ hR hw)]
 refine ⟨fun _ _ => trivial, ?_⟩
 rw [show Oper.semAt z.F.round a.eval o = execOp a.eval o from Oper.semAt_eq _ _ _ (fun c e => by rw [hop] at e; cases e)]
 rw [h1]
 exact lL hN.2 (k av σ h3 rfl) G w (a.put o.dst v) R (hR.put (.refl _ _) hR.s hN.1 h2) hK
theorem de {S D : List Nat} {ρ0 : Nat → AV} (i : Nat) {o : Oper} {f : FuncId} {args : List AV} {Qc : AV → St → Prop} (ho : ops[i]? = some o)
  (hw : aI ops o ρ = some true := by first | rfl | (simp [F]; done)) (hv : bF ρ σ o.op = some (f, args) := by first | rfl | (simp [F]; done)) (c : z6 P f args σ Qc)
  (k : ∀ av σ', Qc av σ' → σ' = σ → iJ z P N ops (i :: S) (later D o) ρ0 (eF ρ o.dst av) σ' K)
  (hb : (acyclic ops && (ops.toList.all fun o => inN N o.dst) && ready ops S i && ((List.range ops.size).all fun j => j == i || !ready ops S j) && (match o.dst with | some x => fresh ops (later D o) x | none => true) && jE ops D o) = true := by kernel_rfl) : iJ z P N ops S D ρ0 ρ σ K := by
 simp only [Bool.and_eq_true] at hb
 obtain ⟨⟨⟨⟨⟨h1, h2⟩, h3⟩, h4⟩, h5⟩, h6⟩ := hb
 refine oY i (K := fun a s => Qc a s ∧ s = σ) h1 h2 h3 ho h4 h5 h6 (fun ρr hag G w a R R' hR hK => ?_) (fun a s ⟨e1, e2⟩ => ⟨fun _ _ h => e2 ▸ h, k a s e1 e2⟩)
 have hv' : bF ρr σ o.op = some (f, args) := by rw [pI (fun t ht => hag t (jG ht))]; exact hv
 obtain ⟨v, av, g1, g2, g3⟩ := Fm hR hv' c
 have hop : ∃ c', o.op = .call c' := by
  unfold bF at hv'
  split at hv'
  · exact ⟨_, by assumption⟩
  · cases hv'
 obtain ⟨c', hop⟩ := hop
 unfold wpOpIn
 simp only [ho]
 rw [if_pos (eJ hR ((fZ hag).trans hw))]
 refine ⟨fun _ _ => trivial, ?_⟩
 rw [show Oper.semAt z.F.round a.eval o = execOp a.eval o from Oper.semAt_eq _ _ _ (fun c e => by rw [hop] at e; cases e)]
 rw [g1]
 exact hK av σ G w v ⟨g3, rfl⟩ (.refl _ _) hR.s g2
end
def KW : Array Value → Sem Value := fun args => do
 let (x, y, b) ← Extern.MathBitsCarry.three "Sub64" args
 pure (Extern.MathBitsCarry.pair ((x + Extern.MathBitsCarry.m64 - y - b) % Extern.MathBitsCarry.m64) (if x < y + b then 1 else 0))
theorem KO {G : Gh} {w : World} {vs : Array Value} {x y z : Value} (hl : vs.size = 3) (h : ∀ (j : Nat) v b, vs[j]? = some v → ([.v x, .v y, .v z] : List AV)[j]? = some b → AVR G w v b) : vs = #[x, y, z] := by
 apply Array.ext
 · simpa using hl
 · intro i h1 h2
   have h3 : i = 0 ∨ i = 1 ∨ i = 2 := by simp at h2; omega
   rcases h3 with rfl | rfl | rfl
   · exact (h 0 _ _ (Array.getElem?_eq_getElem h1) rfl).mH
   · exact (h 1 _ _ (Array.getElem?_eq_getElem h1) rfl).mH
   · exact (h 2 _ _ (Array.getElem?_eq_getElem h1) rfl).mH
theorem F7 {P : Program} {σ : St} {f : FuncId} {fn : Func} {x y c : Nat} (hf : P.funcs[f]? = some fn) (hname : (fn.name == "runtime.NumGoroutine") = false) (hb : fn.body.isNone = true) (hn : Extern.findNext fn = none) (he : Extern.find fn = some add64Entry) (hc : c ≤ 1) :
  z6 P f [.v (.int .u64 x), .v (.int .u64 y), .v (.int .u64 c)] σ (fun av _ => ∃ s c' : Nat, s = (x + y + c) % 18446744073709551616 ∧ c' = (x + y + c) / 18446744073709551616 ∧ av = .tup [.v (.int .u64 s), .v (.int .u64 c')]) := by
 intro G w vs hS hl hr
 rw [KO hl hr]
 refine ⟨.tuple #[.int .u64 (((x + y + c) % 18446744073709551616 : Nat) : Int), .int .u64 (((x + y + c) / 18446744073709551616 : Nat) : Int)], _, ?_, ?_, _, _, rfl, rfl, rfl⟩
 · rw [run_callFunc_extern hf hname hb hn he, run_add64 x y c (by omega) (by omega) (by omega) (by omega)]
   simp only [Result.andThen]
   congr 5 <;> omega
 · refine .tup rfl (fun j a b ha hb => ?_)
   match j with
   | 0 => simp only [List.getElem?_cons_zero, Option.some.injEq] at hb; subst hb; simp only [List.getElem?_toArray, List.getElem?_cons_zero, Option.some.injEq] at ha; subst ha; exact .v rfl
   | 1 => simp only [List.getElem?_cons_succ, List.getElem?_cons_zero, Option.some.injEq] at hb; subst hb; simp only [List.getElem?_toArray, List.getElem?_cons_succ, List.getElem?_cons_zero, Option.some.injEq] at ha; subst ha; exact .v rfl
   | j + 2 => simp at ha
theorem FB {P : Program} {σ : St} {f : FuncId} {fn : Func} {x y c : Nat} (hf : P.funcs[f]? = some fn) (hname : (fn.name == "runtime.NumGoroutine") = false) (hb : fn.body.isNone = true) (hn : Extern.findNext fn = none) (he : Extern.find fn = some KW) (hc : c ≤ 1) :
  z6 P f [.v (.int .u64 x), .v (.int .u64 y), .v (.int .u64 c)] σ (fun av _ => ∃ s c' : Nat, s = (x + 18446744073709551616 - y - c) % 18446744073709551616 ∧ c' = (if x < y + c then 1 else 0) ∧ av = .tup [.v (.int .u64 s), .v (.int .u64 c')]) := by
 intro G w vs hS hl hr
 rw [KO hl hr]
 refine ⟨.tuple #[.int .u64 (((x + 18446744073709551616 - y - c) % 18446744073709551616 : Nat) : Int), .int .u64 ((if x < y + c then 1 else 0 : Nat) : Int)], _, ?_, ?_, _, _, rfl, rfl, rfl⟩
 · rw [run_callFunc_extern hf hname hb hn he]
   have : c = 0 ∨ c = 1 := by omega
   rcases this with rfl | rfl <;> rfl
 · refine .tup rfl (fun j a b ha hb => ?_)
   match j with
   | 0 => simp only [List.getElem?_cons_zero, Option.some.injEq] at hb; subst hb; simp only [List.getElem?_toArray, List.getElem?_cons_zero, Option.some.injEq] at ha; subst ha; exact .v rfl
   | 1 => simp only [List.getElem?_cons_succ, List.getElem?_cons_zero, Option.some.injEq] at hb; subst hb; simp only [List.getElem?_toArray, List.getElem?_cons_succ, List.getElem?_cons_zero, Option.some.injEq] at ha; subst ha; exact .v rfl
   | j + 2 => simp at ha
def amt : List bD → Nat → Nat
 | [], _ => 0
 | c :: l, d => if c.d.toNat = d then c.n.v else amt l d
theorem gD : ∀ (l : List bD) (d : Nat), amt l d < 2 ^ 256
 | [], _ => Nat.two_pow_pos 256
 | c :: l, d => by
   unfold amt; split
   · exact c.n.h
   · exact gD l d
def Num.of (x : Nat) : Num := ⟨x % 2 ^ 256, Nat.mod_lt _ (by decide)⟩
@[simp] theorem Num.qA {x : Nat} (h : x < 2 ^ 256) : (Num.of x).v = x := Nat.mod_eq_of_lt h
def fR (f : Nat → Nat) : Nat → List bD
 | 0 => []
 | d + 1 => fR f d ++ (if f d = 0 then [] else [⟨UInt8.ofNat d, Num.of (f d)⟩])
theorem tT (f : Nat → Nat) : ∀ d, (fR f d).length ≤ d
 | 0 => by simp [fR]
 | d + 1 => by
   have := tT f d
   simp only [fR, List.length_append]
   split <;> simp <;> omega
theorem iI {f g : Nat → Nat} : ∀ {d : Nat}, (∀ i, i < d → f i = g i) → fR f d = fR g d
 | 0, _ => rfl
 | d + 1, h => by
   simp only [fR, h d (by omega)]
   rw [iI (fun i hi => h i (by omega))]
theorem mW {d : Nat} (h : d < 256) : (UInt8.ofNat d).toNat = d := by simp; omega
theorem xQ {f : Nat → Nat} : ∀ {d : Nat} {c : bD}, d ≤ 256 → c ∈ fR f d → c.d.toNat < d ∧ f c.d.toNat ≠ 0 ∧ c.n = Num.of (f c.d.toNat)
 | 0, c, _, h => by simp [fR] at h
 | d + 1, c, hd, h => by
   simp only [fR, List.mem_append] at h
   rcases h with h | h
   · obtain ⟨h1, h2⟩ := xQ (by omega) h
     exact ⟨by omega, h2⟩
   · split at h
     · simp at h
     · simp at h; subst h
       rename_i h0
       have e : (UInt8.ofNat d).toNat = d := mW (by omega)
       simp only [e]
       refine ⟨by omega, h0, by first | rfl | trivial⟩
theorem iG {f : Nat → Nat} (hf : ∀ d, d < 8 → f d < 2 ^ 256) : ∀ d, d ≤ 8 → bA (fR f d)
 | 0, _ => by simp [fR, bA]
 | d + 1, h => by
   have ih := iG hf d (by omega)
   simp only [fR]
   split
   · simpa using ih
   · rename_i h0
     rw [gX]
     have e : (UInt8.ofNat d).toNat = d := mW (by omega)
     refine ⟨ih, ⟨by simp only [e]; omega, by rw [Num.qA (hf d (by omega))]; exact h0⟩, fun b hb => ?_⟩
     have := (xQ (by omega) hb).1
     simp only [e]; exact this
theorem yB (l m : List bD) (d : Nat) : amt (l ++ m) d = if (∃ c ∈ l, c.d.toNat = d) then amt l d else amt m d := by
 induction l with
 | nil => simp
 | cons c l ih =>
   simp only [List.cons_append, amt]
   by_cases h : c.d.toNat = d
   · simp [h]
   · simp [h, ih]
theorem l8 {l : List bD} {d : Nat} (h : ∀ c ∈ l, c.d.toNat ≠ d) : amt l d = 0 := by
 induction l with
 | nil => rfl
 | cons c l ih =>
   unfold amt
   rw [if_neg (h c (by simp)), ih (fun c hc => h c (by simp [hc]))]
theorem rK {l : List bD} (hl : l.Pairwise (fun a b => a.d.toNat < b.d.toNat)) {c : bD} (h : c ∈ l) : amt l c.d.toNat = c.n.v := by
 induction l with
 | nil => simp at h
 | cons b l ih =>
   unfold amt
   rw [List.pairwise_cons] at hl
   rcases List.mem_cons.1 h with rfl | h
   · simp
   · have := hl.1 c h
     rw [if_neg (by omega), ih hl.2 h]
theorem qB {f : Nat → Nat} (hf : ∀ d, d < 8 → f d < 2 ^ 256) {n d : Nat} (hn : n ≤ 8) (hd : d < n) : amt (fR f n) d = f d := by
 have hR := iG hf n hn
 by_cases h0 : f d = 0
 · rw [h0]
   apply l8
   intro c hc e
   have := (xQ (by omega) hc).2.1
   rw [e] at this; exact this h0
 · have hm : ∀ n, d < n → (⟨UInt8.ofNat d, Num.of (f d)⟩ : bD) ∈ fR f n := by
    intro n
    induction n with
    | zero => intro h; omega
    | succ n ih =>
      intro h
      simp only [fR, List.mem_append]
      by_cases e : d = n
      · subst e; right; simp [h0]
      · left; exact ih (by omega)
   have := rK hR.2 (hm n hd)
   have e : (UInt8.ofNat d).toNat = d := mW (by omega)
   simp only [e] at this
   rw [this, Num.qA (hf d (by omega))]
theorem AP {l m : List bD} (hl : bA l) (hm : bA m) (h : ∀ d, d < 8 → amt l d = amt m d) : l = m := by
 have key : ∀ (l m : List bD), bA l → bA m → (∀ d, d < 8 → amt l d = amt m d) → ∀ c ∈ l, c ∈ m := by
  intro l m hl hm h c hc
  have h1 := h c.d.toNat (hl.1 c hc).1
  rw [rK hl.2 hc] at h1
  by_cases hx : ∃ b ∈ m, b.d.toNat = c.d.toNat
  · obtain ⟨b, hb, e⟩ := hx
    rw [← e, rK hm.2 hb] at h1
    have : b = c := bD.ext (UInt8.toNat_inj.1 e) (Num.ext h1.symm)
    rwa [← this]
  · rw [l8 (fun b hb e => hx ⟨b, hb, e⟩)] at h1
    exact absurd h1 (hl.1 c hc).2
 have nd : ∀ {l : List bD}, bA l → l.Pairwise (fun a b => a ≠ b) := fun hl => hl.2.imp (fun h e => by subst e; omega)
 have hp : l.Perm m := (List.perm_ext_iff_of_nodup (nd hl) (nd hm)).2 (fun c => ⟨key l m hl hm h c, key m l hm hl (fun d hd => (h d hd).symm) c⟩)
 exact hp.eq_of_pairwise (le := fun a b => a.d.toNat < b.d.toNat) (fun a b _ _ h1 h2 => by omega) hl.2 hm.2
theorem oG {l : List bD} (h : bA l) : fR (amt l) 8 = l :=
 AP (iG (fun d _ => gD l d) 8 (by omega)) h (fun d hd => qB (fun d _ => gD l d) (by omega) hd)
def iS (d : Nat) : Bool := decide (0 < d)
@[simp] theorem Me : iS 0 = false := rfl
@[simp] theorem Mg (d : Nat) : iS (d + 1) = true := by simp [iS]
theorem kH {d : Nat} (h : iS d = false) : d = 0 := by simpa [iS] using h
def j4 (d : UInt8) (n : Num) : List bD := if d.toNat < 8 ∧ n.v ≠ 0 then [⟨d, n⟩] else []
theorem IQ {f : Nat → Nat} {D : UInt8} (h : D.toNat < 8) (hf : f D.toNat < 2 ^ 256) : fR f (D.toNat + 1) = fR f D.toNat ++ j4 D (Num.of (f D.toNat)) := by
 simp only [fR, j4, Num.qA hf]
 congr 1
 by_cases h0 : f D.toNat = 0
 · simp [h0]
 · rw [if_neg h0, if_pos ⟨h, h0⟩]
   have : UInt8.ofNat D.toNat = D := by simp
   rw [this]
def grA (k sz : Nat) (b : Bool) (cs : List AV) (n : Nat) : AV := bif b then .sl sz cs n (.own k) else .sl 0 [] 0 .full
def grT (b : Bool) (n : Nat) : List Nat := bif b then [n] else []
@[simp] theorem Nw (k sz : Nat) (cs : List AV) (n : Nat) : grA k sz false cs n = .sl 0 [] 0 .full := rfl
@[simp] theorem Nd (k sz : Nat) (cs : List AV) (n : Nat) : grA k sz true cs n = .sl sz cs n (.own k) := rfl
@[simp] theorem Nv (n : Nat) : grT false n = [] := rfl
@[simp] theorem Nk (n : Nat) : grT true n = [n] := rfl
theorem rJ {k sz : Nat} {b : Bool} {cs : List AV} {n : Nat} (h : b = false → cs = [] ∧ n = 0) : Wk (grA k sz b cs n) (.sl sz cs n .shut) := by
 cases b with
 | false => obtain ⟨rfl, rfl⟩ := h rfl; exact Wk.nil _ _ _
 | true => exact Wk.shut _ _ _ _
theorem kM {P : Program} {t e : TypeId} {i : TI} {b : Bool} {cs ys : List AV} {n m sz' : Nat} {tl : eO} {objs : List (List AV)} {tk : List Nat} {gl : Nat → Option (List AV)} {rows : List fY}
  (ht : gE P t = some e) (hi : ti P e = some i) (h0 : 0 < i.size) (hz : i.zero.cells.size = i.size) (hb : b = false → cs = [] ∧ n = 0) (hs : sz' = i.size ∨ m = 0) (hr : (n + m) * i.bytes ≤ gH) (hm : n + m ≤ maxLen) :
  dG P t (grA tk.length i.size b cs n) (.sl sz' ys m tl) ⟨objs, tk ++ grT b n, gl, rows⟩ = some (grA tk.length i.size true (cs ++ ys) (n + m), ⟨objs, tk ++ grT true (n + m), gl, rows⟩) := by
 cases b with
 | false =>
   obtain ⟨rfl, rfl⟩ := hb rfl
   simp [grA, grT, dG, j7, ht, hi, h0, hz, hs] at hr hm ⊢
   exact ⟨hr, hm⟩
 | true =>
   simp [grA, grT, dG, j7, ht, hi, h0, hz, hs, hr, hm]
def iV (P : List Nat) : List AV := P.flatMap aM
theorem Dz (P : List Nat) : (iV P).length = P.length * 4 := kP aM 4 (fun _ => rfl) P
theorem kR {P : List Nat} {d : Nat} (h : d < P.length) : (iV P).drop (d * 4) = aM P[d] ++ Dq aM P d := tO aM 4 (fun _ => rfl) P d h
theorem oM {P : List Nat} {d : Nat} (h : d < P.length) (n : Nat) : (iV P).take (d * 4) ++ (aM n ++ (iV P).drop (d * 4 + 4)) = iV (P.set d n) := by
 have := IK aM 4 (fun _ => rfl) P d h n
 unfold cF at this
 rw [List.append_assoc] at this
 exact this
theorem DY (B : Bd) : ∀ P : List Nat, bB B (iV P) = true := iO (fun _ => rfl)
theorem lN (n : Nat) : ∀ P : List Nat, bM n (iV P) = true := iP (fun _ => rfl)
theorem Dk (P : List Nat) : (iV P).all AV.bL = true := by
 induction P with
 | nil => rfl
 | cons x P ih => simp only [iV, List.flatMap_cons, List.all_append, Bool.and_eq_true] at ih ⊢; exact ⟨rfl, ih⟩
def fD (f : Nat → Nat) : List Nat := (List.range 8).map f
@[simp] theorem MD (f : Nat → Nat) : (fD f).length = 8 := by simp [fD]
theorem jZ {f : Nat → Nat} {d : Nat} (h : d < 8) : (fD f)[d]'(by simpa using h) = f d := by simp [fD]
theorem yC {f g : Nat → Nat} (h : ∀ d, d < 8 → f d = g d) : fD f = fD g := List.map_congr_left (fun d hd => h d (by simpa using hd))
theorem oX {f : Nat → Nat} {d n : Nat} : (fD f).set d n = fD (fun j => if j = d then n else f j) := by
 apply List.ext_getElem
 · simp
 · intro i h1 h2
   rw [List.getElem_set]
   simp [fD]
   split
   · rename_i h; simp [h]
   · rename_i h; rw [if_neg (fun e => h e.symm)]
theorem rZ : iV (fD fun _ => 0) = [.v (.int .u64 0), .v (.int .u64 0), .v (.int .u64 0), .v (.int .u64 0), .v (.int .u64 0), .v (.int .u64 0), .v (.int .u64 0), .v (.int .u64 0), .v (.int .u64 0), .v (.int .u64 0), .v (.int .u64 0), .v (.int .u64 0), .v (.int .u64 0), .v (.int .u64 0), .v (.int .u64 0), .v (.int .u64 0), .v (.int .u64 0), .v (.int .u64 0), .v (.int .u64 0), .v (.int .u64 0), .v (.int .u64 0), .v (.int .u64 0), .v (.int .u64 0), .v (.int .u64 0), .v (.int .u64 0), .v (.int .u64 0), .v (.int .u64 0), .v (.int .u64 0), .v (.int .u64 0), .v (.int .u64 0), .v (.int .u64 0), .v (.int .u64 0)] := rfl
theorem qJ {l : List bD} {c : bD} (h : bA (l ++ [c])) (d : Nat) : amt (l ++ [c]) d = if d = c.d.toNat then c.n.v else amt l d := by
 rw [yB]
 have h3 := (gX.1 h).2.2
 by_cases hd : d = c.d.toNat
 · subst hd
   rw [if_pos rfl, if_neg]
   · simp [amt]
   · rintro ⟨b, hb, e⟩
     have := h3 b hb; omega
 · rw [if_neg hd]
   split
   · rfl
   · rename_i hn
     have h0 : amt l d = 0 := l8 (fun c hc e => hn ⟨c, hc, e⟩)
     rw [h0]
     simp [amt]
     intro e; exact absurd e.symm hd
def neB : List bD → Bool
 | [] => false
 | _ :: _ => true
@[simp] theorem Nf : neB [] = false := rfl
@[simp] theorem MX (l : List bD) (c : bD) : neB (l ++ [c]) = true := by cases l <;> rfl
theorem IG {l : List bD} (h : neB l = false) : l = [] := by cases l <;> simp [neB] at h ⊢
def jQ (F : Nat → Nat → Nat × Nat) (a b : List bD) : Nat → Nat
 | 0 => 0
 | d + 1 => if jQ F a b d ≠ 0 then jQ F a b d else (F (amt a d) (amt b d)).2
def qF (F : Nat → Nat → Nat × Nat) (a b : List bD) : List bD := if jQ F a b 8 = 0 then fR (fun d => (F (amt a d) (amt b d)).1) 8 else []
theorem zL {F : Nat → Nat → Nat × Nat} {a b : List bD} {d : Nat} (h : jQ F a b d ≠ 0) : ∀ k, jQ F a b (d + k) = jQ F a b d
 | 0 => rfl
 | k + 1 => by
   have := zL h k
   rw [← Nat.add_assoc]
   show (if jQ F a b (d + k) ≠ 0 then jQ F a b (d + k) else _) = _
   rw [this, if_pos h]
theorem vC {F : Nat → Nat → Nat × Nat} {a b : List bD} : ∀ n, jQ F a b n = 0 ↔ ∀ d, d < n → (F (amt a d) (amt b d)).2 = 0
 | 0 => by simp [jQ]
 | n + 1 => by
   have ih := vC (F := F) (a := a) (b := b) n
   constructor
   · intro h d hd
     unfold jQ at h
     split at h
     · contradiction
     · rename_i h0
       by_cases e : d = n
       · subst e; exact h
       · exact ih.1 (by simpa using h0) d (by omega)
   · intro h
     unfold jQ
     rw [if_neg (by simpa using ih.2 (fun d hd => h d (by omega)))]
     exact h n (by omega)
def nH (x y : Nat) : Nat := if x + y < 2 ^ 256 then x + y else 0
def r8 (x y : Nat) : Nat := if x + y < 2 ^ 256 then 0 else 2
theorem JH (x y : Nat) : nH x y < 2 ^ 256 := by unfold nH; split <;> first | assumption | decide
def iD (a b : List bD) : Nat := jQ (fun x y => (nH x y, r8 x y)) a b 8
def iN (a b : List bD) : List bD := qF (fun x y => (nH x y, r8 x y)) a b
def kA (a b : List bD) : List bD := qF (fun x y => (x - y, 0)) a b
theorem jJ {a b : List bD} : iD a b = 0 ↔ ∀ d, d < 8 → amt a d + amt b d < 2 ^ 256 := by
 unfold iD
 rw [vC]
 constructor
 · intro h d hd
   have := h d hd
   simp only [r8] at this
   split at this
   · assumption
   · omega
 · intro h d hd
   simp only [r8, if_pos (h d hd)]
theorem rV {a b : List bD} (h : iD a b = 0) : iN a b = fR (fun d => amt a d + amt b d) 8 := by
 have h' : jQ (fun x y => (nH x y, r8 x y)) a b 8 = 0 := h
 unfold iN qF
 rw [if_pos h']
 exact iI (fun d hd => by simp only [nH, if_pos (jJ.1 h d hd)])
theorem yV {a b : List bD} (h : ¬ iD a b = 0) : iN a b = [] := by
 have h' : ¬ jQ (fun x y => (nH x y, r8 x y)) a b 8 = 0 := h
 unfold iN qF; rw [if_neg h']
theorem uF (a b : List bD) : kA a b = fR (fun d => amt a d - amt b d) 8 := by
 unfold kA qF
 rw [if_pos ((vC 8).2 (fun _ _ => rfl))]
theorem F4 (a b : List bD) : iD a b = 0 ∨ iD a b = 2 := by
 unfold iD
 have : ∀ n, jQ (fun x y => (nH x y, r8 x y)) a b n = 0 ∨ jQ (fun x y => (nH x y, r8 x y)) a b n = 2 := by
  intro n
  induction n with
  | zero => exact .inl rfl
  | succ n ih =>
    unfold jQ
    split
    · exact ih
    · simp only [r8]; split
      · exact .inl rfl
      · exact .inr rfl
 exact this 8
theorem j3 (a b : List bD) : bA (iN a b) := by
 by_cases h : iD a b = 0
 · rw [rV h]; exact iG (jJ.1 h) 8 (by omega)
 · rw [yV h]; exact fC
theorem v9 (a b : List bD) : bA (kA a b) := by
 rw [uF]; exact iG (fun d _ => Nat.lt_of_le_of_lt (Nat.sub_le _ _) (gD a d)) 8 (by omega)
theorem dZ {l : List bD} (h : bA l) : l.length ≤ 8 := by
 rw [← oG h]; exact tT _ _
end Go.Vm
