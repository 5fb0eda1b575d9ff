import Derived.Calls
import Derived.Laws.Rows
import Derived.Laws.Append
import Derived.Laws.AppendOwn
import Derived.Laws.CopyRow
import Derived.Laws.Cells
import Derived.Laws.World
import Derived.Laws.Sem
/-
  Values without memory: what a Go function computes, told by plain lists.
-/
namespace Go.Vm
set_option linter.unnecessarySimpa false
set_option linter.unusedSimpArgs false
set_option linter.unusedVariables false
open Go

inductive Tail where
  | shut
  | full
  | own (t : Nat)
  deriving DecidableEq, Repr

inductive AV where
  | v (x : Value)
  | agg (cs : List AV)
  | tup (vs : List AV)
  | sl (sz : Nat) (cs : List AV) (n : Nat) (t : Tail)
  | ep (cs : List AV)
  | ptr (id off : Nat)
  | bs (id off sz n : Nat)
  | fn (f : Nat) (caps : List AV)
  | row (k g off sz n : Nat)
  | rp (k g off : Nat)
  | any
  deriving Inhabited

inductive Fa2 {α β : Type} (R : α → β → Prop) : List α → List β → Prop
  | nil : Fa2 R [] []
  | cons {a b l m} (h : R a b) (t : Fa2 R l m) : Fa2 R (a :: l) (b :: m)

structure RowSt where
  gen : Nat
  cells : List AV
  spare : Option Nat

structure St where
  objs : List (List AV)
  toks : List Nat
  gl : Nat → Option (List AV)
  rows : List RowSt

def AV.cells : AV → List AV
  | .agg cs => cs
  | a => [a]

@[simp] theorem AV.cells_row (k g off sz n : Nat) : (AV.row k g off sz n).cells = [.row k g off sz n] := rfl
@[simp] theorem AV.cells_rp (k g off : Nat) : (AV.rp k g off).cells = [.rp k g off] := rfl
@[simp] theorem AV.cells_any : AV.any.cells = [.any] := rfl

def undefA : AV := .v (.tuple #[])

def plain : Value → Bool
  | .bool _ | .int _ _ | .string _ | .pointer none | .nilFunc => true
  | .tuple vs => vs.size == 0
  | _ => false

def ofCell : Value → Option AV
  | .slice none 0 0 => some (.sl 0 [] 0 .full)
  | .func (.func f) first caps => if first.size = 0 ∧ caps.size = 0 then some (.fn f []) else none
  | x => if plain x then some (.v x) else none

def ofCells : List Value → Option (List AV)
  | [] => some []
  | x :: l => match ofCell x, ofCells l with
    | some a, some as9 => some (a :: as9)
    | _, _ => none

def ofValue : Value → Option AV
  | .agg cs => (ofCells cs.toList).map .agg
  | x => ofCell x

def readA (σ : St) : AV → Option (Nat × List AV × Nat)
  | .sl sz cs n _ => some (sz, cs, n)
  | .row k g off sz n => match σ.rows[k]? with
    | some r => if r.gen = g ∧ off + n * sz ≤ r.cells.length then some (sz, (r.cells.drop off).take (n * sz), n) else none
    | none => none
  | _ => none

@[simp] theorem readA_sl (σ : St) (sz : Nat) (cs : List AV) (n : Nat) (t : Tail) : readA σ (.sl sz cs n t) = some (sz, cs, n) := rfl

def AV.isCell : AV → Bool
  | .v (.tuple _) | .v (.agg _) | .agg _ | .tup _ => false
  | _ => true

def pureRun {α : Type} (P : Program) : Sem α → Option α
  | .pure a => some a
  | .program k => pureRun P (k P)
  | .mark _ k => pureRun P k
  | _ => none

theorem pureRun_run {α : Type} (P : Program) (w : World) : ∀ (s : Sem α) (a : α), pureRun P s = some a → s.run P w = .ok a w
  | .pure a, b, h => by simp [pureRun] at h; subst h; rfl
  | .program k, b, h => by simp only [pureRun] at h; simp only [Sem.run]; exact pureRun_run P w (k P) b h
  | .mark m k, b, h => by simp only [pureRun] at h; simp only [Sem.run]; exact pureRun_run P w k b h
  | .load .., _, h | .store .., _, h | .new .., _, h | .shape .., _, h | .freeze .., _, h | .frozen .., _, h | .getObj .., _, h | .setObj .., _, h
  | .choose .., _, h | .sys .., _, h | .halt .., _, h => by simp [pureRun] at h

structure TI where
  agg : Bool
  size : Nat
  bytes : Nat
  zero : Value

def descAgg : TypeDesc → Bool
  | .struct _ | .array _ _ => true
  | _ => false

def ti (P : Program) (t : TypeId) : Option TI :=
  match P.underlying t, P.info? t with
  | some d, some i => match i.zero with
    | some z => some ⟨descAgg d, i.size, i.bytes, z⟩
    | none => none
  | _, _ => none

def elemT (P : Program) (t : TypeId) : Option TypeId :=
  match P.underlying t with
  | some (.slice e) => some e
  | _ => none

def arrT (P : Program) (t : TypeId) : Option (Nat × TypeId) :=
  match P.underlying t with
  | some (.array n e) => some (n, e)
  | _ => none

def fieldT (P : Program) (t : TypeId) (f : Nat) : Option (Nat × TypeId) :=
  match P.underlying t with
  | some (.struct fs) => match fs[f]? with
    | some x => some (x.offset, x.type)
    | none => none
  | _ => none

def partA (P : Program) (t : TypeId) (cs : List AV) (off : Nat) : Option AV :=
  match ti P t with
  | some i => if i.agg then (if off + i.size ≤ cs.length then some (.agg ((cs.drop off).take i.size)) else none) else cs[off]?
  | none => none

def splice (cs : List AV) (off : Nat) (vs : List AV) : List AV := cs.take off ++ vs ++ cs.drop (off + vs.length)

def intA : AV → Option Int
  | .v (.int _ n) => some n
  | _ => none

def allPlain : List AV → Option (List Value)
  | [] => some []
  | .v x :: l => if plain x && x.oneCell' then (allPlain l).map (x :: ·) else none
  | _ :: _ => none

def plainOf : AV → Option Value
  | .v x => some x
  | .agg cs => (allPlain cs).map fun l => .agg l.toArray
  | _ => none

def loadA (P : Program) (t : TypeId) (a : AV) (σ : St) : Option AV :=
  match a with
  | .ep cs => partA P t cs 0
  | .ptr id off => match σ.objs[id]? with
    | some cs => partA P t cs off
    | none => none
  | .rp k g off => match σ.rows[k]?, ti P t with
    | some r, some i => if r.gen = g ∧ 0 < i.size then partA P t r.cells off else none
    | _, _ => none
  | _ => none

def storeA (P : Program) (t : TypeId) (a v : AV) (σ : St) : Option St :=
  match a with
  | .ptr id off => match σ.objs[id]?, ti P t with
    | some cs, some i => if v.cells.length = i.size ∧ off + i.size ≤ cs.length ∧ v.cells.all AV.isCell then some { σ with objs := σ.objs.set id (splice cs off v.cells) } else none
    | _, _ => none
  | .rp k g off => match σ.rows[k]?, ti P t with
    | some r, some i => if r.gen = g ∧ v.cells.length = i.size ∧ off + i.size ≤ r.cells.length ∧ v.cells.all AV.isCell then some { σ with rows := σ.rows.set k { r with cells := splice r.cells off v.cells } } else none
    | _, _ => none
  | _ => none

def fieldAddrA (P : Program) (t : TypeId) (f : Nat) (a : AV) : Option AV :=
  match fieldT P t f with
  | some (o, ft) => match ti P ft with
    | some i => if i.size = 0 then none else match a with
      | .ptr id off => some (.ptr id (off + o))
      | .ep cs => some (.ep (cs.drop o))
      | .rp k g off => some (.rp k g (off + o))
      | _ => none
    | none => none
  | none => none

def indexAddrA (P : Program) (t : TypeId) (a ix : AV) : Option AV :=
  match intA ix with
  | none => none
  | some i => match elemT P t with
    | some e => match ti P e with
      | some ei => match a with
        | .sl sz cs n _ => if sz = ei.size ∧ 0 ≤ i ∧ i < n ∧ 0 < sz then some (.ep (cs.drop (i.toNat * ei.size))) else none
        | .bs id off sz n => if sz = ei.size ∧ 0 ≤ i ∧ i < n ∧ 0 < sz then some (.ptr id (off + i.toNat * ei.size)) else none
        | .row k g off sz n => if sz = ei.size ∧ 0 ≤ i ∧ i < n ∧ 0 < sz then some (.rp k g (off + i.toNat * ei.size)) else none
        | _ => none
      | none => none
    | none => match arrT P t with
      | some (len, e) => match ti P e with
        | some ei => if 0 ≤ i ∧ i < len then (match a with
            | .ptr id off => some (.ptr id (off + i.toNat * ei.size))
            | .ep cs => some (.ep (cs.drop (i.toNat * ei.size)))
            | .rp k g off => some (.rp k g (off + i.toNat * ei.size))
            | _ => none) else none
        | none => none
      | none => none

def indexA (P : Program) (t : TypeId) (a ix : AV) : Option AV :=
  match a with
  | .agg cs => match intA ix, arrT P t with
    | some i, some (len, e) => match ti P e with
      | some ei => if 0 ≤ i ∧ i < len then partA P e cs (i.toNat * ei.size) else none
      | none => none
    | _, _ => none
  | .v x => match ix with
    | .v y => match pureRun P (Instr.index t x y) with
      | some r => if plain r then some (.v r) else none
      | none => none
    | _ => none
  | _ => none

def fieldA (P : Program) (t : TypeId) (a : AV) (f : Nat) : Option AV :=
  match a, fieldT P t f with
  | .agg cs, some (o, ft) => partA P ft cs o
  | _, _ => none

def isEq : BinOp → Option Bool
  | .eql => some true
  | .neq => some false
  | _ => none

def nilPtr : AV → Option Bool
  | .v (.pointer none) => some true
  | .ptr _ _ | .ep _ | .rp _ _ _ => some false
  | _ => none

def isPtrT (P : Program) (t : TypeId) : Bool :=
  match P.underlying t with
  | some (.pointer _) => true
  | _ => false

def flatFs (rec : TypeId → Option (List (Option IntKind))) (P : Program) : List Field → Nat → Option (List (Option IntKind))
  | [], _ => some []
  | f :: fs, off => if f.name ≠ "_" ∧ f.offset = off then (match rec f.type, P.info? f.type with
    | some l, some i => if i.size = l.length then (flatFs rec P fs (off + l.length)).map (l ++ ·) else none
    | _, _ => none) else none

def flatK (P : Program) : Nat → TypeId → Option (List (Option IntKind))
  | 0, _ => none
  | d + 1, t => match P.underlying t with
    | some .bool => some [none]
    | some (.int k) => some [some k]
    | some (.array n e) => match flatK P d e, P.info? e with
      | some l, some i => if i.size = l.length then some (List.replicate n l).flatten else none
      | _, _ => none
    | some (.struct fs) => if P.stoodInHeld t then none else flatFs (flatK P d) P fs.toList 0
    | _ => none

def flatT (P : Program) (t : TypeId) : Option (List (Option IntKind)) := if P.eqGuardType P.depth t then none else match P.underlying t with
  | some (.array _ _) | some (.struct _) => flatK P 16 t
  | _ => none

def fitsK : List (Option IntKind) → List AV → Bool
  | [], [] => true
  | none :: ks, .v (.bool _) :: cs => fitsK ks cs
  | some k :: ks, .v (.int k' _) :: cs => k == k' && fitsK ks cs
  | _, _ => false

def cellsEqA : List AV → List AV → Bool
  | [], [] => true
  | .v (.bool a) :: l, .v (.bool b) :: m => (a == b) && cellsEqA l m
  | .v (.int _ a) :: l, .v (.int _ b) :: m => (a == b) && cellsEqA l m
  | _, _ => false

def binOldA (P : Program) (op : BinOp) (t : TypeId) (xo yo : Operand) (x y : AV) : Option AV :=
  match plainOf x, plainOf y with
  | some a, some b => match pureRun P (do eqGuard op t xo yo a b; binOp op t a b) with
    | some r => if plain r then some (.v r) else none
    | none => none
  | _, _ => match isEq op, nilPtr x, nilPtr y with
    | some e, some p, some q => if isPtrT P t && (p || q) then some (.v (.bool (e == (p == q)))) else none
    | _, _, _ => none

def binA (P : Program) (op : BinOp) (t : TypeId) (xo yo : Operand) (x y : AV) : Option AV :=
  match x, y with
  | .agg cs, .agg ds => match isEq op, flatT P t with
    | some e, some ks => if fitsK ks cs && fitsK ks ds then some (.v (.bool (e == cellsEqA cs ds))) else none
    | _, _ => none
  | x, y => binOldA P op t xo yo x y

def unA (op : UnOp) (x : AV) (P : Program) : Option AV :=
  match x with
  | .v a => match pureRun P (Op.unary op a) with
    | some r => if plain r then some (.v r) else none
    | none => none
  | _ => none

def bytesOf : List AV → Option (List UInt8)
  | [] => some []
  | .v (.int .u8 n) :: l => (bytesOf l).map (UInt8.ofNat n.toNat :: ·)
  | _ :: _ => none

def isStrT (P : Program) (t : TypeId) : Bool :=
  match P.underlying t with
  | some .string => true
  | _ => false

def isU8 (P : Program) (t : TypeId) : Bool :=
  match P.underlying t with
  | some (.int .u8) => true
  | _ => false

def intT (P : Program) (t : TypeId) : Option IntKind :=
  match P.underlying t with
  | some (.int k) => some k
  | _ => none

def convA (P : Program) (src dst : TypeId) (x : AV) : Option AV :=
  match x with
  | .v a => match intA (.v a), intT P src, intT P dst with
    | some n, some _, some k => some (.v (.int k (k.wrap n)))
    | _, _, _ => match pureRun P (convert src dst a) with
      | some r => if plain r then some (.v r) else none
      | none => none
  | .sl sz cs n _ => match elemT P src, isStrT P dst, bytesOf cs with
    | some e, true, some l => if isU8 P e && sz == 1 then some (.v (.string ⟨l.toArray⟩)) else none
    | _, _, _ => none
  | _ => none

def boundA (x : Option AV) (d : Nat) : Option Nat :=
  match x with
  | none => some d
  | some a => match intA a with
    | some i => if 0 ≤ i then some i.toNat else none
    | none => none

def sliceA (P : Program) (t : TypeId) (x : AV) (lo hi mx : Option AV) : Option AV :=
  match x with
  | .sl sz cs n tl => match elemT P t, boundA lo 0, boundA hi n with
    | some e, some l, some h => match ti P e with
      | some ei => if (sz = ei.size ∨ n = 0) ∧ l ≤ h ∧ h ≤ n ∧ 0 < ei.size then
          (match mx with
          | none => if lo.isNone && hi.isNone then some (.sl sz cs n tl) else some (.sl ei.size ((cs.drop (l * ei.size)).take ((h - l) * ei.size)) (h - l) .shut)
          | some m => if hi.isSome then (match intA m with
            | some mi => if mi = (h : Int) then some (.sl ei.size ((cs.drop (l * ei.size)).take ((h - l) * ei.size)) (h - l) .full) else none
            | none => none) else none)
        else none
      | none => none
    | _, _, _ => none
  | .ptr id off => match mx, arrT P t, boundA lo 0 with
    | none, some (n, e), some l => match boundA hi n, ti P e with
      | some h, some ei => if l ≤ h ∧ h ≤ n ∧ 0 < ei.size ∧ l < n then some (.bs id (off + l * ei.size) ei.size (h - l)) else none
      | _, _ => none
    | _, _, _ => none
  | _ => none

def sliceRowA (P : Program) (t : TypeId) (x : AV) (lo hi mx : Option AV) (σ : St) : Option (AV × St) :=
  match x with
  | .row k g off sz n => match elemT P t, boundA lo 0, boundA hi n with
    | some e, some l, some h => match ti P e with
      | some ei => if sz = ei.size ∧ l ≤ h ∧ 0 < ei.size then
          (match mx with
          | none => if h ≤ n then some (.row k g (off + l * sz) sz (h - l), σ) else (match σ.rows[k]? with
            | some r => (match r.spare with
              | some s => if r.gen = g ∧ r.cells.length ≤ off + h * sz ∧ off + h * sz ≤ r.cells.length + s then
                  some (.row k g (off + l * sz) sz (h - l), { σ with rows := σ.rows.set k ⟨g, r.cells ++ List.replicate (off + h * sz - r.cells.length) .any, some (r.cells.length + s - (off + h * sz))⟩ }) else none
              | none => none)
            | none => none)
          | some m => if hi.isSome then (match intA m with
            | some mi => if (h : Int) ≤ mi ∧ mi ≤ n then (if mi = (l : Int) then some (.sl ei.size [] 0 .full, σ) else some (.any, σ)) else none
            | none => none) else none)
        else none
      | none => none
    | _, _, _ => none
  | _ => none

def roomA : Nat := 140737488355328

def zeroA (P : Program) (t : TypeId) : Option AV :=
  match ti P t with
  | some i => ofValue i.zero
  | none => none

def zeroCell (i : TI) : Bool := i.zero.cells.size == i.size && i.zero.cells.toList.all fun x => x.oneCell'

def rowAppA (k g off sz n : Nat) (ys : List AV) (m : Nat) (σ : St) : Option (AV × St) :=
  match σ.rows[k]? with
  | some r => if r.gen = g ∧ off + n * sz ≤ r.cells.length then
      (match r.spare with
      | some s => if off + (n + m) * sz ≤ r.cells.length + s then
          some (.row k (g + 1) 0 sz (n + m), { σ with rows := σ.rows.set k ⟨g + 1, (r.cells.drop off).take (n * sz) ++ ys, some (r.cells.length + s - (off + (n + m) * sz))⟩ })
        else some (.row σ.rows.length 0 0 sz (n + m), { σ with rows := σ.rows ++ [⟨0, (r.cells.drop off).take (n * sz) ++ ys, none⟩] })
      | none => some (.row k (g + 1) 0 sz (n + m), { σ with rows := σ.rows.set k ⟨g + 1, (r.cells.drop off).take (n * sz) ++ ys, none⟩ })) else none
  | none => none

def zerosA (P : Program) (e : TypeId) (n : Nat) : Option (List AV) :=
  match ti P e, zeroA P e with
  | some i, some z => if 0 < i.size ∧ z.cells.length = i.size ∧ z.cells.all AV.isCell then some ((List.range (n * i.size)).map fun j => z.cells.getD (j % i.size) undefA) else none
  | _, _ => none

def appendA (P : Program) (t : TypeId) (s x : AV) (σ : St) : Option (AV × St) :=
  match s, readA σ x with
  | .sl sz cs n tl, some (sy, ys, m) => match elemT P t with
    | some e => match ti P e with
      | some i => if (sz = i.size ∨ n = 0) ∧ (sy = i.size ∨ m = 0) ∧ 0 < i.size ∧ (n + m) * i.bytes ≤ roomA ∧ n + m ≤ maxLen ∧ i.zero.cells.size = i.size then
          (match tl with
          | .full => some (.sl i.size (cs ++ ys) (n + m) (.own σ.toks.length), { σ with toks := σ.toks ++ [n + m] })
          | .own k => if sz = i.size ∧ σ.toks[k]? = some n then some (.sl i.size (cs ++ ys) (n + m) (.own k), { σ with toks := σ.toks.set k (n + m) }) else none
          | .shut => none) else none
      | none => none
    | none => none
  | .row k g off sz n, some (sy, ys, m) => match elemT P t with
    | some e => match ti P e with
      | some i => if sz = i.size ∧ (sy = i.size ∨ m = 0) ∧ 0 < i.size ∧ (n + m) * i.bytes ≤ roomA ∧ n + m ≤ maxLen ∧ zeroCell i then rowAppA k g off sz n ys m σ else none
      | none => none
    | none => none
  | _, _ => none

def appendZA (P : Program) (t : TypeId) (s x : AV) (σ : St) : Option (AV × St) :=
  match s, intA x with
  | .row k g off sz n, some mi => match elemT P t with
    | some e => match ti P e, zerosA P e mi.toNat with
      | some i, some ys => if 0 ≤ mi ∧ sz = i.size ∧ 0 < i.size ∧ (n + mi.toNat) * i.bytes ≤ roomA ∧ n + mi.toNat ≤ maxLen ∧ mi ≤ 9223372036854775807 ∧ zeroCell i then rowAppA k g off sz n ys mi.toNat σ else none
      | _, _ => none
    | none => none
  | _, _ => none

def copyA (P : Program) (t : TypeId) (d x : AV) (σ : St) : Option (AV × St) :=
  match d, readA σ x with
  | .row k g off sz n, some (sy, ys, m) => match elemT P t with
    | some e => match ti P e, σ.rows[k]? with
      | some i, some r => if sz = i.size ∧ (sy = i.size ∨ m = 0) ∧ 0 < i.size ∧ r.gen = g ∧ off + n * sz ≤ r.cells.length ∧ n ≤ maxLen then
          some (.v (.int .i64 (min m n : Nat)), { σ with rows := σ.rows.set k { r with cells := splice r.cells off (ys.take (min m n * sz)) } }) else none
      | _, _ => none
    | none => none
  | _, _ => none

def clearA (P : Program) (t : TypeId) (d : AV) (σ : St) : Option (AV × St) :=
  match d with
  | .row k g off sz n => match elemT P t with
    | some e => match ti P e, zerosA P e n, σ.rows[k]? with
      | some i, some ys, some r => if sz = i.size ∧ 0 < i.size ∧ r.gen = g ∧ off + n * sz ≤ r.cells.length then
          some (undefA, { σ with rows := σ.rows.set k { r with cells := splice r.cells off ys } }) else none
      | _, _, _ => none
    | none => none
  | _ => none

def capA (P : Program) (t : TypeId) (d : AV) (σ : St) : Option AV :=
  match d with
  | .row k g off sz _ => match elemT P t, σ.rows[k]? with
    | some _, some r => match r.spare with
      | some s => if r.gen = g ∧ 0 < sz ∧ (r.cells.length + s - off) % sz = 0 then some (.v (.int .i64 ((r.cells.length + s - off) / sz : Nat))) else none
      | none => none
    | _, _ => none
  | _ => none

def makeA (P : Program) (t : TypeId) (l c : AV) (σ : St) : Option (AV × St) :=
  match elemT P t, intA l, intA c with
  | some e, some li, some ci => match ti P e, zerosA P e li.toNat with
    | some i, some ys => if 0 ≤ li ∧ li = ci ∧ li ≤ 9223372036854775807 ∧ li.toNat * i.bytes ≤ roomA then
        some (.row σ.rows.length 0 0 i.size li.toNat, { σ with rows := σ.rows ++ [⟨0, ys, some 0⟩] }) else none
    | _, _ => none
  | _, _, _ => none

def lenA (P : Program) (t : TypeId) (x : AV) : Option AV :=
  match x with
  | .sl _ _ n _ => (elemT P t).map fun _ => .v (.int .i64 n)
  | .bs _ _ _ n => (elemT P t).map fun _ => .v (.int .i64 n)
  | .row _ _ _ _ n => (elemT P t).map fun _ => .v (.int .i64 n)
  | .v (.string s) => if isStrT P t then some (.v (.int .i64 s.size)) else none
  | _ => match arrT P t with
    | some (n, _) => some (.v (.int .i64 n))
    | none => none

def placesA (P : Program) (t : TypeId) : Option (List (Nat × Nat)) :=
  match P.underlying t with
  | some (.struct fs) => match pureRun P (fs.mapM fun f => do pure (f.offset, ← sizeOf f.type)) with
    | some a => some a.toList
    | none => none
  | some (.array n e) => match pureRun P (sizeOf e) with
    | some s => some ((List.range n).map fun i => (i * s, s))
    | none => none
  | _ => none

def fillA (places : List (Nat × Nat)) : List AV → List (Nat × AV) → Option (List AV)
  | cs, [] => some cs
  | cs, (i, a) :: rest => match places[i]? with
    | some (off, size) => if a.cells.length = size ∧ off + size ≤ cs.length then fillA places (splice cs off a.cells) rest else none
    | none => none

def newObjA (cs : List AV) (σ : St) : AV × St := (.ptr σ.objs.length 0, { σ with objs := σ.objs ++ [cs] })

def evalA (ρ : Nat → AV) (σ : St) : Operand → Option AV
  | .tmp t => some (ρ t)
  | .const v => ofValue v
  | .global g => (σ.gl g).map .ep
  | .func f => some (.fn f [])

def evalsA (ρ : Nat → AV) (σ : St) : List (Nat × Operand) → Option (List (Nat × AV))
  | [] => some []
  | (i, x) :: l => match evalA ρ σ x, evalsA ρ σ l with
    | some a, some as9 => some ((i, a) :: as9)
    | _, _ => none

def evalAll (ρ : Nat → AV) (σ : St) : List Operand → Option (List AV)
  | [] => some []
  | x :: l => match evalA ρ σ x, evalAll ρ σ l with
    | some a, some as9 => some (a :: as9)
    | _, _ => none

def evalOpt (ρ : Nat → AV) (σ : St) : Option Operand → Option (Option AV)
  | none => some none
  | some x => (evalA ρ σ x).map some

def buildA (P : Program) (t : TypeId) (parts : List (Nat × AV)) : Option AV :=
  match zeroA P t, placesA P t with
  | some (.agg cs), some pl => (fillA pl cs parts).map .agg
  | _, _ => none

def buildSliceA (P : Program) (t : TypeId) (len : Nat) (parts : List (Nat × AV)) : Option AV :=
  match elemT P t with
  | some e => match ti P e, zeroA P e with
    | some i, some z => if 0 < i.size ∧ z.cells.length = i.size ∧ len * i.size ≤ 16777216 then
        (match fillA ((List.range len).map fun k => (k * i.size, i.size)) ((List.range (len * i.size)).map fun j => z.cells.getD (j % i.size) undefA) parts with
        | some cs => if cs.all AV.isCell then some (.sl i.size cs len .full) else none
        | none => none) else none
    | _, _ => none
  | none => none

def pickA (t : Bool) (x y : AV) : AV :=
  match x, y with
  | .v (.bool p), .v (.bool q) => .v (.bool (bif t then p else q))
  | _, _ => if t then x else y

def builtinA (P : Program) (b : Builtin) (ts : List TypeId) (as9 : List AV) (σ : St) : Option (AV × St) :=
  match b, ts, as9 with
  | .len, [t], [a] => (lenA P t a).map (·, σ)
  | .append, [t, u], [a, b] => if t = u then appendA P t a b σ else (match intT P u with
    | some _ => appendZA P t a b σ
    | none => none)
  | .cap, [t], [a] => (capA P t a σ).map (·, σ)
  | .copy, [t, _], [a, b] => copyA P t a b σ
  | .clear, [t], [a] => clearA P t a σ
  | _, _, _ => none

def opA (P : Program) (ρ : Nat → AV) (σ : St) : Op → Option (AV × St)
  | .move x | .assign x => (evalA ρ σ x).map (·, σ)
  | .pick c a b => match evalA ρ σ c, evalA ρ σ a, evalA ρ σ b with
    | some (.v (.bool t)), some x, some y => some (pickA t x y, σ)
    | _, _, _ => none
  | .alloc t => (zeroA P t).map fun z => newObjA z.cells σ
  | .box _ x => (evalA ρ σ x).map fun a => newObjA a.cells σ
  | .build t parts => match evalsA ρ σ parts.toList with
    | some ps => (buildA P t ps).map (·, σ)
    | none => none
  | .buildSlice t len parts => match evalsA ρ σ parts.toList with
    | some ps => (buildSliceA P t len ps).map (·, σ)
    | none => none
  | .load t a => match evalA ρ σ a with
    | some x => (loadA P t x σ).map (·, σ)
    | none => none
  | .store t a x => match evalA ρ σ a, evalA ρ σ x with
    | some p, some v => (storeA P t p v σ).map (undefA, ·)
    | _, _ => none
  | .makeSlice t l c => match evalA ρ σ l, evalA ρ σ c with
    | some a, some b => makeA P t a b σ
    | _, _ => none
  | .nilCheck x => match evalA ρ σ x with
    | some (.ptr id off) => some (.ptr id off, σ)
    | some (.rp k g off) => some (.rp k g off, σ)
    | some (.ep cs) => some (.ep cs, σ)
    | some (.fn f cs) => some (.fn f cs, σ)
    | _ => none
  | .binOp op t x y _ => match evalA ρ σ x, evalA ρ σ y with
    | some a, some b => (binA P op t x y a b).map (·, σ)
    | _, _ => none
  | .unOp op _ x => match evalA ρ σ x with
    | some a => (unA op a P).map (·, σ)
    | none => none
  | .convert s d x => match evalA ρ σ x with
    | some a => (convA P s d a).map (·, σ)
    | none => none
  | .slice t x lo hi mx => match evalA ρ σ x, evalOpt ρ σ lo, evalOpt ρ σ hi, evalOpt ρ σ mx with
    | some a, some l, some h, some m => match a with
      | .row k g off sz n => sliceRowA P t (.row k g off sz n) l h m σ
      | a => (sliceA P t a l h m).map (·, σ)
    | _, _, _, _ => none
  | .fieldAddr t x f => match evalA ρ σ x with
    | some a => (fieldAddrA P t f a).map (·, σ)
    | none => none
  | .field t x f => match evalA ρ σ x with
    | some a => (fieldA P t a f).map (·, σ)
    | none => none
  | .indexAddr t x i => match evalA ρ σ x, evalA ρ σ i with
    | some a, some b => (indexAddrA P t a b).map (·, σ)
    | _, _ => none
  | .index t x i => match evalA ρ σ x, evalA ρ σ i with
    | some a, some b => (indexA P t a b).map (·, σ)
    | _, _ => none
  | .extract x i => match evalA ρ σ x with
    | some (.tup vs) => (vs[i]?).map (·, σ)
    | _ => none
  | .sliceToArrayPointer t x => match evalA ρ σ x, arrT P t with
    | some (.bs id off _ n), some (m, _) => if m ≤ n then some (.ptr id off, σ) else none
    | _, _ => none
  | .makeFunc (.func f) first caps => if first.size = 0 then (evalAll ρ σ caps.toList).map fun cs => (.fn f cs, σ) else none
  | .call c => match c.callee with
    | .builtin b => match evalAll ρ σ c.args.toList with
      | some as9 => builtinA P b c.argTypes.toList as9 σ
      | none => none
    | _ => none
  | _ => none

inductive Tag where
  | no
  | fixd
  | obj (id : Nat)
  | tail (k : Nat)
  | row (k : Nat)
  deriving DecidableEq

structure Gh where
  tag : Nat → Nat → Tag
  pl : Nat → Option Nat
  tl : Nat → Option (Nat × Nat × Nat × Nat)
  rw : Nat → Option (Nat × Nat × Nat × Nat)
  base : Nat

def TailOk (G : Gh) (t : Tail) (a : Option Addr) (n c sz : Nat) : Prop :=
  match t with
  | .shut => True
  | .full => c = n
  | .own k => ∃ m r, G.tl k = some (m, r) ∧ n ≤ m ∧ (n = m → c = n ∨ ∃ b o, a = some ⟨b, o, none⟩ ∧ r = (b, o + n * sz, o + c * sz))

inductive AVR (G : Gh) (w : World) : Value → AV → Prop
  | v {x : Value} (h : plain x = true) : AVR G w x (.v x)
  | agg {cs : Array Value} {as9 : List AV} (hl : cs.size = as9.length) (h : ∀ (j : Nat) x a, cs[j]? = some x → as9[j]? = some a → AVR G w x a) : AVR G w (.agg cs) (.agg as9)
  | tup {cs : Array Value} {as9 : List AV} (hl : cs.size = as9.length) (h : ∀ (j : Nat) x a, cs[j]? = some x → as9[j]? = some a → AVR G w x a) : AVR G w (.tuple cs) (.tup as9)
  | sl0 {a : Option Addr} {c sz : Nat} {t : Tail} (ht : TailOk G t a 0 c sz) : AVR G w (.slice a 0 c) (.sl sz [] 0 t)
  | sl {b o n c sz : Nat} {cs : List AV} {t : Tail} (xs : List Value) (hl : xs.length = cs.length) (hn : cs.length = n * sz) (hc : n ≤ c)
      (hs : ∀ j, j < cs.length → G.tag b (o + j) = .fixd) (hx : ∀ (j : Nat) x, xs[j]? = some x → w.cell? ⟨b, o + j, none⟩ = some x ∧ x.oneCell' = true)
      (h : ∀ (j : Nat) x a, xs[j]? = some x → cs[j]? = some a → AVR G w x a) (ht : TailOk G t (some ⟨b, o, none⟩) n c sz) : AVR G w (.slice (some ⟨b, o, none⟩) n c) (.sl sz cs n t)
  | ep {b o : Nat} {cs : List AV} (xs : List Value) (hl : xs.length = cs.length)
      (hs : ∀ j, j < cs.length → G.tag b (o + j) = .fixd) (hx : ∀ (j : Nat) x, xs[j]? = some x → w.cell? ⟨b, o + j, none⟩ = some x ∧ x.oneCell' = true)
      (h : ∀ (j : Nat) x a, xs[j]? = some x → cs[j]? = some a → AVR G w x a) : AVR G w (.pointer (some ⟨b, o, none⟩)) (.ep cs)
  | ptr {id off b : Nat} (h : G.pl id = some b) : AVR G w (.pointer (some ⟨b, off, none⟩)) (.ptr id off)
  | bs {id off sz n b c : Nat} (h : G.pl id = some b) (hc : n ≤ c) : AVR G w (.slice (some ⟨b, off, none⟩) n c) (.bs id off sz n)
  | fn {f : Nat} {cs : Array Value} {as9 : List AV} (hl : cs.size = as9.length) (h : ∀ (j : Nat) x a, cs[j]? = some x → as9[j]? = some a → AVR G w x a) : AVR G w (.func (.func f) #[] cs) (.fn f as9)
  | row {k g off sz n c gc b o C : Nat} {a : Option Addr} (h : G.rw k = some (gc, b, o, C)) (hg : g ≤ gc) (hn : n ≤ c) (ha : c ≠ 0 → ∃ b' o', a = some ⟨b', o', none⟩)
      (hc : g = gc → off + c * sz = C ∧ (c ≠ 0 → a = some ⟨b, o + off, none⟩)) : AVR G w (.slice a n c) (.row k g off sz n)
  | rp {k g off gc b o C b' o' : Nat} (h : G.rw k = some (gc, b, o, C)) (hg : g ≤ gc) (hc : g = gc → b' = b ∧ o' = o + off) : AVR G w (.pointer (some ⟨b', o', none⟩)) (.rp k g off)
  | any {x : Value} (h : x.oneCell' = true) : AVR G w x .any

structure Ext (G : Gh) (w : World) (G' : Gh) (w' : World) : Prop where
  base : G'.base = G.base
  os : w'.os = w.os
  tape : w'.tape = w.tape
  output : w'.output = w.output
  size : w.heap.size ≤ w'.heap.size
  blk : ∀ (b : Nat) c e fr, w.heap[b]? = some (.cells c e fr) → ∃ c', w'.heap[b]? = some (.cells c' e fr) ∧ c'.size = c.size ∧ ∀ o : Nat, (G.tag b o = .no ∨ G.tag b o = .fixd) → c'[o]? = c[o]?
  oth : ∀ (b : Nat) ob, w.heap[b]? = some ob → (∀ c e fr, ob ≠ .cells c e fr) → w'.heap[b]? = some ob
  sealed : ∀ b o, G.tag b o = .fixd → G'.tag b o = .fixd
  no : ∀ b o, b < w.heap.size → G.tag b o = .no → G'.tag b o = .no
  pl : ∀ id b, G.pl id = some b → G'.pl id = some b
  tl : ∀ k m r, G.tl k = some (m, r) → ∃ m' r', G'.tl k = some (m', r') ∧ m ≤ m' ∧ (m' = m → r' = r)
  rw : ∀ k m r, G.rw k = some (m, r) → ∃ m' r', G'.rw k = some (m', r') ∧ m ≤ m' ∧ (m' = m → r' = r)

theorem Ext.refl (G : Gh) (w : World) : Ext G w G w :=
  ⟨rfl, rfl, rfl, rfl, Nat.le_refl _, fun _ c _ _ h => ⟨c, h, rfl, fun _ _ => rfl⟩, fun _ _ h _ => h, fun _ _ h => h, fun _ _ _ h => h, fun _ _ h => h, fun _ m r h => ⟨m, r, h, Nat.le_refl _, fun _ => rfl⟩, fun _ m r h => ⟨m, r, h, Nat.le_refl _, fun _ => rfl⟩⟩

theorem Ext.trans {G1 G2 G3 : Gh} {w1 w2 w3 : World} (h : Ext G1 w1 G2 w2) (k : Ext G2 w2 G3 w3) : Ext G1 w1 G3 w3 := by
  refine ⟨k.base.trans h.base, k.os.trans h.os, k.tape.trans h.tape, k.output.trans h.output, Nat.le_trans h.size k.size, ?_, ?_, fun b o hs => k.sealed _ _ (h.sealed _ _ hs),
    fun b o hb hn => k.no _ _ (Nat.lt_of_lt_of_le hb h.size) (h.no _ _ hb hn), fun id b hp => k.pl _ _ (h.pl _ _ hp), ?_, ?_⟩
  · intro b c e fr hb
    obtain ⟨c2, h2, hs2, he2⟩ := h.blk b c e fr hb
    obtain ⟨c3, h3, hs3, he3⟩ := k.blk b c2 e fr h2
    refine ⟨c3, h3, hs3.trans hs2, fun o ho => ?_⟩
    have hlt : b < w1.heap.size := (Array.getElem?_eq_some_iff.1 hb).1
    rw [he3 o (ho.imp (fun x => h.no _ _ hlt x) (fun x => h.sealed _ _ x)), he2 o ho]
  · intro b ob hb hne
    exact k.oth b ob (h.oth b ob hb hne) hne
  · intro i m r hi
    obtain ⟨m2, r2, h2, hm2, hr2⟩ := h.tl i m r hi
    obtain ⟨m3, r3, h3, hm3, hr3⟩ := k.tl i m2 r2 h2
    refine ⟨m3, r3, h3, Nat.le_trans hm2 hm3, fun e => ?_⟩
    have e2 : m2 = m := by omega
    rw [hr3 (by omega), hr2 e2]
  · intro i m r hi
    obtain ⟨m2, r2, h2, hm2, hr2⟩ := h.rw i m r hi
    obtain ⟨m3, r3, h3, hm3, hr3⟩ := k.rw i m2 r2 h2
    refine ⟨m3, r3, h3, Nat.le_trans hm2 hm3, fun e => ?_⟩
    have e2 : m2 = m := by omega
    rw [hr3 (by omega), hr2 e2]

theorem cell_heap {w : World} {b o : Nat} {x : Value} (h : w.cell? ⟨b, o, none⟩ = some x) : ∃ c e fr, w.heap[b]? = some (.cells c e fr) ∧ c[o]? = some x := by
  unfold World.cell? at h
  split at h
  · rename_i c e fr hb
    exact ⟨c, e, fr, hb, by simpa using h⟩
  · cases h

theorem heap_cell {w : World} {b o : Nat} {c : Array Value} {e : TypeId} {fr : Nat × Nat} (h : w.heap[b]? = some (.cells c e fr)) : w.cell? ⟨b, o, none⟩ = c[o]? := by
  simp [World.cell?, h]

theorem Ext.cell {G G' : Gh} {w w' : World} (h : Ext G w G' w') {b o : Nat} {x : Value} (hs : G.tag b o = .fixd) (hc : w.cell? ⟨b, o, none⟩ = some x) : w'.cell? ⟨b, o, none⟩ = some x := by
  obtain ⟨c, e, fr, hb, hx⟩ := cell_heap hc
  obtain ⟨c', hb', _, he⟩ := h.blk b c e fr hb
  rw [heap_cell hb', he o (.inr hs), hx]

theorem TailOk.mono {G G' : Gh} {w w' : World} (h : Ext G w G' w') {t : Tail} {a : Option Addr} {n c sz : Nat} (ht : TailOk G t a n c sz) : TailOk G' t a n c sz := by
  cases t with
  | shut => trivial
  | full => exact ht
  | own k =>
    obtain ⟨m, r, hk, hn, hr⟩ := ht
    obtain ⟨m', r', hk', hm, hr'⟩ := h.tl k m r hk
    refine ⟨m', r', hk', Nat.le_trans hn hm, fun e => ?_⟩
    have e1 : n = m := by omega
    rw [hr' (by omega)]
    exact hr e1

theorem AVR.mono {G G' : Gh} {w w' : World} (hE : Ext G w G' w') {x : Value} {a : AV} (h : AVR G w x a) : AVR G' w' x a := by
  induction h with
  | v h => exact .v h
  | agg hl _ ih => exact .agg hl ih
  | tup hl _ ih => exact .tup hl ih
  | sl0 ht => exact .sl0 (ht.mono hE)
  | sl xs hl hn hc hs hx _ ht ih =>
    refine .sl xs hl hn hc (fun j hj => hE.sealed _ _ (hs j hj)) (fun j x hj => ⟨hE.cell (hs j ?_) (hx j x hj).1, (hx j x hj).2⟩) ih (ht.mono hE)
    have := (List.getElem?_eq_some_iff.1 hj).1; omega
  | ep xs hl hs hx _ ih =>
    refine .ep xs hl (fun j hj => hE.sealed _ _ (hs j hj)) (fun j x hj => ⟨hE.cell (hs j ?_) (hx j x hj).1, (hx j x hj).2⟩) ih
    have := (List.getElem?_eq_some_iff.1 hj).1; omega
  | ptr h => exact .ptr (hE.pl _ _ h)
  | bs h hc => exact .bs (hE.pl _ _ h) hc
  | fn hl _ ih => exact .fn hl ih
  | row h hg hn ha hc =>
    obtain ⟨g', p', h', hle, he⟩ := hE.rw _ _ _ h
    obtain ⟨b', o', C'⟩ := p'
    refine .row h' (Nat.le_trans hg hle) hn ha (fun e => ?_)
    have := he (by omega)
    cases this
    exact hc (by omega)
  | rp h hg hc =>
    obtain ⟨g', p', h', hle, he⟩ := hE.rw _ _ _ h
    obtain ⟨b', o', C'⟩ := p'
    refine .rp h' (Nat.le_trans hg hle) (fun e => ?_)
    have := he (by omega)
    cases this
    exact hc (by omega)
  | any h => exact .any h

def RowOk (G : Gh) (w : World) (k : Nat) (r : RowSt) (b o C : Nat) : Prop :=
  r.cells.length ≤ C ∧ (∀ s, r.spare = some s → r.cells.length + s = C) ∧
    (0 < C → ∃ c e, w.heap[b]? = some (.cells c e (0, 0)) ∧ o + C ≤ c.size ∧ (∀ j, j < C → G.tag b (o + j) = .row k) ∧ (∀ (j : Nat) x, j < C → c[o + j]? = some x → x.oneCell' = true) ∧
      ∀ (j : Nat) x a, c[o + j]? = some x → r.cells[j]? = some a → AVR G w x a)

structure RelS (G : Gh) (w : World) (σ : St) : Prop where
  obj : ∀ id b, G.pl id = some b → ∃ c e cs, σ.objs[id]? = some cs ∧ w.heap[b]? = some (.cells c e (0, 0)) ∧ c.size = cs.length ∧ (∀ j, j < c.size → G.tag b j = .obj id) ∧
    ∀ (j : Nat) x a, c[j]? = some x → cs[j]? = some a → AVR G w x a
  inj : ∀ i j b, G.pl i = some b → G.pl j = some b → i = j
  tok : ∀ k m b lo hi, G.tl k = some (m, b, lo, hi) → σ.toks[k]? = some m ∧ (lo < hi → ∃ c e, w.heap[b]? = some (.cells c e (0, 0)) ∧ hi ≤ c.size ∧ ∀ j, lo ≤ j → j < hi → G.tag b j = .tail k)
  fresh : ∀ b o, w.heap.size ≤ b → G.tag b o = .no
  gl : ∀ g cs, σ.gl g = some cs → AVR G w (.pointer (some ⟨g, 0, none⟩)) (.ep cs)
  tot : ∀ id, id < σ.objs.length → ∃ b, G.pl id = some b
  totk : ∀ k, k < σ.toks.length → ∃ p, G.tl k = some p
  row : ∀ k gc b o C, G.rw k = some (gc, b, o, C) → ∃ r, σ.rows[k]? = some r ∧ r.gen = gc ∧ RowOk G w k r b o C
  totr : ∀ k, k < σ.rows.length → ∃ p, G.rw k = some p

theorem RelS.lift {G G' : Gh} {w w' : World} {σ : St} (hS : RelS G w σ) (hE : Ext G w G' w') (hrw : G'.rw = G.rw)
    (hb : ∀ k gc b o C, G.rw k = some (gc, b, o, C) → 0 < C → ∀ c e, w.heap[b]? = some (.cells c e (0, 0)) → o + C ≤ c.size → (∀ j, j < C → G.tag b (o + j) = .row k) →
      ∃ c', w'.heap[b]? = some (.cells c' e (0, 0)) ∧ c'.size = c.size ∧ (∀ j, j < C → c'[o + j]? = c[o + j]?) ∧ ∀ j, j < C → G'.tag b (o + j) = .row k) :
    (∀ k gc b o C, G'.rw k = some (gc, b, o, C) → ∃ r, σ.rows[k]? = some r ∧ r.gen = gc ∧ RowOk G' w' k r b o C) := by
  intro k gc b o C h
  rw [hrw] at h
  obtain ⟨r, h1, h2, h3, h4, h5⟩ := hS.row k gc b o C h
  refine ⟨r, h1, h2, h3, h4, fun hC => ?_⟩
  obtain ⟨c, e, g1, g2, g3, g4, g5⟩ := h5 hC
  obtain ⟨c', g6, g7, g8, g9⟩ := hb k gc b o C h hC c e g1 g2 g3
  refine ⟨c', e, g6, by omega, g9, fun j x hj hx => g4 j x hj (by rw [← g8 j hj]; exact hx), fun j x a hx ha => (g5 j x a ?_ ha).mono hE⟩
  rw [← g8 j (by have := (List.getElem?_eq_some_iff.1 ha).1; omega)]; exact hx

def Marks (B : Nat) (w : World) (l : List Deferred) : Prop :=
  ∀ d, d ∈ l → ∃ D, d = { target := .collected D, args := #[] } ∧ B ≤ D ∧ w.heap[D]? = some (.deferred (some []))

theorem Marks.mono {G G' : Gh} {w w' : World} {l : List Deferred} (h : Marks G.base w l) (hE : Ext G w G' w') : Marks G'.base w' l := fun d hd => by
  obtain ⟨D, h1, h2, h3⟩ := h d hd
  exact ⟨D, h1, by rw [hE.base]; exact h2, hE.oth D _ h3 (fun c e fr he => by cases he)⟩

theorem Marks.nil (B : Nat) (w : World) : Marks B w [] := fun d hd => by cases hd

structure Rel (N : Nat) (G : Gh) (w : World) (ρ : Nat → AV) (σ : St) (a : Act) : Prop where
  s : RelS G w σ
  defers : Marks G.base w a.defers ∧ a.defers.Nodup ∧ G.base ≤ w.heap.size
  size : a.tmps.size = N
  env : ∀ i, AVR G w (a.tmps.getD i undef) (ρ i)

def View (G : Gh) (w : World) (b o : Nat) (cs : List AV) : Prop :=
  ∃ xs : List Value, xs.length = cs.length ∧ (∀ (j : Nat) x, xs[j]? = some x → w.cell? ⟨b, o + j, none⟩ = some x) ∧ ∀ (j : Nat) x a, xs[j]? = some x → cs[j]? = some a → AVR G w x a

theorem View.drop {G : Gh} {w : World} {b o : Nat} {cs : List AV} (h : View G w b o cs) (k : Nat) : View G w b (o + k) (cs.drop k) := by
  obtain ⟨xs, hl, hx, hr⟩ := h
  refine ⟨xs.drop k, by simp [hl], fun j x hj => ?_, fun j x a hj ha => ?_⟩
  · rw [List.getElem?_drop] at hj
    rw [Nat.add_assoc]; exact hx _ _ hj
  · rw [List.getElem?_drop] at hj ha
    exact hr _ _ _ hj ha

theorem View.take {G : Gh} {w : World} {b o : Nat} {cs : List AV} (h : View G w b o cs) (k : Nat) : View G w b o (cs.take k) := by
  obtain ⟨xs, hl, hx, hr⟩ := h
  refine ⟨xs.take k, by simp [hl], fun j x hj => ?_, fun j x a hj ha => ?_⟩
  · rw [List.getElem?_take] at hj
    split at hj
    · exact hx _ _ hj
    · cases hj
  · rw [List.getElem?_take] at hj ha
    split at hj
    · simp_all
      exact hr _ _ _ hj ha
    · cases hj

theorem view_ep {G : Gh} {w : World} {x : Value} {cs : List AV} (h : AVR G w x (.ep cs)) : ∃ b o, x = .pointer (some ⟨b, o, none⟩) ∧ View G w b o cs := by
  cases h with
  | ep xs hl hs hx h => exact ⟨_, _, rfl, xs, hl, fun j x hj => (hx j x hj).1, h⟩

theorem view_obj {G : Gh} {w : World} {σ : St} (hS : RelS G w σ) {id b : Nat} {cs : List AV} (hp : G.pl id = some b) (hc : σ.objs[id]? = some cs) : View G w b 0 cs := by
  obtain ⟨c, e, cs', h1, h2, h3, _, h5⟩ := hS.obj id b hp
  rw [hc] at h1
  cases h1
  refine ⟨c.toList, by simpa using h3, fun j x hj => ?_, fun j x a hj ha => h5 j x a (by simpa using hj) ha⟩
  rw [heap_cell h2]; simpa using hj

theorem ti_some {P : Program} {t : TypeId} {i : TI} (h : ti P t = some i) : ∃ d j, P.underlying t = some d ∧ P.info? t = some j ∧ j.zero = some i.zero ∧ i.agg = descAgg d ∧ i.size = j.size ∧ i.bytes = j.bytes := by
  unfold ti at h
  split at h
  · rename_i d j hd hj
    split at h
    · rename_i z hz
      cases h
      exact ⟨d, j, hd, hj, hz, rfl, rfl, rfl⟩
    · cases h
  · cases h

theorem run_isAgg {P : Program} {t : TypeId} {d : TypeDesc} (w : World) (h : P.underlying t = some d) : (isAgg t).run P w = .ok (descAgg d) w := by
  unfold isAgg
  rw [Sem.run_bind, run_underlying h]
  simp only [Result.andThen_ok]
  cases d <;> rfl

theorem run_sizeOf {P : Program} {t : TypeId} {j : TypeInfo} (w : World) (h : P.info? t = some j) : (sizeOf t).run P w = .ok j.size w := by
  simp [sizeOf, typeInfo, h]

theorem run_load_view {P : Program} {G : Gh} {w : World} {t : TypeId} {b o : Nat} {cs : List AV} {av : AV} (hv : View G w b o cs) (h : partA P t cs 0 = some av) :
    ∃ x, (loadVar t ⟨b, o, none⟩).run P w = .ok x w ∧ AVR G w x av := by
  unfold partA at h
  split at h
  · rename_i i hi
    obtain ⟨d, j, hd, hj, hz, hag, hsz, hby⟩ := ti_some hi
    obtain ⟨xs, hl, hx, hr⟩ := hv
    unfold loadVar
    rw [Sem.run_bind, run_isAgg w hd]
    simp only [Result.andThen_ok]
    by_cases ha : descAgg d = true
    · rw [hag, ha] at h
      simp only [if_true, List.drop_zero] at h
      split at h
      · rename_i hle
        cases h
        simp only [Nat.zero_add] at hle
        have hc := run_loadCells_list (P := P) (w := w) ⟨b, o, none⟩ (xs.take i.size) (fun k v hk => by
          rw [List.getElem?_take] at hk
          split at hk
          · have := hx k v hk
            unfold Addr.add
            split
            · subst_vars; simpa using this
            · exact this
          · cases hk)
        have hlen : (xs.take i.size).length = j.size := by rw [List.length_take, hl, ← hsz]; omega
        rw [hlen] at hc
        rw [if_pos ha]
        simp only [Sem.run_bind, run_sizeOf w hj, Result.andThen_ok, hc, Sem.run_pure]
        refine ⟨_, rfl, .agg (by simp; omega) (fun k x a hk hka => ?_)⟩
        simp only [List.getElem?_toArray, List.getElem?_take] at hk
        rw [List.getElem?_take] at hka
        split at hk
        · simp_all
          exact hr _ _ _ hk hka.2
        · cases hk
      · cases h
    · rw [hag, if_neg (by simpa using ha)] at h
      rw [if_neg ha, run_load]
      have h0 : 0 < xs.length := by rw [hl]; exact (List.getElem?_eq_some_iff.1 h).1
      have hx0 := hx 0 _ (List.getElem?_eq_getElem h0)
      simp only [Nat.add_zero] at hx0
      rw [hx0]
      exact ⟨_, rfl, hr 0 _ _ (List.getElem?_eq_getElem h0) h⟩
  · cases h

theorem partA_drop {P : Program} {t : TypeId} {cs : List AV} {off : Nat} {av : AV} (h : partA P t cs off = some av) : partA P t (cs.drop off) 0 = some av := by
  unfold partA at h ⊢
  split at h
  · rename_i i hi
    split at h
    · split at h
      · rename_i ha hle
        rw [if_pos ha, if_pos (by simp; omega)]
        simpa using h
      · cases h
    · rename_i ha
      rw [if_neg ha]
      simpa using h
  · cases h

theorem loadA_sound {P : Program} {G : Gh} {w : World} {σ : St} {t : TypeId} {x : Value} {a av : AV} (hS : RelS G w σ) (hx : AVR G w x a) (h : loadA P t a σ = some av) :
    ∃ y, (Instr.loadAt t x).run P w = .ok y w ∧ AVR G w y av := by
  unfold loadA at h
  split at h
  · rename_i cs
    obtain ⟨b, o, rfl, hv⟩ := view_ep hx
    simpa [Instr.loadAt, Instr.sureAddr] using run_load_view hv h
  · rename_i id off
    split at h
    · rename_i cs hcs
      cases hx with
      | ptr hp =>
        have hv := (view_obj hS hp hcs).drop off
        rw [Nat.zero_add] at hv
        simpa [Instr.loadAt, Instr.sureAddr] using run_load_view hv (partA_drop h)
    · cases h
  · rename_i k g off
    split at h
    · rename_i r i hr hi
      split at h
      · rename_i hg
        obtain ⟨hg, hpos⟩ := hg
        cases hx with
        | rp hk hle hc =>
          rename_i gc b o C b' o'
          obtain ⟨r', h1, h2, h3, _, h5⟩ := hS.row _ _ _ _ _ hk
          rw [hr] at h1; cases h1
          obtain ⟨rfl, rfl⟩ := hc (by omega)
          have hC : 0 < C := by
            have h0 : r.cells ≠ [] := by
              intro e
              rw [e] at h
              unfold partA at h
              rw [hi] at h
              simp only at h
              split at h
              · split at h
                · rename_i hle2
                  simp at hle2; omega
                · cases h
              · simp at h
            have := List.length_pos_iff.2 h0
            omega
          obtain ⟨c, e, g1, g2, g3, g4, g5⟩ := h5 hC
          have hv : View G w b' o r.cells := by
            refine ⟨(c.toList.drop o).take r.cells.length, by simp; omega, fun j x hj => ?_, fun j x a hj ha => ?_⟩
            · rw [List.getElem?_take] at hj
              split at hj
              · rw [List.getElem?_drop] at hj
                rw [heap_cell g1]; simpa using hj
              · cases hj
            · rw [List.getElem?_take] at hj
              split at hj
              · rw [List.getElem?_drop] at hj
                exact g5 j x a (by simpa using hj) ha
              · cases hj
          simpa [Instr.loadAt, Instr.sureAddr] using run_load_view (hv.drop off) (partA_drop h)
      · cases h
    · cases h
  · cases h
theorem AVR.cells_eq {G : Gh} {w : World} {x : Value} {a : AV} (h : AVR G w x a) : x.cells.size = a.cells.length ∧ ∀ (j : Nat) y b, x.cells[j]? = some y → a.cells[j]? = some b → AVR G w y b := by
  have one : ∀ (x : Value) (a : AV), AVR G w x a → x.cells = #[x] → a.cells = [a] → x.cells.size = a.cells.length ∧ ∀ (j : Nat) y b, x.cells[j]? = some y → a.cells[j]? = some b → AVR G w y b := by
    intro x a h e1 e2
    rw [e1, e2]
    refine ⟨rfl, fun j y b hj hb => ?_⟩
    match j with
    | 0 => simp at hj hb; subst hj; subst hb; exact h
    | j + 1 => simp at hb
  cases h with
  | agg hl h => exact ⟨hl, h⟩
  | v h =>
    refine one _ _ (.v h) ?_ rfl
    cases x <;> first | rfl | simp [plain] at h
  | tup hl h => exact one _ _ (.tup hl h) rfl rfl
  | sl0 ht => exact one _ _ (.sl0 ht) rfl rfl
  | sl xs hl hn hc hs hx h ht => exact one _ _ (.sl xs hl hn hc hs hx h ht) rfl rfl
  | ep xs hl hs hx h => exact one _ _ (.ep xs hl hs hx h) rfl rfl
  | ptr h => exact one _ _ (.ptr h) rfl rfl
  | bs h hc => exact one _ _ (.bs h hc) rfl rfl
  | fn hl h => exact one _ _ (.fn hl h) rfl rfl
  | row h hg hn ha hc => exact one _ _ (.row h hg hn ha hc) rfl rfl
  | rp h hg hc => exact one _ _ (.rp h hg hc) rfl rfl
  | any h =>
    refine one _ _ (.any h) ?_ rfl
    cases x <;> first | rfl | simp [Value.oneCell'] at h

theorem AVR.oneCell {G : Gh} {w : World} {x : Value} {a : AV} (h : AVR G w x a) (hc : a.isCell = true) : x.oneCell' = true := by
  cases h with
  | v h => cases x <;> first | rfl | simp [AV.isCell] at hc
  | agg => simp [AV.isCell] at hc
  | tup => simp [AV.isCell] at hc
  | any h => exact h
  | _ => rfl

theorem ext_setRow {G : Gh} {w : World} {b : Nat} {c c' : Array Value} {e : TypeId} {fr : Nat × Nat} (hb : w.heap[b]? = some (.cells c e fr)) (hs : c'.size = c.size)
    (hk : ∀ o : Nat, (G.tag b o = .no ∨ G.tag b o = .fixd) → c'[o]? = c[o]?) : Ext G w G (w.setRow b c') := by
  refine ⟨rfl, rfl, rfl, rfl, by simp, ?_, ?_, fun _ _ h => h, fun _ _ _ h => h, fun _ _ h => h, fun _ m r h => ⟨m, r, h, Nat.le_refl _, fun _ => rfl⟩, fun _ m r h => ⟨m, r, h, Nat.le_refl _, fun _ => rfl⟩⟩
  · intro b2 c2 e2 fr2 h2
    by_cases hbb : b2 = b
    · subst hbb
      rw [hb] at h2
      cases h2
      exact ⟨c', setRow_heap w b2 c c' e fr hb, hs, hk⟩
    · exact ⟨c2, by rw [setRow_other w b b2 c' hbb]; exact h2, rfl, fun _ _ => rfl⟩
  · intro b2 ob h2 hne
    by_cases hbb : b2 = b
    · subst hbb
      rw [hb] at h2
      cases h2
      exact (hne _ _ _ rfl).elim
    · rw [setRow_other w b b2 c' hbb]; exact h2

theorem splice_length (cs : List AV) (off : Nat) (vs : List AV) (h : off + vs.length ≤ cs.length) : (splice cs off vs).length = cs.length := by
  simp [splice]; omega

theorem splice_get {α : Type} (cs : List α) (off : Nat) (vs : List α) (h : off + vs.length ≤ cs.length) (j : Nat) :
    (cs.take off ++ vs ++ cs.drop (off + vs.length))[j]? = if off ≤ j ∧ j < off + vs.length then vs[j - off]? else cs[j]? := by
  by_cases h1 : j < off
  · rw [if_neg (by omega), List.append_assoc, List.getElem?_append_left (by simp; omega), List.getElem?_take, if_pos h1]
  · by_cases h2 : j < off + vs.length
    · rw [if_pos (by omega), List.getElem?_append_left (by simp; omega), List.getElem?_append_right (by simp; omega)]
      congr 1; simp; omega
    · rw [if_neg (by omega), List.getElem?_append_right (by simp; omega), List.getElem?_drop]
      congr 1; simp; omega

theorem run_storeVar_obj {P : Program} {w : World} {t : TypeId} {j : TypeInfo} {b off : Nat} {c : Array Value} {e : TypeId} {x : Value} (hj : P.info? t = some j) (hb : w.heap[b]? = some (.cells c e (0, 0)))
    (hsz : x.cells.size = j.size) (hfit : off + j.size ≤ c.size) (h1 : ∀ v ∈ x.cells.toList, v.oneCell' = true) :
    (storeVar t ⟨b, off, none⟩ x).run P w = .ok () (w.setRow b (c.toList.take off ++ x.cells.toList ++ c.toList.drop (off + x.cells.size)).toArray) := by
  unfold storeVar
  have hst := run_storeCells_at P b off e x.cells.toList 0 c w hb (by simp [hsz]; omega) h1
  simp only [Nat.add_zero, Array.length_toList] at hst
  simp only [Sem.run_bind, run_sizeOf w hj, Result.andThen_ok, hsz, ne_eq, not_true_eq_false, if_false]
  rw [hsz] at hst
  exact hst

def Gh.turnRow (G : Gh) (k g b o C : Nat) : Gh := { G with rw := fun i => if i = k then some (g, b, o, C) else G.rw i }

theorem turnRow_self {G : Gh} {k g b o C : Nat} (h : G.rw k = some (g, b, o, C)) : G.turnRow k g b o C = G := by
  unfold Gh.turnRow
  have : (fun i => if i = k then some (g, b, o, C) else G.rw i) = G.rw := by
    funext i
    by_cases hi : i = k
    · subst hi; rw [if_pos rfl, h]
    · rw [if_neg hi]
  rw [this]

theorem ext_turnRow {G : Gh} {w : World} {k gc b o C g' b' o' C' : Nat} (hk : G.rw k = some (gc, b, o, C)) (hg : (g' = gc ∧ b' = b ∧ o' = o ∧ C' = C) ∨ gc < g') : Ext G w (G.turnRow k g' b' o' C') w := by
  refine ⟨rfl, rfl, rfl, rfl, Nat.le_refl _, fun _ c _ _ h => ⟨c, h, rfl, fun _ _ => rfl⟩, fun _ _ h _ => h, fun _ _ h => h, fun _ _ _ h => h, fun _ _ h => h, fun _ m r h => ⟨m, r, h, Nat.le_refl _, fun _ => rfl⟩, fun i m r hi => ?_⟩
  show ∃ m' r', (if i = k then some (g', b', o', C') else G.rw i) = some (m', r') ∧ _
  by_cases h : i = k
  · subst h
    rw [if_pos rfl]
    rw [hk] at hi
    cases hi
    rcases hg with ⟨rfl, rfl, rfl, rfl⟩ | hg
    · exact ⟨_, _, rfl, Nat.le_refl _, fun _ => rfl⟩
    · exact ⟨_, _, rfl, by omega, fun e => by omega⟩
  · rw [if_neg h]
    exact ⟨m, r, hi, Nat.le_refl _, fun _ => rfl⟩

theorem row_turn {G : Gh} {w w' : World} {σ : St} (hS : RelS G w σ) {k gc b o C g' o' C' : Nat} {r' : RowSt} (hk : G.rw k = some (gc, b, o, C))
    (hg : (g' = gc ∧ o' = o ∧ C' = C) ∨ gc < g') (ho : o ≤ o') (hC' : o' + C' ≤ o + C) (hr : r'.gen = g') (hl : r'.cells.length ≤ C') (hsp : ∀ s, r'.spare = some s → r'.cells.length + s = C')
    (hw : (w' = w ∧ (0 < C' → ∀ c e, w.heap[b]? = some (.cells c e (0, 0)) → ∀ (j : Nat) x a, c[o' + j]? = some x → r'.cells[j]? = some a → AVR G w x a)) ∨
      ∃ c c' e, w' = w.setRow b c' ∧ w.heap[b]? = some (.cells c e (0, 0)) ∧ c'.size = c.size ∧ (∀ q : Nat, ¬ (o ≤ q ∧ q < o + C) → c'[q]? = c[q]?) ∧ (∀ (q : Nat) x, o ≤ q → q < o + C → c'[q]? = some x → x.oneCell' = true) ∧
        (∀ (j : Nat) x a, c'[o' + j]? = some x → r'.cells[j]? = some a → AVR G w x a)) :
    Ext G w (G.turnRow k g' b o' C') w' ∧ RelS (G.turnRow k g' b o' C') w' { σ with rows := σ.rows.set k r' } := by
  obtain ⟨r, hr1, hr2, hr3, hr4, hr5⟩ := hS.row k gc b o C hk
  have hklt : k < σ.rows.length := (List.getElem?_eq_some_iff.1 hr1).1
  -- the block
  obtain ⟨hE1, hblk, hoth⟩ : Ext G w G w' ∧ (0 < C → ∃ c' e, w'.heap[b]? = some (.cells c' e (0, 0)) ∧ o + C ≤ c'.size ∧ (∀ j, j < C → G.tag b (o + j) = .row k) ∧ (∀ (q : Nat) x, o ≤ q → q < o + C → c'[q]? = some x → x.oneCell' = true) ∧
      (0 < C' → ∀ (j : Nat) x a, c'[o' + j]? = some x → r'.cells[j]? = some a → AVR G w x a)) ∧ (∀ b2, b2 ≠ b → w'.heap[b2]? = w.heap[b2]?) := by
    rcases hw with ⟨rfl, hrel⟩ | ⟨c, c', e, rfl, hb, hs, hq, hone, hrel⟩
    · refine ⟨.refl _ _, fun hC => ?_, fun _ _ => rfl⟩
      obtain ⟨c, e, g1, g2, g3, g4, g5⟩ := hr5 hC
      exact ⟨c, e, g1, g2, g3, fun q x h1 h2 hx => g4 (q - o) x (by omega) (by rw [← hx]; congr 1; omega), fun hC' => hrel hC' c e g1⟩
    · by_cases hC : 0 < C
      · obtain ⟨c0, e0, g1, g2, g3, g4, g5⟩ := hr5 hC
        rw [hb] at g1; cases g1
        refine ⟨ext_setRow hb hs (fun q hq2 => hq q (fun h => ?_)), fun _ => ⟨c', e, setRow_heap w b c c' e (0, 0) hb, by omega, g3, hone, fun _ => hrel⟩, fun b2 h2 => setRow_other w b b2 c' h2⟩
        have := g3 (q - o) (by omega)
        rw [show o + (q - o) = q by omega] at this
        rw [this] at hq2
        rcases hq2 with h | h <;> cases h
      · refine ⟨ext_setRow hb hs (fun q _ => hq q (by omega)), fun h => absurd h hC, fun b2 h2 => setRow_other w b b2 c' h2⟩
  have hg2 : (g' = gc ∧ b = b ∧ o' = o ∧ C' = C) ∨ gc < g' := hg.imp (fun h => ⟨h.1, rfl, h.2⟩) id
  have hE2 := ext_turnRow (w := w') hk hg2
  have hE := hE1.trans hE2
  have hsz : w'.heap.size = w.heap.size := by
    rcases hw with ⟨rfl, _⟩ | ⟨c, c', e, rfl, _⟩
    · rfl
    · simp
  refine ⟨hE, ⟨?_, hS.inj, ?_, fun b2 q hb2 => hS.fresh b2 q (by rw [← hsz]; exact hb2), fun g cs hgl => (hS.gl g cs hgl).mono hE, hS.tot, hS.totk, ?_, ?_⟩⟩
  · intro id b2 hp
    obtain ⟨c2, e2, cs2, h1, h2, h3, h4, h5⟩ := hS.obj id b2 hp
    refine ⟨c2, e2, cs2, h1, ?_, h3, h4, fun j x a hx ha => (h5 j x a hx ha).mono hE⟩
    by_cases hb2 : b2 = b
    · subst hb2
      rcases hw with ⟨rfl, _⟩ | ⟨c, c', e, rfl, hb, hs, hq, _⟩
      · exact h2
      · rw [hb] at h2; cases h2
        rw [setRow_heap w b2 _ c' _ _ hb]
        congr 2
        have : c' = c2 := by
          apply Array.ext_getElem?
          intro q
          refine hq q (fun hqr => ?_)
          have hC : 0 < C := by omega
          obtain ⟨c0, e0, g1, g2, g3, _⟩ := hr5 hC
          rw [hb] at g1; cases g1
          have := g3 (q - o) (by omega)
          rw [show o + (q - o) = q by omega, h4 q (by omega)] at this
          cases this
        rw [this]
    · rw [hoth b2 hb2]; exact h2
  · intro q m b2 lo hi hq
    obtain ⟨t1, t2⟩ := hS.tok q m b2 lo hi hq
    refine ⟨t1, fun hlt => ?_⟩
    obtain ⟨c2, e2, g1, g2, g3⟩ := t2 hlt
    by_cases hb2 : b2 = b
    · subst hb2
      rcases hw with ⟨rfl, _⟩ | ⟨c, c', e, rfl, hb, hs, hq2, _⟩
      · exact ⟨c2, e2, g1, g2, g3⟩
      · rw [hb] at g1; cases g1
        exact ⟨c', e2, setRow_heap w b2 c2 c' e2 (0, 0) hb, by rw [hs]; exact g2, g3⟩
    · exact ⟨c2, e2, by rw [hoth b2 hb2]; exact g1, g2, g3⟩
  · intro i gi bi oi Ci hi
    have hi' : (if i = k then some (g', b, o', C') else G.rw i) = some (gi, bi, oi, Ci) := hi
    by_cases hik : i = k
    · subst hik
      rw [if_pos rfl] at hi'
      cases hi'
      refine ⟨r', by simp [hklt], hr, hl, hsp, fun hC2 => ?_⟩
      obtain ⟨c', e, g1, g2, g3, g4, g5⟩ := hblk (by omega)
      refine ⟨c', e, g1, by omega, fun j hj => ?_, fun j x hj hx => g4 _ x (by omega) (by omega) hx, fun j x a hx ha => (g5 hC2 j x a hx ha).mono hE⟩
      have := g3 (o' - o + j) (by omega)
      rw [show o + (o' - o + j) = o' + j by omega] at this
      exact this
    · rw [if_neg hik] at hi'
      obtain ⟨ri, h1, h2, h3, h4, h5⟩ := hS.row i gi bi oi Ci hi'
      refine ⟨ri, by show (σ.rows.set k r')[i]? = _; rw [List.getElem?_set_ne (Ne.symm hik)]; exact h1, h2, h3, h4, fun hCi => ?_⟩
      obtain ⟨c2, e2, g1, g2, g3, g4, g5⟩ := h5 hCi
      by_cases hbi : bi = b
      · subst hbi
        rcases hw with ⟨rfl, _⟩ | ⟨c, c', e, rfl, hb, hs, hq2, _⟩
        · exact ⟨c2, e2, g1, g2, g3, g4, fun j x a hx ha => (g5 j x a hx ha).mono hE⟩
        · rw [hb] at g1; cases g1
          have hsame : ∀ j, j < Ci → c'[oi + j]? = c2[oi + j]? := fun j hj => by
            refine hq2 _ (fun hqr => ?_)
            obtain ⟨c0, e0, f1, f2, f3, _⟩ := hr5 (by omega)
            have h6 := f3 (oi + j - o) (by omega)
            rw [show o + (oi + j - o) = oi + j by omega, g3 j hj] at h6
            cases h6; exact hik rfl
          refine ⟨c', e2, setRow_heap w bi c2 c' e2 (0, 0) hb, by omega, g3, fun j x hj hx => g4 j x hj (by rw [← hsame j hj]; exact hx), fun j x a hx ha => (g5 j x a ?_ ha).mono hE⟩
          rw [← hsame j (by have := (List.getElem?_eq_some_iff.1 ha).1; omega)]; exact hx
      · exact ⟨c2, e2, by rw [hoth bi hbi]; exact g1, g2, g3, g4, fun j x a hx ha => (g5 j x a hx ha).mono hE⟩
  · intro i hi
    show ∃ p, (if i = k then some (g', b, o', C') else G.rw i) = some p
    by_cases h : i = k
    · rw [if_pos h]; exact ⟨_, rfl⟩
    · rw [if_neg h]; exact hS.totr i (by simpa using hi)

theorem storeA_sound {P : Program} {G : Gh} {w : World} {σ σ' : St} {t : TypeId} {x y : Value} {a v : AV} (hS : RelS G w σ) (hx : AVR G w x a) (hy : AVR G w y v) (h : storeA P t a v σ = some σ') :
    ∃ w', (Instr.storeAt t x y).run P w = .ok () w' ∧ Ext G w G w' ∧ RelS G w' σ' := by
  unfold storeA at h
  split at h
  · rename_i id off
    split at h
    · rename_i cs i hcs hi
      split at h
      · rename_i hcond
        obtain ⟨hl, hfit, hcell⟩ := hcond
        cases h
        cases hx with
        | ptr hp =>
        rename_i b
        obtain ⟨d, j, hd, hj, hz, hag, hsz, hby⟩ := ti_some hi
        obtain ⟨c, e, cs', h1, h2, h3, h4, h5⟩ := hS.obj id b hp
        rw [hcs] at h1
        cases h1
        obtain ⟨hce, hcr⟩ := hy.cells_eq
        have hcell' : ∀ u ∈ y.cells.toList, u.oneCell' = true := by
          intro u hu
          obtain ⟨k, hk, rfl⟩ := List.getElem_of_mem hu
          have hk' : k < v.cells.length := by rw [← hce]; simpa using hk
          refine (hcr k _ _ (by simpa using (List.getElem?_eq_getElem hk)) (List.getElem?_eq_getElem hk')).oneCell ?_
          exact List.all_eq_true.1 hcell _ (List.getElem_mem hk')
        have hrun := run_storeVar_obj (P := P) (t := t) (off := off) hj h2 (by rw [hce, hl, hsz]) (by rw [← hsz, h3]; exact hfit) hcell'
        have hget : ∀ k : Nat, ((c.toList.take off ++ y.cells.toList ++ c.toList.drop (off + y.cells.size)).toArray)[k]? = if off ≤ k ∧ k < off + y.cells.size then y.cells[k - off]? else c[k]? := by
          intro k
          have := splice_get c.toList off y.cells.toList (by simp [hce, hl, h3]; omega) k
          simpa using this
        have hsize : ((c.toList.take off ++ y.cells.toList ++ c.toList.drop (off + y.cells.size)).toArray).size = c.size := by
          simp [hce, hl]; omega
        generalize ((c.toList.take off ++ y.cells.toList ++ c.toList.drop (off + y.cells.size)).toArray) = c' at hrun hget hsize
        have hE : Ext G w G (w.setRow b c') := by
          refine ext_setRow h2 hsize (fun o ho => ?_)
          rw [hget o]
          split
          · have := h4 o (by rw [hce, hl] at *; omega)
            rw [this] at ho
            rcases ho with ho | ho <;> cases ho
          · rfl
        refine ⟨w.setRow b c', by simpa [Instr.storeAt, Instr.sureAddr] using hrun, hE, ?_, hS.inj, ?_, ?_, ?_, fun id2 h2 => hS.tot id2 (by simpa using h2), hS.totk, hS.lift hE rfl (fun k2 gc2 b2 o2 C2 hk2 hC2 c2 e2 hb2 hoc2 ht2 => ?_), hS.totr⟩
        case refine_5 =>
          have hne : b2 ≠ b := by
            intro e3; subst e3
            rw [h2] at hb2; cases hb2
            have h6 := h4 (o2 + 0) (by omega)
            rw [ht2 0 hC2] at h6; cases h6
          exact ⟨c2, by rw [setRow_other w b b2 c' hne]; exact hb2, rfl, fun _ _ => rfl, ht2⟩
        · intro id2 b2 hp2
          by_cases hb2 : b2 = b
          · subst hb2
            have hid := hS.inj _ _ _ hp hp2
            subst hid
            refine ⟨c', e, splice cs off v.cells, ?_, setRow_heap w b2 c c' e (0, 0) h2, by rw [splice_length _ _ _ (by omega), hsize, h3], fun j hj => h4 j (by rw [← hsize]; exact hj), ?_⟩
            · have hlt := (List.getElem?_eq_some_iff.1 hcs).1
              simp [hlt]
            · intro k u av hu hav
              rw [hget k] at hu
              have hsp := splice_get cs off v.cells (by omega) k
              unfold splice at hav
              rw [hsp] at hav
              rw [hce] at hu
              split at hu
              · rename_i hr
                rw [if_pos hr] at hav
                exact (hcr _ _ _ hu hav).mono hE
              · rename_i hr
                rw [if_neg hr] at hav
                exact (h5 _ _ _ hu hav).mono hE
          · obtain ⟨c2, e2, cs2, g1, g2, g3, g4, g5⟩ := hS.obj id2 b2 hp2
            refine ⟨c2, e2, cs2, ?_, by rw [setRow_other w b b2 c' hb2]; exact g2, g3, g4, fun k u av hu hav => (g5 k u av hu hav).mono hE⟩
            have hne : id2 ≠ id := fun e => by subst e; rw [hp] at hp2; cases hp2; exact hb2 rfl
            show (σ.objs.set id _)[id2]? = some cs2
            rw [List.getElem?_set_ne (Ne.symm hne)]; exact g1
        · intro k m b2 lo hi' hk
          obtain ⟨t1, t2⟩ := hS.tok k m b2 lo hi' hk
          refine ⟨t1, fun hlt => ?_⟩
          obtain ⟨c2, e2, g1, g2, g3⟩ := t2 hlt
          by_cases hb2 : b2 = b
          · subst hb2
            rw [h2] at g1
            cases g1
            exact ⟨c', e, setRow_heap w b2 c c' e (0, 0) h2, by rw [hsize]; exact g2, g3⟩
          · exact ⟨c2, e2, by rw [setRow_other w b b2 c' hb2]; exact g1, g2, g3⟩
        · intro b2 o ho
          exact hS.fresh b2 o (by simpa using ho)
        · intro g cs2 hg
          exact (hS.gl g cs2 hg).mono hE
      · cases h
    · cases h
  · rename_i k g off
    split at h
    · rename_i r i hr hi
      split at h
      · rename_i hcond
        obtain ⟨hg, hl, hfit, hcell⟩ := hcond
        cases h
        cases hx with
        | rp hk hle hc =>
        rename_i gc b o C b' o'
        obtain ⟨d, j, hd, hj, hz, hag, hsz, hby⟩ := ti_some hi
        obtain ⟨r2, h1, h2, h3, h4, h5⟩ := hS.row k gc b o C hk
        rw [hr] at h1
        cases h1
        obtain ⟨rfl, rfl⟩ := hc (by omega)
        obtain ⟨hce, hcr⟩ := hy.cells_eq
        have hcell' : ∀ u ∈ y.cells.toList, u.oneCell' = true := by
          intro u hu
          obtain ⟨q, hq, rfl⟩ := List.getElem_of_mem hu
          have hq' : q < v.cells.length := by rw [← hce]; simpa using hq
          refine (hcr q _ _ (by simpa using (List.getElem?_eq_getElem hq)) (List.getElem?_eq_getElem hq')).oneCell ?_
          exact List.all_eq_true.1 hcell _ (List.getElem_mem hq')
        by_cases h0 : i.size = 0
        · have hsp : splice r.cells off v.cells = r.cells := by
            have : v.cells = [] := List.eq_nil_of_length_eq_zero (by omega)
            rw [this]; simp [splice]
          have hyc : y.cells = #[] := Array.eq_empty_of_size_eq_zero (by omega)
          have hset : ({ σ with rows := σ.rows.set k { r with cells := splice r.cells off v.cells } } : St) = σ := by
            rw [hsp]
            have : σ.rows.set k r = σ.rows := by
              apply List.ext_getElem?
              intro q
              by_cases hq : k = q
              · subst hq; rw [List.getElem?_set_self (List.getElem?_eq_some_iff.1 hr).1, hr]
              · rw [List.getElem?_set_ne hq]
            show ({ σ with rows := σ.rows.set k r } : St) = σ
            rw [this]
          rw [hset]
          refine ⟨w, ?_, .refl _ _, hS⟩; simp only [Instr.storeAt, Instr.sureAddr, storeVar, Sem.run_bind, Sem.run_pure, Result.andThen_ok, run_sizeOf w hj, hyc]
          simp [storeCells, ← hsz, h0]
        · obtain ⟨c, e, g1, g2, g3, g4, g5⟩ := h5 (by omega)
          have hrun := run_storeVar_obj (P := P) (t := t) (off := o + off) hj g1 (by rw [hce, hl, hsz]) (by rw [← hsz]; omega) hcell'
          have hget : ∀ q : Nat, ((c.toList.take (o + off) ++ y.cells.toList ++ c.toList.drop (o + off + y.cells.size)).toArray)[q]? = if o + off ≤ q ∧ q < o + off + y.cells.size then y.cells[q - (o + off)]? else c[q]? := by
            intro q
            have := splice_get c.toList (o + off) y.cells.toList (by simp [hce, hl]; omega) q
            simpa using this
          have hsize : ((c.toList.take (o + off) ++ y.cells.toList ++ c.toList.drop (o + off + y.cells.size)).toArray).size = c.size := by
            simp [hce, hl]; omega
          generalize ((c.toList.take (o + off) ++ y.cells.toList ++ c.toList.drop (o + off + y.cells.size)).toArray) = c' at hrun hget hsize
          have hlen := splice_length r.cells off v.cells (by omega)
          have hrt := row_turn hS (w' := w.setRow b' c') (r' := { r with cells := splice r.cells off v.cells }) hk (.inl ⟨rfl, rfl, rfl⟩) (Nat.le_refl _) (Nat.le_refl _) h2 (by simp only [hlen]; omega) (fun s hs => by simp only [hlen]; exact h4 s hs)
            (.inr ⟨c, c', e, rfl, g1, hsize, fun q hq => by rw [hget q, if_neg (by omega)], fun q x h6 h7 hx => by
              rw [hget q] at hx
              split at hx
              · exact hcell' x (by obtain ⟨h8, h9⟩ := Array.getElem?_eq_some_iff.1 hx; rw [← h9]; simp)
              · exact g4 (q - o) x (by omega) (by rw [← hx]; congr 1; omega), fun q x a hx ha => by
              rw [hget] at hx
              simp only at ha
              unfold splice at ha
              rw [splice_get r.cells off v.cells (by omega) q] at ha
              by_cases hin : off ≤ q ∧ q < off + v.cells.length
              · rw [if_pos hin] at ha
                rw [if_pos (by omega)] at hx
                exact hcr _ _ _ (by rw [← hx]; congr 1; omega) ha
              · rw [if_neg hin] at ha
                rw [if_neg (by omega)] at hx
                exact g5 _ _ _ hx ha⟩)
          rw [turnRow_self hk] at hrt
          exact ⟨_, by simpa [Instr.storeAt, Instr.sureAddr] using hrun, hrt.1, hrt.2⟩
      · cases h
    · cases h
  · cases h

def Gh.withBlock (G : Gh) (b : Nat) (f : Nat → Tag) : Gh := { G with tag := fun x o => if x = b then f o else G.tag x o }

theorem ext_alloc {G : Gh} {w : World} (hf : ∀ b o, w.heap.size ≤ b → G.tag b o = .no) (o : Obj) (f : Nat → Tag) : Ext G w (G.withBlock w.heap.size f) (w.alloc o) := by
  refine ⟨rfl, rfl, rfl, rfl, by simp, ?_, ?_, ?_, ?_, fun _ _ h => h, fun _ m r h => ⟨m, r, h, Nat.le_refl _, fun _ => rfl⟩, fun _ m r h => ⟨m, r, h, Nat.le_refl _, fun _ => rfl⟩⟩
  · intro b c e fr hb
    have hlt : b < w.heap.size := (Array.getElem?_eq_some_iff.1 hb).1
    exact ⟨c, by rw [heap_alloc_old w o b hlt]; exact hb, rfl, fun _ _ => rfl⟩
  · intro b ob hb _
    have hlt : b < w.heap.size := (Array.getElem?_eq_some_iff.1 hb).1
    rw [heap_alloc_old w o b hlt]; exact hb
  · intro b o hs
    simp only [Gh.withBlock]
    split
    · rename_i hb
      subst hb
      rw [hf _ _ (Nat.le_refl _)] at hs; cases hs
    · exact hs
  · intro b o hb hn
    simp only [Gh.withBlock]
    rw [if_neg (by omega)]; exact hn

theorem ext_drew (G : Gh) (w : World) : Ext G w G w.drew :=
  ⟨rfl, rfl, rfl, rfl, Nat.le_refl _, fun _ c _ _ h => ⟨c, h, rfl, fun _ _ => rfl⟩, fun _ _ h _ => h, fun _ _ h => h, fun _ _ _ h => h, fun _ _ h => h, fun _ m r h => ⟨m, r, h, Nat.le_refl _, fun _ => rfl⟩, fun _ m r h => ⟨m, r, h, Nat.le_refl _, fun _ => rfl⟩⟩

theorem RelS.drew {G : Gh} {w : World} {σ : St} (h : RelS G w σ) : RelS G w.drew σ := by
  have hE := ext_drew G w
  refine ⟨fun id b hp => ?_, h.inj, h.tok, h.fresh, fun g cs hg => (h.gl g cs hg).mono hE, h.tot, h.totk, h.lift hE rfl (fun _ _ _ _ _ _ _ c _ hb _ ht => ⟨c, hb, rfl, fun _ _ => rfl, ht⟩), h.totr⟩
  obtain ⟨c, e, cs, h1, h2, h3, h4, h5⟩ := h.obj id b hp
  exact ⟨c, e, cs, h1, h2, h3, h4, fun j x a hx ha => (h5 j x a hx ha).mono hE⟩

theorem RelS.alloc {G : Gh} {w : World} {σ : St} (h : RelS G w σ) (o : Obj) (f : Nat → Tag) : RelS (G.withBlock w.heap.size f) (w.alloc o) σ := by
  have hE := ext_alloc h.fresh o f
  refine ⟨fun id b hp => ?_, h.inj, fun k m b lo hi hk => ?_, fun b o' hb => ?_, fun g cs hg => (h.gl g cs hg).mono hE, h.tot, h.totk, h.lift hE rfl (fun k2 gc2 b2 o2 C2 hk2 hC2 c2 e2 hb2 hoc2 ht2 => ?_), h.totr⟩
  case refine_4 =>
    have hlt : b2 < w.heap.size := (Array.getElem?_eq_some_iff.1 hb2).1
    refine ⟨c2, by rw [heap_alloc_old w o b2 hlt]; exact hb2, rfl, fun _ _ => rfl, fun j hj => ?_⟩
    simp only [Gh.withBlock]; rw [if_neg (by omega)]; exact ht2 j hj
  · obtain ⟨c, e, cs, h1, h2, h3, h4, h5⟩ := h.obj id b hp
    have hlt : b < w.heap.size := (Array.getElem?_eq_some_iff.1 h2).1
    refine ⟨c, e, cs, h1, by rw [heap_alloc_old w o b hlt]; exact h2, h3, fun j hj => ?_, fun j x a hx ha => (h5 j x a hx ha).mono hE⟩
    simp only [Gh.withBlock]; rw [if_neg (by omega)]; exact h4 j hj
  · obtain ⟨t1, t2⟩ := h.tok k m b lo hi hk
    refine ⟨t1, fun hlt => ?_⟩
    obtain ⟨c, e, g1, g2, g3⟩ := t2 hlt
    have hlt : b < w.heap.size := (Array.getElem?_eq_some_iff.1 g1).1
    refine ⟨c, e, by rw [heap_alloc_old w o b hlt]; exact g1, g2, fun j hj hj2 => ?_⟩
    simp only [Gh.withBlock]; rw [if_neg (by omega)]; exact g3 j hj hj2
  · simp only [Gh.withBlock]
    have hb' : w.heap.size + 1 ≤ b := by simpa using hb
    rw [if_neg (by omega)]; exact h.fresh b o' (by omega)

theorem newObj_sound {G : Gh} {w : World} {σ : St} (hS : RelS G w σ) (e : TypeId) (c : Array Value) (cs : List AV) (hl : c.size = cs.length) (hr : ∀ (j : Nat) x a, c[j]? = some x → cs[j]? = some a → AVR G w x a) :
    ∃ G', Ext G w G' (w.alloc (.cells c e)) ∧ RelS G' (w.alloc (.cells c e)) { σ with objs := σ.objs ++ [cs] } ∧ G'.pl σ.objs.length = some w.heap.size := by
  have hnone : G.pl σ.objs.length = none := by
    cases hp : G.pl σ.objs.length with
    | none => rfl
    | some b =>
      obtain ⟨_, _, _, h1, _⟩ := hS.obj _ _ hp
      simp at h1
  have hE1 := ext_alloc hS.fresh (.cells c e) (fun j => if j < c.size then .obj σ.objs.length else .no)
  have hS1 := hS.alloc (.cells c e) (fun j => if j < c.size then .obj σ.objs.length else .no)
  generalize hG1 : G.withBlock w.heap.size (fun j => if j < c.size then .obj σ.objs.length else .no) = G1 at hE1 hS1
  let G' : Gh := { G1 with pl := fun id => if id = σ.objs.length then some w.heap.size else G1.pl id }
  have hpl1 : G1.pl = G.pl := by rw [← hG1]; rfl
  have hE2 : Ext G1 (w.alloc (.cells c e)) G' (w.alloc (.cells c e)) := by
    refine ⟨rfl, rfl, rfl, rfl, Nat.le_refl _, fun _ c _ _ h => ⟨c, h, rfl, fun _ _ => rfl⟩, fun _ _ h _ => h, fun _ _ h => h, fun _ _ _ h => h, fun id b hp => ?_, fun _ m r h => ⟨m, r, h, Nat.le_refl _, fun _ => rfl⟩, fun _ m r h => ⟨m, r, h, Nat.le_refl _, fun _ => rfl⟩⟩
    show (if id = σ.objs.length then _ else _) = _
    split
    · rename_i hid
      subst hid
      rw [hpl1, hnone] at hp; cases hp
    · exact hp
  refine ⟨G', hE1.trans hE2, ⟨?_, ?_, ?_, hS1.fresh, fun g cs hg => (hS1.gl g cs hg).mono hE2, fun id hid => ?_, hS1.totk, hS1.lift hE2 rfl (fun _ _ _ _ _ _ _ c _ hb _ ht => ⟨c, hb, rfl, fun _ _ => rfl, ht⟩), hS1.totr⟩, by simp [G']⟩
  case refine_4 =>
    show ∃ b, (if id = σ.objs.length then some w.heap.size else G1.pl id) = some b
    by_cases h : id = σ.objs.length
    · rw [if_pos h]; exact ⟨_, rfl⟩
    · rw [if_neg h]; exact hS1.tot id (by simp at hid; omega)
  · intro id b hp
    by_cases hid : id = σ.objs.length
    · subst hid
      have hb : b = w.heap.size := by simpa [G'] using hp.symm
      subst hb
      refine ⟨c, e, cs, by simp, heap_alloc_new w _, hl, fun j hj => ?_, fun j x a hx ha => (hr j x a hx ha).mono (hE1.trans hE2)⟩
      show G1.tag _ _ = _
      rw [← hG1]
      simp [Gh.withBlock, hj]
    · have hp' : G1.pl id = some b := by simpa [G', hid] using hp
      obtain ⟨c2, e2, cs2, h1, h2, h3, h4, h5⟩ := hS1.obj id b hp'
      refine ⟨c2, e2, cs2, ?_, h2, h3, h4, fun j x a hx ha => (h5 j x a hx ha).mono hE2⟩
      show (σ.objs ++ [cs])[id]? = some cs2
      rw [List.getElem?_append_left (List.getElem?_eq_some_iff.1 h1).1]; exact h1
  · intro i j b hi hj
    have key : ∀ i, i ≠ σ.objs.length → G'.pl i = some w.heap.size → False := by
      intro i hne hp
      have hp' : G.pl i = some w.heap.size := by
        have : G1.pl i = some w.heap.size := by simpa [G', hne] using hp
        rw [← hpl1]; exact this
      obtain ⟨c2, e2, cs2, h1, h2, _⟩ := hS.obj i _ hp'
      have := (Array.getElem?_eq_some_iff.1 h2).1; omega
    by_cases h1 : i = σ.objs.length <;> by_cases h2 : j = σ.objs.length
    · rw [h1, h2]
    · subst h1
      have hb : b = w.heap.size := by simpa [G'] using hi.symm
      subst hb; exact (key j h2 hj).elim
    · subst h2
      have hb : b = w.heap.size := by simpa [G'] using hj.symm
      subst hb; exact (key i h1 hi).elim
    · exact hS1.inj i j b (by simpa [G', h1] using hi) (by simpa [G', h2] using hj)
  · intro k m b lo hi hk
    exact hS1.tok k m b lo hi hk

theorem row_new {G : Gh} {w : World} {σ : St} (hS : RelS G w σ) (e : TypeId) (c : Array Value) (k g' : Nat) (rows' : List RowSt) (r' : RowSt) (hk : ∀ p, G.rw k = some p → p.1 < g') (hr' : rows'[k]? = some r')
    (hto : ∀ i, i ≠ k → ∀ x, σ.rows[i]? = some x → rows'[i]? = some x) (hlen : ∀ i, i < rows'.length → i = k ∨ i < σ.rows.length) (hr : r'.gen = g') (hl : r'.cells.length ≤ c.size) (hsp : ∀ s, r'.spare = some s → r'.cells.length + s = c.size)
    (hone : ∀ (q : Nat) x, c[q]? = some x → x.oneCell' = true) (hrel : ∀ (j : Nat) x a, c[j]? = some x → r'.cells[j]? = some a → AVR G w x a) :
    ∃ G', Ext G w G' (w.alloc (.cells c e)) ∧ RelS G' (w.alloc (.cells c e)) { σ with rows := rows' } ∧ G'.rw k = some (g', w.heap.size, 0, c.size) := by
  have hE1 := ext_alloc hS.fresh (.cells c e) (fun j => if j < c.size then .row k else .no)
  have hS1 := hS.alloc (.cells c e) (fun j => if j < c.size then .row k else .no)
  generalize hG1 : G.withBlock w.heap.size (fun j => if j < c.size then .row k else .no) = G1 at hE1 hS1
  have hrw1 : G1.rw = G.rw := by rw [← hG1]; rfl
  have htag1 : ∀ j, j < c.size → G1.tag w.heap.size j = .row k := fun j hj => by rw [← hG1]; simp [Gh.withBlock, hj]
  have hE2 : Ext G1 (w.alloc (.cells c e)) (G1.turnRow k g' w.heap.size 0 c.size) (w.alloc (.cells c e)) := by
    refine ⟨rfl, rfl, rfl, rfl, Nat.le_refl _, fun _ c _ _ h => ⟨c, h, rfl, fun _ _ => rfl⟩, fun _ _ h _ => h, fun _ _ h => h, fun _ _ _ h => h, fun _ _ h => h, fun _ m r h => ⟨m, r, h, Nat.le_refl _, fun _ => rfl⟩, fun i m r hi => ?_⟩
    show ∃ m' r', (if i = k then some (g', w.heap.size, 0, c.size) else G1.rw i) = some (m', r') ∧ _
    by_cases h : i = k
    · subst h
      rw [if_pos rfl]
      rw [hrw1] at hi
      have := hk _ hi
      exact ⟨_, _, rfl, Nat.le_of_lt this, fun e => by simp only at this; omega⟩
    · rw [if_neg h]
      exact ⟨m, r, hi, Nat.le_refl _, fun _ => rfl⟩
  have hE := hE1.trans hE2
  refine ⟨_, hE, ⟨?_, hS1.inj, hS1.tok, hS1.fresh, fun g cs hg => (hS1.gl g cs hg).mono hE2, hS1.tot, hS1.totk, ?_, ?_⟩, if_pos rfl⟩
  · intro id b hp
    obtain ⟨c2, e2, cs2, h1, h2, h3, h4, h5⟩ := hS1.obj id b hp
    exact ⟨c2, e2, cs2, h1, h2, h3, h4, fun j x a hx ha => (h5 j x a hx ha).mono hE2⟩
  · intro i gi bi oi Ci hi
    have hi' : (if i = k then some (g', w.heap.size, 0, c.size) else G1.rw i) = some (gi, bi, oi, Ci) := hi
    by_cases hik : i = k
    · subst hik
      rw [if_pos rfl] at hi'
      cases hi'
      refine ⟨r', hr', hr, hl, hsp, fun hC2 => ⟨c, e, heap_alloc_new w _, by omega, fun j hj => ?_, fun j x hj hx => hone _ x hx, fun j x a hx ha => (hrel j x a (by simpa using hx) ha).mono hE⟩⟩
      rw [Nat.zero_add]; exact htag1 j hj
    · rw [if_neg hik] at hi'
      obtain ⟨ri, h1, h2, h3, h4, h5⟩ := hS1.row i gi bi oi Ci hi'
      refine ⟨ri, hto i hik ri h1, h2, h3, h4, fun hCi => ?_⟩
      obtain ⟨c2, e2, g1, g2, g3, g4, g5⟩ := h5 hCi
      exact ⟨c2, e2, g1, g2, g3, g4, fun j x a hx ha => (g5 j x a hx ha).mono hE2⟩
  · intro i hi
    show ∃ p, (if i = k then some (g', w.heap.size, 0, c.size) else G1.rw i) = some p
    by_cases h : i = k
    · rw [if_pos h]; exact ⟨_, rfl⟩
    · rw [if_neg h]; exact hS1.totr i ((hlen i hi).resolve_left h)

theorem rw_fresh {G : Gh} {w : World} {σ : St} (hS : RelS G w σ) : ∀ p, G.rw σ.rows.length = some p → False := fun p hp => by
  obtain ⟨gc, b, o, C⟩ := p
  obtain ⟨r, h1, _⟩ := hS.row _ _ _ _ _ hp
  simp at h1

theorem row_push {G : Gh} {w : World} {σ : St} (hS : RelS G w σ) (e : TypeId) (c : Array Value) (cells : List AV) (spare : Option Nat) (hl : cells.length ≤ c.size) (hsp : ∀ s, spare = some s → cells.length + s = c.size)
    (hone : ∀ (q : Nat) x, c[q]? = some x → x.oneCell' = true) (hrel : ∀ (j : Nat) x a, c[j]? = some x → cells[j]? = some a → AVR G w x a) :
    ∃ G', Ext G w G' (w.alloc (.cells c e)) ∧ RelS G' (w.alloc (.cells c e)) { σ with rows := σ.rows ++ [⟨0, cells, spare⟩] } ∧ G'.rw σ.rows.length = some (0, w.heap.size, 0, c.size) :=
  row_new hS e c σ.rows.length 0 _ ⟨0, cells, spare⟩ (fun p hp => (rw_fresh hS p hp).elim) (by simp) (fun i _ x hx => by rw [List.getElem?_append_left (List.getElem?_eq_some_iff.1 hx).1]; exact hx)
    (fun i hi => by simp at hi; omega) rfl hl hsp hone hrel
theorem elemT_some {P : Program} {t e : TypeId} (h : elemT P t = some e) : P.underlying t = some (.slice e) := by
  unfold elemT at h
  split at h
  · rename_i e' he; cases h; exact he
  · cases h

theorem sl_cells {G : Gh} {w : World} {y : Value} {sz m : Nat} {ys : List AV} {t : Tail} (h : AVR G w y (.sl sz ys m t)) :
    ∃ (a : Option Addr) (c : Nat) (news : List Value), y = .slice a m c ∧ m ≤ c ∧ TailOk G t a m c sz ∧ ys.length = m * sz ∧ news.length = ys.length ∧ (∀ (j : Nat) x b, news[j]? = some x → ys[j]? = some b → AVR G w x b) ∧ (∀ u ∈ news, u.oneCell' = true) ∧
      (ys ≠ [] → ∃ b o, a = some ⟨b, o, none⟩ ∧ (∀ j, j < ys.length → G.tag b (o + j) = .fixd) ∧ ∀ (j : Nat) x, news[j]? = some x → w.cell? ⟨b, o + j, none⟩ = some x) := by
  cases h with
  | sl0 ht => exact ⟨_, _, [], rfl, by omega, ht, by simp, rfl, by simp, by simp, fun h => (h rfl).elim⟩
  | sl xs hl hn hc hs hx h ht =>
    refine ⟨_, _, xs, rfl, hc, ht, hn, hl, h, fun u hu => ?_, fun _ => ⟨_, _, rfl, hs, fun j x hj => (hx j x hj).1⟩⟩
    obtain ⟨k, hk, rfl⟩ := List.getElem_of_mem hu
    exact (hx k _ (List.getElem?_eq_getElem hk)).2

theorem read_cells {G : Gh} {w : World} {σ : St} (hS : RelS G w σ) {y : Value} {av : AV} {sz m : Nat} {ys : List AV} (h : AVR G w y av) (hr : readA σ av = some (sz, ys, m)) :
    ∃ (a : Option Addr) (c : Nat) (news : List Value), y = .slice a m c ∧ m ≤ c ∧ ys.length = m * sz ∧ news.length = ys.length ∧ (∀ (j : Nat) x b, news[j]? = some x → ys[j]? = some b → AVR G w x b) ∧ (∀ u ∈ news, u.oneCell' = true) ∧
      (ys ≠ [] → ∃ b o, a = some ⟨b, o, none⟩ ∧ ∀ (j : Nat) x, news[j]? = some x → w.cell? ⟨b, o + j, none⟩ = some x) := by
  unfold readA at hr
  split at hr
  · cases hr
    obtain ⟨a, c, news, h1, h2, _, h3, h4, h5, h6, h7⟩ := sl_cells h
    exact ⟨a, c, news, h1, h2, h3, h4, h5, h6, fun hne => let ⟨b, o, e, _, g⟩ := h7 hne; ⟨b, o, e, g⟩⟩
  · rename_i k g off sz' n'
    split at hr
    · rename_i r hk
      split at hr
      · rename_i hcond
        obtain ⟨hg, hle⟩ := hcond
        cases hr
        cases h with
        | row hk' hgc hn ha hc =>
          rename_i c gc b o C a
          obtain ⟨r', h1, h2, h3, h4, h5⟩ := hS.row _ _ _ _ _ hk'
          rw [hk] at h1; cases h1
          obtain ⟨hc1, hc2⟩ := hc (by omega)
          by_cases h0 : m * sz = 0
          · refine ⟨a, c, [], rfl, hn, by simp [h0], by simp [h0], by simp, by simp, fun h => (h (by simp [h0])).elim⟩
          · obtain ⟨cur, e, g1, g2, g3, g4, g5⟩ := h5 (by omega)
            have hc0 : c ≠ 0 := by
              intro e; subst e
              have : m = 0 := by omega
              subst this; simp at h0
            refine ⟨a, c, (cur.toList.drop (o + off)).take (m * sz), rfl, hn, by simp; omega, by simp; omega, fun j x av hx hav => ?_, fun u hu => ?_, fun _ => ⟨b, o + off, hc2 hc0, fun j x hx => ?_⟩⟩
            · rw [List.getElem?_take] at hx hav
              split at hx
              · rename_i hj
                rw [if_pos hj, List.getElem?_drop] at hav
                rw [List.getElem?_drop] at hx
                exact g5 (off + j) x av (by rw [← Nat.add_assoc]; simpa using hx) hav
              · cases hx
            · obtain ⟨j, hj, rfl⟩ := List.getElem_of_mem hu
              have hj' : j < m * sz := by simp at hj; omega
              refine g4 (off + j) _ (by omega) ?_
              rw [List.getElem_take, List.getElem_drop]
              simp only [Array.getElem_toList, ← Nat.add_assoc]
              exact Array.getElem?_eq_getElem _
            · rw [List.getElem?_take] at hx
              split at hx
              · rw [List.getElem?_drop] at hx
                rw [heap_cell g1]; simpa using hx
              · cases hx
      · cases hr
    · cases hr
  · cases hr

theorem add_at (b o k : Nat) : (⟨b, o, none⟩ : Addr).add k = ⟨b, o + k, none⟩ := by
  unfold Addr.add; split <;> simp_all

def Gh.withRow (G : Gh) (w : World) (n total k m : Nat) : Gh :=
  { G.withBlock w.heap.size (fun j => if j < n then .fixd else if j < total then .tail k else .no) with tl := fun i => if i = k then some (m, w.heap.size, n, total) else G.tl i }

theorem tl_old {G : Gh} {w : World} {σ : St} (hS : RelS G w σ) {k m : Nat} {r : Nat × Nat × Nat} (h : G.tl k = some (m, r)) : σ.toks[k]? = some m := (hS.tok k m r.1 r.2.1 r.2.2 h).1

theorem newRow_sound {G : Gh} {w : World} {σ : St} (hS : RelS G w σ) (e : TypeId) (c : Array Value) (n k m : Nat) (toks' : List Nat)
    (hk : ∀ m0 r, G.tl k = some (m0, r) → m0 < m) (hk' : toks'[k]? = some m) (htl : ∀ i, i < toks'.length → i = k ∨ i < σ.toks.length) (hto : ∀ i, i ≠ k → ∀ x, σ.toks[i]? = some x → toks'[i]? = some x) :
    Ext G w (G.withRow w n c.size k m) (w.alloc (.cells c e)) ∧ RelS (G.withRow w n c.size k m) (w.alloc (.cells c e)) { σ with toks := toks' } := by
  have hE1 := ext_alloc hS.fresh (.cells c e) (fun j => if j < n then .fixd else if j < c.size then .tail k else .no)
  have hS1 := hS.alloc (.cells c e) (fun j => if j < n then .fixd else if j < c.size then .tail k else .no)
  have hE : Ext G w (G.withRow w n c.size k m) (w.alloc (.cells c e)) := by
    refine ⟨hE1.base, hE1.os, hE1.tape, hE1.output, hE1.size, hE1.blk, hE1.oth, hE1.sealed, hE1.no, hE1.pl, fun i m0 r hi => ?_, fun _ m r h => ⟨m, r, h, Nat.le_refl _, fun _ => rfl⟩⟩
    show ∃ m' r', (if i = k then some (m, w.heap.size, n, c.size) else G.tl i) = some (m', r') ∧ _
    by_cases hik : i = k
    · subst hik
      rw [if_pos rfl]
      have := hk m0 r hi
      exact ⟨m, _, rfl, by omega, fun e => by omega⟩
    · rw [if_neg hik]
      exact ⟨m0, r, hi, Nat.le_refl _, fun _ => rfl⟩
  have hE2 : Ext (G.withBlock w.heap.size (fun j => if j < n then .fixd else if j < c.size then .tail k else .no)) (w.alloc (.cells c e)) (G.withRow w n c.size k m) (w.alloc (.cells c e)) := by
    refine ⟨rfl, rfl, rfl, rfl, Nat.le_refl _, fun _ c _ _ h => ⟨c, h, rfl, fun _ _ => rfl⟩, fun _ _ h _ => h, fun _ _ h => h, fun _ _ _ h => h, fun _ _ h => h, hE.tl, fun _ m r h => ⟨m, r, h, Nat.le_refl _, fun _ => rfl⟩⟩
  refine ⟨hE, ?_, hS1.inj, ?_, hS1.fresh, fun g cs hg => (hS1.gl g cs hg).mono hE2, hS1.tot, fun i hi => ?_, hS1.lift hE2 rfl (fun _ _ _ _ _ _ _ c _ hb _ ht => ⟨c, hb, rfl, fun _ _ => rfl, ht⟩), hS1.totr⟩
  case refine_3 =>
    show ∃ p, (if i = k then some (m, w.heap.size, n, c.size) else G.tl i) = some p
    by_cases h : i = k
    · rw [if_pos h]; exact ⟨_, rfl⟩
    · rw [if_neg h]; exact hS.totk i ((htl i hi).resolve_left h)
  · intro id b hp
    obtain ⟨c2, e2, cs2, h1, h2, h3, h4, h5⟩ := hS1.obj id b hp
    exact ⟨c2, e2, cs2, h1, h2, h3, h4, fun j x a hx ha => (h5 j x a hx ha).mono hE2⟩
  · intro i m0 b lo hi h
    have h' : (if i = k then some (m, w.heap.size, n, c.size) else G.tl i) = some (m0, b, lo, hi) := h
    by_cases hik : i = k
    · subst hik
      rw [if_pos rfl] at h'
      cases h'
      refine ⟨hk', fun _ => ⟨c, e, heap_alloc_new w _, Nat.le_refl _, fun j hj hj2 => ?_⟩⟩
      show (if w.heap.size = w.heap.size then _ else _) = _
      rw [if_pos rfl, if_neg (by omega), if_pos hj2]
    · rw [if_neg hik] at h'
      obtain ⟨t1, t2⟩ := hS1.tok i m0 b lo hi h'
      exact ⟨hto i hik _ t1, t2⟩

theorem run_append_same {P : Program} {w : World} {t ty e : TypeId} {i : TypeInfo} (ht : P.underlying t = some (.slice e)) (hi : P.info? e = some i) (a a' : Option Addr) (n c c' : Nat) (hc : n ≤ c) :
    (Builtin.append_ #[t, t] ty #[.slice a n c, .slice a' 0 c']).run P w = .ok (.slice a n c) w := by
  cases a <;> cases a' <;> simp [Builtin.append_, run_underlying ht, sizeOf, typeInfo, hi, Builtin.lenOf, hc, Builtin.firstCells, loadCells, loadCellsFrom, storeCells]

theorem run_append_into {P : Program} {w : World} {t ty e : TypeId} {i : TypeInfo} (ht : P.underlying t = some (.slice e)) (hi : P.info? e = some i) (b o n c : Nat) (cur : Array Value) (el : TypeId)
    (hb : w.heap[b]? = some (.cells cur el (0, 0))) (a : Addr) (m c' : Nat) (news : List Value) (hl : news.length = m * i.size) (hnews : ∀ j u, news[j]? = some u → w.cell? (a.add j) = some u) (h1 : ∀ u ∈ news, u.oneCell' = true)
    (hroom : n + m ≤ c) (hfit : o + n * i.size + news.length ≤ cur.size) :
    (Builtin.append_ #[t, t] ty #[.slice (some ⟨b, o, none⟩) n c, .slice (some a) m c']).run P w =
      .ok (.slice (some ⟨b, o, none⟩) (n + m) c) (w.setRow b (cur.toList.take (o + n * i.size) ++ news ++ cur.toList.drop (o + n * i.size + news.length)).toArray) := by
  have hf := run_firstCells_some (P := P) w i.size m a m c' news hl hnews
  have hst := run_storeCells_at P b (o + n * i.size) el news 0 cur w hb (by simpa using hfit) h1
  simp only [Nat.add_zero] at hst
  simp [Builtin.append_, run_underlying ht, sizeOf, typeInfo, hi, Builtin.lenOf, hroom, hf, add_at, hst]

theorem rowApp_sound {G : Gh} {w : World} {σ σ' : St} {k g off sz n m c : Nat} {a : Option Addr} {ys : List AV} {news : List Value} {e : TypeId} {zc : Array Value} {av : AV} {res : Result Value} (hS : RelS G w σ) (hx : AVR G w (.slice a n c) (.row k g off sz n))
    (hpos : 0 < sz) (hyl : ys.length = m * sz) (hnl : news.length = ys.length) (hnr : ∀ (j : Nat) x b, news[j]? = some x → ys[j]? = some b → AVR G w x b) (hn1 : ∀ u ∈ news, u.oneCell' = true) (hzs : zc.size = sz) (hz1 : ∀ u ∈ zc.toList, u.oneCell' = true)
    (hroom0 : n + m ≤ c → m = 0 → res = .ok (.slice a n c) w)
    (hroom : n + m ≤ c → 0 < m → ∀ b o cur el, a = some ⟨b, o, none⟩ → w.heap[b]? = some (.cells cur el (0, 0)) → o + n * sz + news.length ≤ cur.size →
      res = .ok (.slice (some ⟨b, o, none⟩) (n + m) c) (w.setRow b (cur.toList.take (o + n * sz) ++ news ++ cur.toList.drop (o + n * sz + news.length)).toArray))
    (hgrow : c < n + m → ∀ olds : List Value, olds.length = n * sz → (∀ j u, olds[j]? = some u → ∃ b o, a = some ⟨b, o, none⟩ ∧ w.cell? ⟨b, o + j, none⟩ = some u) →
      ∃ cap', n + m ≤ cap' ∧ res = .ok (.slice (some ⟨w.heap.size, 0, none⟩) (n + m) cap') (w.drew.alloc (.cells (olds.toArray ++ news.toArray ++ Builtin.zeroCells zc (cap' - (n + m))) e)))
    (h : rowAppA k g off sz n ys m σ = some (av, σ')) : ∃ v w' G', res = .ok v w' ∧ Ext G w G' w' ∧ RelS G' w' σ' ∧ AVR G' w' v av := by
  unfold rowAppA at h
  split at h
  case h_2 => cases h
  rename_i r hrk
  split at h
  case isFalse => cases h
  rename_i hcond
  obtain ⟨hg, hle⟩ := hcond
  cases hx with
  | row hk hgc hn ha hc =>
  rename_i gc b o C
  obtain ⟨r', h1, h2, h3, h4, h5⟩ := hS.row _ _ _ _ _ hk
  rw [hrk] at h1; cases h1
  obtain rfl : g = gc := by omega
  obtain ⟨hc1, hc2⟩ := hc rfl
  have hmul : (n + m) * sz = n * sz + m * sz := Nat.add_mul ..
  have hnc : n * sz ≤ c * sz := Nat.mul_le_mul_right _ hn
  have hlen2 : ((r.cells.drop off).take (n * sz) ++ ys).length = (n + m) * sz := by simp [hyl]; omega
  by_cases hrm : n + m ≤ c
  · -- there is room behind it
    have hmc : (n + m) * sz ≤ c * sz := Nat.mul_le_mul_right _ hrm
    obtain ⟨sp', hsp', hh⟩ : ∃ sp', (∀ s, sp' = some s → (n + m) * sz + s = C - off) ∧ some (AV.row k (g + 1) 0 sz (n + m), ({ σ with rows := σ.rows.set k ⟨g + 1, (r.cells.drop off).take (n * sz) ++ ys, sp'⟩ } : St)) = some (av, σ') := by
      split at h
      · rename_i s hs
        have := h4 s hs
        rw [if_pos (by omega)] at h
        exact ⟨_, ⟨fun s2 e2 => (by cases e2; omega), h⟩⟩
      · exact ⟨none, ⟨fun s2 e2 => (by cases e2), h⟩⟩
    cases hh
    clear h
    have mk : ∀ w', (w' = w ∧ (0 < C - off → ∀ c e, w.heap[b]? = some (.cells c e (0, 0)) → ∀ (j : Nat) x a, c[o + off + j]? = some x → ((r.cells.drop off).take (n * sz) ++ ys)[j]? = some a → AVR G w x a)) ∨
        (∃ c c' e, w' = w.setRow b c' ∧ w.heap[b]? = some (.cells c e (0, 0)) ∧ c'.size = c.size ∧ (∀ q : Nat, ¬ (o ≤ q ∧ q < o + C) → c'[q]? = c[q]?) ∧ (∀ (q : Nat) x, o ≤ q → q < o + C → c'[q]? = some x → x.oneCell' = true) ∧
        (∀ (j : Nat) x a, c'[o + off + j]? = some x → ((r.cells.drop off).take (n * sz) ++ ys)[j]? = some a → AVR G w x a)) →
        ∃ G', Ext G w G' w' ∧ RelS G' w' { σ with rows := σ.rows.set k ⟨g + 1, (r.cells.drop off).take (n * sz) ++ ys, sp'⟩ } ∧ AVR G' w' (.slice a (n + m) c) (.row k (g + 1) 0 sz (n + m)) := by
      intro w' hw
      have := row_turn hS (w' := w') (g' := g + 1) (o' := o + off) (C' := C - off) (r' := ⟨g + 1, (r.cells.drop off).take (n * sz) ++ ys, sp'⟩) hk (.inr (Nat.lt_succ_self _)) (by omega) (by omega) rfl (by simp only [hlen2]; omega) (fun s hs => by simp only [hlen2]; exact hsp' s hs) hw
      refine ⟨_, this.1, this.2, .row (if_pos rfl) (Nat.le_refl _) hrm ha (fun _ => ⟨by omega, fun hc0 => by simpa using hc2 hc0⟩)⟩
    by_cases hm0 : m = 0
    · subst hm0
      have hys : ys = [] := List.eq_nil_of_length_eq_zero (by simpa using hyl)
      subst hys
      obtain ⟨G', f1, f2, f3⟩ := mk w (.inl ⟨rfl, fun hC c2 e2 hb2 j x a2 hx2 ha2 => by
        obtain ⟨c0, e0, g1, g2, g3, g4, g5⟩ := h5 (by omega)
        rw [hb2] at g1; cases g1
        rw [List.append_nil, List.getElem?_take] at ha2
        split at ha2
        · rw [List.getElem?_drop] at ha2
          exact g5 (off + j) x a2 (by rw [← Nat.add_assoc]; exact hx2) ha2
        · cases ha2⟩)
      exact ⟨_, w, G', hroom0 hrm rfl, f1, f2, f3⟩
    · have hc0 : c ≠ 0 := by omega
      have hC : 0 < C := by
        have : 0 < c * sz := Nat.mul_pos (by omega) hpos
        omega
      obtain ⟨cur, el, g1, g2, g3, g4, g5⟩ := h5 hC
      have hax := hc2 hc0
      subst hax
      have hrun := hroom hrm (by omega) b (o + off) cur el rfl g1 (by rw [hnl, hyl]; omega)
      have hget : ∀ q : Nat, ((cur.toList.take (o + off + n * sz) ++ news ++ cur.toList.drop (o + off + n * sz + news.length)).toArray)[q]? = if o + off + n * sz ≤ q ∧ q < o + off + n * sz + news.length then news[q - (o + off + n * sz)]? else cur[q]? := by
        intro q
        have := splice_get cur.toList (o + off + n * sz) news (by simp [hnl, hyl]; omega) q
        simpa using this
      have hsz2 : ((cur.toList.take (o + off + n * sz) ++ news ++ cur.toList.drop (o + off + n * sz + news.length)).toArray).size = cur.size := by
        simp [hnl, hyl]; omega
      generalize ((cur.toList.take (o + off + n * sz) ++ news ++ cur.toList.drop (o + off + n * sz + news.length)).toArray) = cur' at hrun hget hsz2
      rw [hnl, hyl] at hget
      obtain ⟨G', f1, f2, f3⟩ := mk (w.setRow b cur') (.inr ⟨cur, cur', el, rfl, g1, hsz2, fun q hq => by rw [hget, if_neg (by omega)], fun q x h6 h7 hx => by
        rw [hget] at hx
        split at hx
        · exact hn1 x (List.mem_of_getElem? hx)
        · exact g4 (q - o) x (by omega) (by rw [← hx]; congr 1; omega), fun j x a2 hx ha2 => by
        rw [hget] at hx
        by_cases hj : j < n * sz
        · rw [if_neg (by omega)] at hx
          rw [List.getElem?_append_left (by simp; omega), List.getElem?_take, if_pos hj, List.getElem?_drop] at ha2
          exact g5 (off + j) x a2 (by rw [← Nat.add_assoc]; exact hx) ha2
        · rw [List.getElem?_append_right (by simp; omega)] at ha2
          have hlt := (List.getElem?_eq_some_iff.1 ha2).1
          have hl3 : ((r.cells.drop off).take (n * sz)).length = n * sz := by simp; omega
          rw [hl3] at ha2 hlt
          rw [hyl] at hlt
          rw [if_pos (by omega)] at hx
          exact hnr _ x a2 (by rw [← hx]; congr 1; omega) ha2⟩)
      exact ⟨_, _, G', hrun, f1, f2, f3⟩
  · -- new memory
    have hmc : c * sz < (n + m) * sz := Nat.mul_lt_mul_of_pos_right (by omega) hpos
    obtain ⟨olds, hol, horel, ho1, hocell⟩ : ∃ olds : List Value, olds.length = n * sz ∧ (∀ (j : Nat) x a, olds[j]? = some x → ((r.cells.drop off).take (n * sz))[j]? = some a → AVR G w x a) ∧ (∀ u ∈ olds, u.oneCell' = true) ∧
        (∀ j u, olds[j]? = some u → ∃ b o, a = some ⟨b, o, none⟩ ∧ w.cell? ⟨b, o + j, none⟩ = some u) := by
      by_cases h0 : n = 0
      · subst h0
        exact ⟨[], by simp, by simp, by simp, by simp⟩
      · have hC : 0 < C := by
          have : 0 < n * sz := Nat.mul_pos (by omega) hpos
          omega
        obtain ⟨cur, el, g1, g2, g3, g4, g5⟩ := h5 hC
        refine ⟨(cur.toList.drop (o + off)).take (n * sz), by simp; omega, fun j x a2 hx ha2 => ?_, fun u hu => ?_, fun j u hu => ⟨b, o + off, hc2 (by omega), ?_⟩⟩
        · rw [List.getElem?_take] at hx ha2
          split at hx
          · rename_i hj
            rw [if_pos hj, List.getElem?_drop] at ha2
            rw [List.getElem?_drop] at hx
            exact g5 (off + j) x a2 (by rw [← Nat.add_assoc]; simpa using hx) ha2
          · cases hx
        · obtain ⟨j, hj, rfl⟩ := List.getElem_of_mem hu
          have hj' : j < n * sz := by simp at hj; omega
          refine g4 (off + j) _ (by omega) ?_
          rw [List.getElem_take, List.getElem_drop]
          simp only [Array.getElem_toList, ← Nat.add_assoc]
          exact Array.getElem?_eq_getElem _
        · rw [List.getElem?_take] at hu
          split at hu
          · rw [List.getElem?_drop] at hu
            rw [heap_cell g1]; simpa using hu
          · cases hu
    obtain ⟨cap', hcap, hrun⟩ := hgrow (by omega) olds hol hocell
    have hcs2 : (olds.toArray ++ news.toArray ++ Builtin.zeroCells zc (cap' - (n + m))).size = cap' * sz := by
      simp only [Array.size_append, List.size_toArray, size_zeroCells, hzs, hol, hnl, hyl]
      rw [← Nat.add_mul, ← Nat.add_mul]
      congr 1; omega
    have hone2 : ∀ (q : Nat) x, (olds.toArray ++ news.toArray ++ Builtin.zeroCells zc (cap' - (n + m)))[q]? = some x → x.oneCell' = true := by
      intro q x hx
      have hmem : x ∈ (olds.toArray ++ news.toArray ++ Builtin.zeroCells zc (cap' - (n + m))) := by
        obtain ⟨h8, h9⟩ := Array.getElem?_eq_some_iff.1 hx
        rw [← h9]; exact Array.getElem_mem h8
      rw [Array.mem_append, Array.mem_append] at hmem
      rcases hmem with (h6 | h6) | h6
      · exact ho1 x (by simpa using h6)
      · exact hn1 x (by simpa using h6)
      · refine hz1 x ?_; simp only [Builtin.zeroCells, Array.mem_map] at h6
        obtain ⟨j, _, rfl⟩ := h6
        have hzpos : 0 < zc.size := by omega
        rw [getElem!_pos zc (j % zc.size) (Nat.mod_lt _ hzpos)]
        simp
    have hrel2 : ∀ (j : Nat) x a2, (olds.toArray ++ news.toArray ++ Builtin.zeroCells zc (cap' - (n + m)))[j]? = some x → ((r.cells.drop off).take (n * sz) ++ ys)[j]? = some a2 → AVR G w x a2 := by
      intro j x a2 hx ha2
      have hlt := (List.getElem?_eq_some_iff.1 ha2).1
      rw [hlen2] at hlt
      rw [Array.getElem?_append_left (by simp [hol, hnl, hyl]; omega)] at hx
      have hx' : (olds ++ news)[j]? = some x := by simpa using hx
      by_cases hj : j < n * sz
      · rw [List.getElem?_append_left (by simp; omega)] at ha2
        rw [List.getElem?_append_left (by omega)] at hx'
        exact horel j x a2 hx' ha2
      · have hl3 : ((r.cells.drop off).take (n * sz)).length = n * sz := by simp; omega
        rw [List.getElem?_append_right (by omega)] at ha2
        rw [List.getElem?_append_right (by omega)] at hx'
        rw [hl3] at ha2
        rw [hol] at hx'
        exact hnr _ x a2 hx' ha2
    generalize (olds.toArray ++ news.toArray ++ Builtin.zeroCells zc (cap' - (n + m))) = c2 at hrun hcs2 hone2 hrel2
    have hcm : (n + m) * sz ≤ cap' * sz := Nat.mul_le_mul_right _ hcap
    have hSd := hS.drew
    have hEd := ext_drew G w
    split at h
    · rename_i s hs
      have := h4 s hs
      rw [if_neg (by omega)] at h
      cases h
      obtain ⟨G', f1, f2, f3⟩ := row_push hSd e c2 ((r.cells.drop off).take (n * sz) ++ ys) none (by rw [hlen2]; omega) (fun s e => by cases e) hone2 (fun j x a2 hx ha2 => (hrel2 j x a2 hx ha2).mono hEd)
      refine ⟨_, _, G', hrun, hEd.trans f1, f2, .row f3 (Nat.le_refl _) hcap (fun _ => ⟨_, _, rfl⟩) (fun _ => ⟨by rw [hcs2]; omega, fun _ => rfl⟩)⟩
    · cases h
      have hklt : k < σ.rows.length := (List.getElem?_eq_some_iff.1 hrk).1
      obtain ⟨G', f1, f2, f3⟩ := row_new hSd e c2 k (g + 1) (σ.rows.set k ⟨g + 1, (r.cells.drop off).take (n * sz) ++ ys, none⟩) ⟨g + 1, (r.cells.drop off).take (n * sz) ++ ys, none⟩ (fun p hp => by rw [hk] at hp; cases hp; exact Nat.lt_succ_self _) (by simp [hklt])
        (fun i hi x hx => by rw [List.getElem?_set_ne (Ne.symm hi)]; exact hx) (fun i hi => .inr (by simpa using hi)) rfl (by simp only [hlen2]; omega) (fun s e => by cases e) hone2 (fun j x a2 hx ha2 => (hrel2 j x a2 hx ha2).mono hEd)
      refine ⟨_, _, G', hrun, hEd.trans f1, f2, .row f3 (Nat.le_refl _) hcap (fun _ => ⟨_, _, rfl⟩) (fun _ => ⟨by rw [hcs2]; omega, fun _ => rfl⟩)⟩

theorem appendA_sound {P : Program} {G : Gh} {w : World} {σ σ' : St} {t ty : TypeId} {x y : Value} {s a av : AV} (hS : RelS G w σ) (hx : AVR G w x s) (hy : AVR G w y a) (h : appendA P t s a σ = some (av, σ')) :
    ∃ v w' G', (Builtin.append_ #[t, t] ty #[x, y]).run P w = .ok v w' ∧ Ext G w G' w' ∧ RelS G' w' σ' ∧ AVR G' w' v av := by
  unfold appendA at h
  split at h
  case h_3 => cases h
  case h_2 =>
    rename_i k g off sz n sy ys m hread
    split at h
    case h_2 => cases h
    rename_i e he
    split at h
    case h_2 => cases h
    rename_i i hi
    split at h
    case isFalse => cases h
    rename_i hcond
    obtain ⟨hsz, hsy, hpos, hbytes, hmax, hzc⟩ := hcond
    have ht := elemT_some he
    obtain ⟨d, j, hd, hj, hz, hag, hsize, hby⟩ := ti_some hi
    obtain ⟨ay, cy, news, rfl, hmcy, hyl, hnl, hnr, hn1, hnc⟩ := read_cells hS hy hread
    simp only [zeroCell, Bool.and_eq_true, beq_iff_eq, List.all_eq_true] at hzc
    obtain ⟨hzs, hz1⟩ := hzc
    subst hsz
    have hyl' : ys.length = m * i.size := by
      rcases hsy with e | e
      · rw [← e]; exact hyl
      · subst e; simpa using hyl
    obtain ⟨a, c, rfl, hnc', ha⟩ : ∃ a c, x = .slice a n c ∧ n ≤ c ∧ (c ≠ 0 → ∃ b' o', a = some ⟨b', o', none⟩) := by
      cases hx with
      | row _ _ hn ha _ => exact ⟨_, _, rfl, hn, ha⟩
    have hcell : 0 < m → ∃ b o, ay = some ⟨b, o, none⟩ ∧ ∀ (j : Nat) x, news[j]? = some x → w.cell? ⟨b, o + j, none⟩ = some x := fun hm => by
      refine hnc (fun e => ?_)
      rw [e] at hyl'
      have : m * i.size = 0 := by simpa using hyl'.symm
      rcases Nat.mul_eq_zero.1 this with h | h <;> omega
    have hnl' : news.length = m * j.size := by rw [hnl, hyl', hsize]
    refine rowApp_sound (e := e) (zc := i.zero.cells) hS hx hpos hyl' hnl hnr hn1 hzs hz1 (fun _ hm => ?_) (fun hroom hm b o cur el hax hb hfit => ?_) (fun hgr olds hol hold => ?_) h
    · subst hm
      exact run_append_same (w := w) ht hj a ay n c cy hnc'
    · subst hax
      obtain ⟨by', oy, rfl, hcy⟩ := hcell hm
      have := run_append_into (P := P) (w := w) (ty := ty) ht hj b o n c cur el hb ⟨by', oy, none⟩ m cy news hnl' (fun j u hj => by rw [add_at]; exact hcy j u hj) hn1 hroom (by rw [← hsize]; exact hfit)
      rw [← hsize] at this
      exact this
    · have hm : 0 < m := by omega
      obtain ⟨by', oy, rfl, hcy⟩ := hcell hm
      have hnews : ∀ j u, news[j]? = some u → w.cell? ((⟨by', oy, none⟩ : Addr).add j) = some u := fun j u hj => by rw [add_at]; exact hcy j u hj
      have h63 : ((n + m : Nat) : Int) ≤ 9223372036854775807 := by simp only [maxLen] at hmax; omega
      have hfit : Builtin.nextslicecap (n + m) c * j.bytes ≤ 281474976710656 := growslice_fits hgr (by rw [← hby]; exact hbytes)
      refine ⟨grownCap w (n + m) c e, grownCap_ge w (n + m) c e, ?_⟩
      cases a with
      | none =>
        have hc0 : c = 0 := by
          apply Classical.byContradiction
          intro hc0
          obtain ⟨_, _, h⟩ := ha hc0
          cases h
        subst hc0
        have hn0 : n = 0 := by omega
        subst hn0
        have hols : olds = [] := List.eq_nil_of_length_eq_zero (by simpa using hol)
        subst hols
        have := run_append_nil (P := P) w t ty e j i.zero ht hj hz ⟨by', oy, none⟩ m cy news hnl' hnews (by omega) (by simpa using h63) (by rw [← hby]; unfold roomA at hbytes; simp only [Nat.zero_add] at hbytes; omega)
        simp only [Nat.zero_add] at this ⊢
        simpa using this
      | some b0 =>
        exact run_append_grow (P := P) w t ty e j i.zero ht hj hz b0 n c olds (by rw [hol, hsize]) (fun q u hq => by
          obtain ⟨b, o, e1, e2⟩ := hold q u hq
          cases e1
          rw [add_at]; exact e2) ⟨by', oy, none⟩ m cy news hnl' hnews hgr h63 hfit
  rename_i sz cs n tl sy ys m hread
  split at h
  case h_2 => cases h
  rename_i e he
  split at h
  case h_2 => cases h
  rename_i i hi
  split at h
  case isFalse => cases h
  rename_i hcond
  obtain ⟨hsz, hsy, hpos, hbytes, hmax, hzs⟩ := hcond
  have ht := elemT_some he
  obtain ⟨d, j, hd, hj, hz, hag, hsize, hby⟩ := ti_some hi
  obtain ⟨ax, cx, olds, rfl, hncx, htail, hcl, hol, hor, ho1, hoc⟩ := sl_cells hx
  obtain ⟨ay, cy, news, rfl, hmcy, hyl, hnl, hnr, hn1, hnc⟩ := read_cells hS hy hread
  have hcl' : cs.length = n * i.size := by
    rcases hsz with e | e
    · rw [← e]; exact hcl
    · subst e; simpa using hcl
  have hyl' : ys.length = m * i.size := by
    rcases hsy with e | e
    · rw [← e]; exact hyl
    · subst e; simpa using hyl
  -- the token
  obtain ⟨k, toks', hav, hσ, hkm, hk', htlen, hto, hreg⟩ : ∃ k toks', av = .sl i.size (cs ++ ys) (n + m) (.own k) ∧ σ' = { σ with toks := toks' } ∧ (∀ m0 r, G.tl k = some (m0, r) → m0 = n) ∧ toks'[k]? = some (n + m) ∧ (∀ i, i < toks'.length → i = k ∨ i < σ.toks.length) ∧
      (∀ i, i ≠ k → ∀ x, σ.toks[i]? = some x → toks'[i]? = some x) ∧ (cx = n ∨ ∃ b o, ax = some ⟨b, o, none⟩ ∧ G.tl k = some (n, b, o + n * i.size, o + cx * i.size)) := by
    split at h
    · cases h
      refine ⟨_, _, rfl, rfl, fun m0 r hm => ?_, by simp, fun i hi => by simp at hi; omega, fun q hq x hx => ?_, .inl htail⟩
      · have := tl_old hS hm; simp at this
      · rw [List.getElem?_append_left (List.getElem?_eq_some_iff.1 hx).1]; exact hx
    · rename_i k
      split at h
      · rename_i htk
        obtain ⟨hszi, htk⟩ := htk
        cases h
        refine ⟨k, _, rfl, rfl, fun m0 r hm => ?_, ?_, fun i hi => .inr (by simpa using hi), fun q hq x hx => ?_, ?_⟩
        · have := tl_old hS hm; rw [htk] at this; cases this; rfl
        · have hlt := (List.getElem?_eq_some_iff.1 htk).1
          simp [hlt]
        · rw [List.getElem?_set_ne (Ne.symm hq)]; exact hx
        · obtain ⟨m0, r, hk0, hle, hcase⟩ := htail
          have := tl_old hS hk0
          rw [htk] at this; cases this
          rcases hcase rfl with h | ⟨b, o, h1, h2⟩
          · exact .inl h
          · refine .inr ⟨b, o, h1, ?_⟩
            rw [hk0, h2, hszi]
      · cases h
    · cases h
  subst hav; subst hσ
  clear h
  by_cases hm0 : m = 0
  · -- nothing is appended
    subst hm0
    have hys : ys = [] := List.eq_nil_of_length_eq_zero (by simpa using hyl')
    subst hys
    let G' : Gh := { G with tl := fun q => if q = k then (match G.tl k with | some r => some r | none => some (n, 0, 0, 0)) else G.tl q }
    have hE : Ext G w G' w := by
      refine ⟨rfl, rfl, rfl, rfl, Nat.le_refl _, fun _ c _ _ h => ⟨c, h, rfl, fun _ _ => rfl⟩, fun _ _ h _ => h, fun _ _ h => h, fun _ _ _ h => h, fun _ _ h => h, fun q m0 r hq => ?_, fun _ m r h => ⟨m, r, h, Nat.le_refl _, fun _ => rfl⟩⟩; refine ⟨m0, r, ?_, Nat.le_refl _, fun _ => rfl⟩
      show (if q = k then _ else _) = _
      split
      · rename_i e; subst e; rw [hq]
      · exact hq
    have hG'k : ∃ r, G'.tl k = some (n, r) := by
      show ∃ r, (if k = k then _ else _) = _
      rw [if_pos rfl]
      cases hg : G.tl k with
      | none => exact ⟨_, rfl⟩
      | some p => obtain ⟨m0, r⟩ := p; rw [hkm m0 r hg]; exact ⟨r, rfl⟩
    refine ⟨.slice ax n cx, w, G', run_append_same (w := w) ht hj ax ay n cx cy hncx, hE, ⟨?_, hS.inj, ?_, hS.fresh, fun g cs2 hg => (hS.gl g cs2 hg).mono hE, hS.tot, fun i hi => ?_, hS.lift hE rfl (fun _ _ _ _ _ _ _ c _ hb _ ht => ⟨c, hb, rfl, fun _ _ => rfl, ht⟩), hS.totr⟩, ?_⟩
    case refine_3 =>
      show ∃ p, (if i = k then (match G.tl k with | some r => some r | none => some (n, 0, 0, 0)) else G.tl i) = some p
      by_cases h : i = k
      · rw [if_pos h]; cases G.tl k <;> exact ⟨_, rfl⟩
      · rw [if_neg h]; exact hS.totk i ((htlen i hi).resolve_left h)
    · intro id b hp
      obtain ⟨c2, e2, cs2, h1, h2, h3, h4, h5⟩ := hS.obj id b hp
      exact ⟨c2, e2, cs2, h1, h2, h3, h4, fun j x a hx ha => (h5 j x a hx ha).mono hE⟩
    · intro q m0 b lo hi' hq
      have hq' : (if q = k then (match G.tl k with | some r => some r | none => some (n, 0, 0, 0)) else G.tl q) = some (m0, b, lo, hi') := hq
      by_cases hqk : q = k
      · subst hqk
        rw [if_pos rfl] at hq'
        cases hg : G.tl q with
        | none =>
          rw [hg] at hq'
          cases hq'
          exact ⟨by simpa using hk', fun h => by omega⟩
        | some p =>
          rw [hg] at hq'
          cases hq'
          have h0 := hkm _ _ hg
          obtain ⟨t1, t2⟩ := hS.tok q m0 b lo hi' hg
          refine ⟨?_, t2⟩
          rw [h0]; simpa using hk'
      · rw [if_neg hqk] at hq'
        obtain ⟨t1, t2⟩ := hS.tok q m0 b lo hi' hq'
        exact ⟨hto q hqk _ t1, t2⟩
    · have htl : TailOk G' (.own k) ax n cx i.size := by
        obtain ⟨r, hr⟩ := hG'k
        refine ⟨n, r, hr, Nat.le_refl _, fun _ => ?_⟩
        rcases hreg with h | ⟨b, o, h1, h2⟩
        · exact .inl h
        · have : G'.tl k = some (n, b, o + n * i.size, o + cx * i.size) := by
            show (if k = k then _ else _) = _
            rw [if_pos rfl, h2]
          rw [this] at hr
          cases hr
          exact .inr ⟨b, o, h1, rfl⟩
      rw [List.append_nil, Nat.add_zero]
      by_cases hcs : cs = []
      · subst hcs
        have hn0 : n = 0 := by
          have : n * i.size = 0 := by simpa using hcl'.symm
          rcases Nat.mul_eq_zero.1 this with h | h
          · exact h
          · omega
        subst hn0
        exact .sl0 htl
      · obtain ⟨b, o, hab, hseal, hcell⟩ := hoc hcs
        subst hab
        exact .sl olds hol hcl' hncx (fun j hj => hE.sealed _ _ (hseal j hj)) (fun j x hj => ⟨hcell j x hj, ho1 x (List.mem_of_getElem? hj)⟩) (fun j x b hj hb => (hor j x b hj hb).mono hE) htl
  · have hysne : ys ≠ [] := by
      intro e; subst e
      have : m * i.size = 0 := by simpa using hyl'.symm
      rcases Nat.mul_eq_zero.1 this with h | h <;> omega
    obtain ⟨by', oy, hay, hcelly⟩ := hnc hysne
    subst hay
    have hnews : ∀ j u, news[j]? = some u → w.cell? ((⟨by', oy, none⟩ : Addr).add j) = some u := fun j u hj => by rw [add_at]; exact hcelly j u hj
    have hnl' : news.length = m * j.size := by rw [hnl, hyl', hsize]
    by_cases hroom : n + m ≤ cx
    · -- there is room behind it
      rcases hreg with hreg | ⟨b, o, hax, hk0⟩
      · omega
      subst hax
      obtain ⟨tok1, tok2⟩ := hS.tok k n b _ _ hk0
      have hlohi : o + n * i.size < o + cx * i.size := by
        have : n * i.size < cx * i.size := Nat.mul_lt_mul_of_pos_right (by omega) hpos
        omega
      obtain ⟨cur, el, hb, hcur, htag⟩ := tok2 hlohi
      have hmul : (n + m) * i.size ≤ cx * i.size := Nat.mul_le_mul_right _ hroom
      have hmul2 : (n + m) * i.size = n * i.size + m * i.size := Nat.add_mul ..
      have hfit : o + n * j.size + news.length ≤ cur.size := by rw [hnl', ← hsize]; omega
      have hrun := run_append_into (P := P) (w := w) (ty := ty) ht hj b o n cx cur el hb ⟨by', oy, none⟩ m cy news hnl' hnews hn1 hroom hfit
      have hget : ∀ q : Nat, ((cur.toList.take (o + n * j.size) ++ news ++ cur.toList.drop (o + n * j.size + news.length)).toArray)[q]? = if o + n * j.size ≤ q ∧ q < o + n * j.size + news.length then news[q - (o + n * j.size)]? else cur[q]? := by
        intro q
        have := splice_get cur.toList (o + n * j.size) news (by simpa using hfit) q
        simpa using this
      have hsz2 : ((cur.toList.take (o + n * j.size) ++ news ++ cur.toList.drop (o + n * j.size + news.length)).toArray).size = cur.size := by
        simp; omega
      generalize ((cur.toList.take (o + n * j.size) ++ news ++ cur.toList.drop (o + n * j.size + news.length)).toArray) = cur' at hrun hget hsz2
      rw [hnl'] at hget
      rw [← hsize] at hget
      have hE1 : Ext G w G (w.setRow b cur') := by
        refine ext_setRow hb hsz2 (fun q hq => ?_)
        rw [hget q]
        split
        · rw [htag q (by omega) (by omega)] at hq
          rcases hq with hq | hq <;> cases hq
        · rfl
      let G' : Gh := { G with
        tag := fun x q => if x = b ∧ o + n * i.size ≤ q ∧ q < o + n * i.size + m * i.size then .fixd else G.tag x q
        tl := fun q => if q = k then some (n + m, b, o + (n + m) * i.size, o + cx * i.size) else G.tl q }
      have hE2 : Ext G (w.setRow b cur') G' (w.setRow b cur') := by
        refine ⟨rfl, rfl, rfl, rfl, Nat.le_refl _, fun _ c _ _ h => ⟨c, h, rfl, fun _ _ => rfl⟩, fun _ _ h _ => h, fun x q h => ?_, fun x q _ h => ?_, fun _ _ h => h, fun q m0 r hq => ?_, fun _ m r h => ⟨m, r, h, Nat.le_refl _, fun _ => rfl⟩⟩
        · show (if _ then _ else _) = _
          split
          · rfl
          · exact h
        · show (if _ then _ else _) = _
          split
          · rename_i hc
            obtain ⟨rfl, h1, h2⟩ := hc
            rw [htag q (by omega) (by omega)] at h; cases h
          · exact h
        · show ∃ m' r', (if q = k then _ else _) = some (m', r') ∧ _
          by_cases hqk : q = k
          · subst hqk
            rw [if_pos rfl]
            have := hkm m0 r hq
            exact ⟨_, _, rfl, by omega, fun e => by omega⟩
          · rw [if_neg hqk]
            exact ⟨m0, r, hq, Nat.le_refl _, fun _ => rfl⟩
      have hE := hE1.trans hE2
      have htag' : ∀ x q, ¬ (x = b ∧ o + n * i.size ≤ q ∧ q < o + n * i.size + m * i.size) → G'.tag x q = G.tag x q := fun x q h => by
        show (if _ then _ else _) = _
        rw [if_neg h]
      refine ⟨_, _, G', hrun, hE, ⟨?_, hS.inj, ?_, ?_, fun g cs2 hg => (hS.gl g cs2 hg).mono hE, hS.tot, fun i' hi' => ?_, hS.lift hE rfl (fun k2 gc2 b2 o2 C2 hk2 hC2 c2 e2 hb2 hoc2 ht2 => ?_), hS.totr⟩, ?_⟩
      case refine_5 =>
        have hdis : ∀ j, j < C2 → ¬ (b2 = b ∧ o + n * i.size ≤ o2 + j ∧ o2 + j < o + n * i.size + m * i.size) := fun j hj ⟨e, h1, h2⟩ => by
          subst e
          have := ht2 j hj
          rw [htag _ (by omega) (by omega)] at this; cases this
        by_cases hne : b2 = b
        · subst hne
          rw [hb] at hb2; cases hb2
          exact ⟨cur', setRow_heap w b2 cur cur' el (0, 0) hb, hsz2, fun j hj => by rw [hget, if_neg (fun h => hdis j hj ⟨rfl, h.1, h.2⟩)], fun j hj => by rw [htag' _ _ (hdis j hj)]; exact ht2 j hj⟩
        · exact ⟨c2, by rw [setRow_other w b b2 cur' hne]; exact hb2, rfl, fun _ _ => rfl, fun j hj => by rw [htag' _ _ (hdis j hj)]; exact ht2 j hj⟩
      case refine_4 =>
        show ∃ p, (if i' = k then some (n + m, b, o + (n + m) * i.size, o + cx * i.size) else G.tl i') = some p
        by_cases h : i' = k
        · rw [if_pos h]; exact ⟨_, rfl⟩
        · rw [if_neg h]; exact hS.totk i' ((htlen i' hi').resolve_left h)
      · intro id b2 hp
        obtain ⟨c2, e2, cs2, h1, h2, h3, h4, h5⟩ := hS.obj id b2 hp
        have hne : b2 ≠ b := by
          intro e; subst e
          rw [hb] at h2; cases h2
          have h6 := h4 (o + n * i.size) (by omega)
          rw [htag _ (by omega) (by omega)] at h6; cases h6
        refine ⟨c2, e2, cs2, h1, by rw [setRow_other w b b2 cur' hne]; exact h2, h3, fun q hq => ?_, fun q u av hu hav => (h5 q u av hu hav).mono hE⟩
        rw [htag' _ _ (fun h => hne h.1)]; exact h4 q hq
      · intro q m0 b2 lo hi' hq
        have hq' : (if q = k then some (n + m, b, o + (n + m) * i.size, o + cx * i.size) else G.tl q) = some (m0, b2, lo, hi') := hq
        by_cases hqk : q = k
        · subst hqk
          rw [if_pos rfl] at hq'
          cases hq'
          refine ⟨hk', fun _ => ⟨cur', el, setRow_heap w b cur cur' el (0, 0) hb, by rw [hsz2]; exact hcur, fun z hz hz2 => ?_⟩⟩
          rw [htag' _ _ (by omega)]
          exact htag z (by omega) hz2
        · rw [if_neg hqk] at hq'
          obtain ⟨t1, t2⟩ := hS.tok q m0 b2 lo hi' hq'
          refine ⟨hto q hqk _ t1, fun hlt => ?_⟩
          obtain ⟨c2, e2, g1, g2, g3⟩ := t2 hlt
          have hdis : ∀ z, lo ≤ z → z < hi' → ¬ (b2 = b ∧ o + n * i.size ≤ z ∧ z < o + n * i.size + m * i.size) := by
            intro z hz hz2 ⟨e, h1, h2⟩
            subst e
            have := g3 z hz hz2
            rw [htag z (by omega) (by omega)] at this
            cases this; exact hqk rfl
          by_cases hb2 : b2 = b
          · subst hb2
            rw [hb] at g1; cases g1
            exact ⟨cur', el, setRow_heap w b2 cur cur' el (0, 0) hb, by rw [hsz2]; exact g2, fun z hz hz2 => by rw [htag' _ _ (hdis z hz hz2)]; exact g3 z hz hz2⟩
          · exact ⟨c2, e2, by rw [setRow_other w b b2 cur' hb2]; exact g1, g2, fun z hz hz2 => by rw [htag' _ _ (hdis z hz hz2)]; exact g3 z hz hz2⟩
      · intro b2 q hq
        rw [htag' _ _ (fun h => ?_)]
        · exact hS.fresh b2 q (by simpa using hq)
        · have := (Array.getElem?_eq_some_iff.1 hb).1
          have hq2 : w.heap.size ≤ b2 := by simpa using hq
          omega
      · have hcs0 : cs = [] ∨ cs ≠ [] := by by_cases h : cs = [] <;> simp [h]
        have holdseal : ∀ q, q < cs.length → G.tag b (o + q) = .fixd := by
          intro q hq
          have hne : cs ≠ [] := fun e => by subst e; simp at hq
          obtain ⟨b3, o3, h1, h2, _⟩ := hoc hne
          cases h1
          exact h2 q hq
        have holdcell : ∀ (q : Nat) u, olds[q]? = some u → w.cell? ⟨b, o + q, none⟩ = some u := by
          intro q u hu
          have hne : cs ≠ [] := fun e => by subst e; simp at hol; subst hol; simp at hu
          obtain ⟨b3, o3, h1, _, h2⟩ := hoc hne
          cases h1
          exact h2 q u hu
        refine .sl (olds ++ news) (by simp [hol, hnl]) (by simp [hcl', hyl', Nat.add_mul]) hroom ?_ ?_ ?_ ?_
        · intro q hq
          by_cases h1 : q < cs.length
          · exact hE2.sealed _ _ (holdseal q h1)
          · show (if _ then _ else _) = _
            rw [List.length_append, hcl', hyl'] at hq
            rw [hcl'] at h1
            rw [if_pos ⟨rfl, by omega, by omega⟩]
        · intro q u hu
          refine ⟨?_, ?_⟩
          · rw [heap_cell (setRow_heap w b cur cur' el (0, 0) hb), hget]
            by_cases h1 : q < olds.length
            · rw [List.getElem?_append_left h1] at hu
              rw [if_neg (by rw [hol, hcl'] at h1; omega)]
              have := holdcell q u hu
              rw [heap_cell hb] at this; exact this
            · rw [List.getElem?_append_right (by omega)] at hu
              have hlt := (List.getElem?_eq_some_iff.1 hu).1
              rw [hol, hcl'] at h1
              rw [hol, hcl'] at hlt hu
              rw [hnl, hyl'] at hlt
              rw [if_pos ⟨by omega, by omega⟩]
              rw [← hu]; congr 1; omega
          · have := List.mem_of_getElem? hu
            rcases List.mem_append.1 this with h | h
            · exact ho1 u h
            · exact hn1 u h
        · intro q u av hu hav
          by_cases h1 : q < olds.length
          · rw [List.getElem?_append_left h1] at hu
            rw [List.getElem?_append_left (by omega)] at hav
            exact (hor q u av hu hav).mono hE
          · rw [List.getElem?_append_right (by omega)] at hu
            rw [List.getElem?_append_right (by omega)] at hav
            rw [hol] at hu
            exact (hnr _ u av hu hav).mono hE
        · refine ⟨n + m, _, ?_, Nat.le_refl _, fun _ => .inr ⟨b, o, rfl, rfl⟩⟩
          show (if k = k then _ else _) = _
          rw [if_pos rfl]
    · -- new memory
      have hneed : cx < n + m := by omega
      have h63 : ((n + m : Nat) : Int) ≤ 9223372036854775807 := by simp only [maxLen] at hmax; omega
      have hfit : Builtin.nextslicecap (n + m) cx * j.bytes ≤ 281474976710656 := growslice_fits hneed (by rw [← hby]; exact hbytes)
      have hge := grownCap_ge w (n + m) cx e
      have holl : olds.length = n * j.size := by rw [hol, hcl', hsize]
      obtain ⟨hrun⟩ : Nonempty ((Builtin.append_ #[t, t] ty #[.slice ax n cx, .slice (some ⟨by', oy, none⟩) m cy]).run P w = .ok (.slice (some ⟨w.heap.size, 0, none⟩) (n + m) (grownCap w (n + m) cx e))
          (w.drew.alloc (.cells (olds.toArray ++ news.toArray ++ Builtin.zeroCells i.zero.cells (grownCap w (n + m) cx e - (n + m))) e))) := by
        cases ax with
        | none =>
          have hcx : cx = n := by
            rcases hreg with h | ⟨b, o, h, _⟩
            · exact h
            · cases h
          have hcs : cs = [] := by
            by_cases h : cs = []
            · exact h
            · obtain ⟨b, o, h1, _⟩ := hoc h; cases h1
          have hn0 : n = 0 := by
            subst hcs
            have : n * i.size = 0 := by simpa using hcl'.symm
            rcases Nat.mul_eq_zero.1 this with h | h <;> omega
          subst hn0; subst hcx
          have hols : olds = [] := List.eq_nil_of_length_eq_zero (by simpa using holl)
          subst hols
          have := run_append_nil (P := P) w t ty e j i.zero ht hj hz ⟨by', oy, none⟩ m cy news hnl' hnews (by omega) (by simpa using h63) (by rw [← hby]; unfold roomA at hbytes; simp only [Nat.zero_add] at hbytes; omega)
          simp only [Nat.zero_add] at this ⊢
          refine ⟨?_⟩; simpa using this
        | some b0 =>
          refine ⟨run_append_grow (P := P) w t ty e j i.zero ht hj hz b0 n cx olds holl (fun q u hq => ?_) ⟨by', oy, none⟩ m cy news hnl' hnews hneed h63 hfit⟩
          have hne : cs ≠ [] := fun e => by subst e; simp at hol; subst hol; simp at hq
          obtain ⟨b, o, h1, _, h2⟩ := hoc hne
          cases h1
          rw [add_at]; exact h2 q u hq
      have hcs2 : (olds.toArray ++ news.toArray ++ Builtin.zeroCells i.zero.cells (grownCap w (n + m) cx e - (n + m))).size = grownCap w (n + m) cx e * i.size := by
        simp only [Array.size_append, List.size_toArray, size_zeroCells, hzs, holl, hnl', ← hsize]
        rw [← Nat.add_mul, ← Nat.add_mul]
        congr 1; omega
      have hcell2 : ∀ (q : Nat) u, (olds ++ news)[q]? = some u → (olds.toArray ++ news.toArray ++ Builtin.zeroCells i.zero.cells (grownCap w (n + m) cx e - (n + m)))[q]? = some u := by
        intro q u hu
        have hlt := (List.getElem?_eq_some_iff.1 hu).1
        rw [Array.getElem?_append_left (by simpa using hlt)]
        simpa using hu
      generalize (olds.toArray ++ news.toArray ++ Builtin.zeroCells i.zero.cells (grownCap w (n + m) cx e - (n + m))) = c2 at hrun hcs2 hcell2
      have hle2 : (n + m) * i.size ≤ c2.size := by rw [hcs2]; exact Nat.mul_le_mul_right _ hge
      obtain ⟨hE1, hS1⟩ := newRow_sound hS.drew e c2 ((n + m) * i.size) k (n + m) toks' (fun m0 r h => by have := hkm m0 r h; omega) hk' htlen hto
      have hE := (ext_drew G w).trans hE1
      refine ⟨_, _, _, hrun, hE, hS1, ?_⟩
      refine .sl (olds ++ news) (by simp [hol, hnl]) (by simp [hcl', hyl', Nat.add_mul]) hge ?_ ?_ ?_ ?_
      · intro q hq
        show (if w.heap.size = w.heap.size then _ else _) = _
        rw [if_pos rfl, if_pos]
        simp only [List.length_append, hcl', hyl', ← Nat.add_mul] at hq
        omega
      · intro q u hu
        refine ⟨?_, ?_⟩
        · have hh : (w.drew.alloc (.cells c2 e)).heap[w.heap.size]? = some (.cells c2 e (0, 0)) := heap_alloc_new w.drew _
          rw [heap_cell hh, Nat.zero_add]; exact hcell2 q u hu
        · have := List.mem_of_getElem? hu
          rcases List.mem_append.1 this with h | h
          · exact ho1 u h
          · exact hn1 u h
      · intro q u av hu hav
        by_cases h1 : q < olds.length
        · rw [List.getElem?_append_left h1] at hu
          rw [List.getElem?_append_left (by omega)] at hav
          exact (hor q u av hu hav).mono hE
        · rw [List.getElem?_append_right (by omega)] at hu
          rw [List.getElem?_append_right (by omega)] at hav
          rw [hol] at hu
          exact (hnr _ u av hu hav).mono hE
      · refine ⟨n + m, (w.heap.size, (n + m) * i.size, c2.size), ?_, Nat.le_refl _, fun _ => .inr ⟨w.heap.size, 0, rfl, ?_⟩⟩
        · show (if k = k then _ else _) = _
          rw [if_pos rfl]; rfl
        · rw [hcs2]; simp
theorem ofCell_sound {G : Gh} {w : World} {x : Value} {a : AV} (h : ofCell x = some a) : AVR G w x a := by
  unfold ofCell at h
  split at h
  · cases h; exact .sl0 rfl
  · rename_i f first caps
    split at h
    · rename_i hc
      cases h
      have e1 : first = #[] := Array.eq_empty_of_size_eq_zero hc.1
      have e2 : caps = #[] := Array.eq_empty_of_size_eq_zero hc.2
      subst e1; subst e2
      exact .fn rfl (by simp)
    · cases h
  · split at h
    · cases h; exact .v (by assumption)
    · cases h

theorem ofCells_sound {G : Gh} {w : World} : ∀ {l : List Value} {as9 : List AV}, ofCells l = some as9 → l.length = as9.length ∧ ∀ (j : Nat) x a, l[j]? = some x → as9[j]? = some a → AVR G w x a
  | [], as9, h => by simp [ofCells] at h; subst h; simp
  | x :: l, as9, h => by
    unfold ofCells at h
    split at h
    · rename_i a as9' ha hs
      cases h
      obtain ⟨h1, h2⟩ := ofCells_sound (G := G) (w := w) hs
      refine ⟨by simp [h1], fun j x a hx hj => ?_⟩
      match j with
      | 0 => simp at hx hj; subst hx; subst hj; exact ofCell_sound ha
      | j + 1 => exact h2 j x a (by simpa using hx) (by simpa using hj)
    · cases h

theorem ofValue_sound {G : Gh} {w : World} {x : Value} {a : AV} (h : ofValue x = some a) : AVR G w x a := by
  unfold ofValue at h
  split at h
  · rename_i cs
    cases hc : ofCells cs.toList with
    | none => simp [hc] at h
    | some as9 =>
      simp [hc] at h
      subst h
      obtain ⟨h1, h2⟩ := ofCells_sound (G := G) (w := w) hc
      exact .agg (by simpa using h1) (fun j x a hx ha => h2 j x a (by simpa using hx) ha)
  · exact ofCell_sound h

section
variable {P : Program} {G : Gh} {w : World} {σ : St} {a : Act} {ρ : Nat → AV}

theorem evalA_sound (hS : RelS G w σ) (henv : ∀ i, AVR G w (a.tmps.getD i undef) (ρ i)) {x : Operand} {av : AV} (h : evalA ρ σ x = some av) : AVR G w (a.eval x) av := by
  cases x with
  | tmp t => simp [evalA] at h; subst h; exact henv t
  | const v => exact ofValue_sound h
  | global g =>
    simp only [evalA] at h
    cases hg : σ.gl g with
    | none => simp [hg] at h
    | some cs => simp [hg] at h; subst h; exact hS.gl g cs hg
  | func f => simp [evalA] at h; subst h; exact .fn rfl (by simp)

theorem evalsA_sound (hS : RelS G w σ) (henv : ∀ i, AVR G w (a.tmps.getD i undef) (ρ i)) : ∀ {l : List (Nat × Operand)} {ps : List (Nat × AV)}, evalsA ρ σ l = some ps →
    Fa2 (fun (p : Nat × Value) (q : Nat × AV) => p.1 = q.1 ∧ AVR G w p.2 q.2) (l.map fun p => (p.1, a.eval p.2)) ps
  | [], ps, h => by simp [evalsA] at h; subst h; exact .nil
  | (i, x) :: l, ps, h => by
    unfold evalsA at h
    split at h
    · rename_i av as9 hx hs
      cases h
      exact .cons ⟨rfl, evalA_sound hS henv hx⟩ (evalsA_sound hS henv hs)
    · cases h

theorem evalAll_sound (hS : RelS G w σ) (henv : ∀ i, AVR G w (a.tmps.getD i undef) (ρ i)) : ∀ {l : List Operand} {ps : List AV}, evalAll ρ σ l = some ps → Fa2 (AVR G w) (l.map a.eval) ps
  | [], ps, h => by simp [evalAll] at h; subst h; exact .nil
  | x :: l, ps, h => by
    unfold evalAll at h
    split at h
    · rename_i av as9 hx hs
      cases h
      exact .cons (evalA_sound hS henv hx) (evalAll_sound hS henv hs)
    · cases h

theorem forall2_get {α β : Type} {R : α → β → Prop} : ∀ {l : List α} {m : List β}, Fa2 R l m → l.length = m.length ∧ ∀ (j : Nat) x y, l[j]? = some x → m[j]? = some y → R x y
  | _, _, .nil => by simp
  | _, _, .cons h t => by
    obtain ⟨h1, h2⟩ := forall2_get t
    refine ⟨by simp [h1], fun j x y hx hy => ?_⟩
    match j with
    | 0 => simp at hx hy; subst hx; subst hy; exact h
    | j + 1 => exact h2 j x y (by simpa using hx) (by simpa using hy)

theorem allPlain_sound : ∀ {as9 : List AV} {l : List Value}, allPlain as9 = some l → as9 = l.map .v
  | [], l, h => by simp [allPlain] at h; subst h; rfl
  | .v x :: as9, l, h => by
    unfold allPlain at h
    split at h
    · cases hs : allPlain as9 with
      | none => simp [hs] at h
      | some l' => simp [hs] at h; subst h; simp [allPlain_sound hs]
    · cases h
  | .agg _ :: _, _, h | .tup _ :: _, _, h | .sl .. :: _, _, h | .ep _ :: _, _, h | .ptr .. :: _, _, h | .bs .. :: _, _, h | .fn .. :: _, _, h => by simp [allPlain] at h

theorem AVR.v_eq {x y : Value} (h : AVR G w x (.v y)) : x = y := by cases h; rfl
theorem plainOf_sound {x y : Value} {a : AV} (hx : AVR G w x a) (h : plainOf a = some y) : x = y := by
  unfold plainOf at h
  split at h
  · cases h; exact hx.v_eq
  · rename_i cs
    cases hs : allPlain cs with
    | none => simp [hs] at h
    | some l =>
      simp [hs] at h
      subst h
      cases hx with
      | agg hl hr =>
        rename_i xs
        have e := allPlain_sound hs
        subst e
        congr 1
        apply Array.ext
        · simpa using hl
        · intro j h1 h2
          have h2' : j < l.length := by simpa using h2
          have := hr j _ (.v l[j]) (Array.getElem?_eq_getElem h1) (by simp [h2'])
          simpa using this.v_eq
  · cases h

theorem partA_sound {t : TypeId} {cs : Array Value} {as9 : List AV} {off : Nat} {av : AV} (hl : cs.size = as9.length) (hr : ∀ (j : Nat) x a, cs[j]? = some x → as9[j]? = some a → AVR G w x a) (h : partA P t as9 off = some av) :
    ∃ y, (part t cs off).run P w = .ok y w ∧ AVR G w y av := by
  unfold partA at h
  split at h
  · rename_i i hi
    obtain ⟨d, j, hd, hj, hz, hag, hsz, hby⟩ := ti_some hi
    unfold part
    rw [Sem.run_bind, run_isAgg w hd]
    simp only [Result.andThen_ok]
    by_cases ha : descAgg d = true
    · rw [hag, ha] at h
      simp only [if_true] at h
      split at h
      · rename_i hle
        cases h
        rw [if_pos ha]
        simp only [Sem.run_bind, run_sizeOf w hj, Result.andThen_ok, Sem.run_pure]
        refine ⟨_, rfl, .agg (by simp; omega) (fun k x a hx hka => ?_)⟩
        rw [Array.getElem?_extract] at hx
        rw [List.getElem?_take] at hka
        split at hka
        · rw [List.getElem?_drop] at hka
          split at hx
          · exact hr _ _ _ hx hka
          · cases hx
        · cases hka
      · cases h
    · rw [hag, if_neg ha] at h
      rw [if_neg ha]
      have hlt := (List.getElem?_eq_some_iff.1 h).1
      have hx : cs[off]? = some (cs[off]'(by omega)) := Array.getElem?_eq_getElem _
      rw [hx]
      exact ⟨_, rfl, hr _ _ _ hx h⟩
  · cases h

theorem list_fill (cs : List Value) (off : Nat) : ∀ (vs : List Value) (k : Nat) (cur : Array Value), off + k + vs.length ≤ cur.size →
    ((vs.zipIdx k).foldl (fun (c : Array Value) (x : Value × Nat) => c.setIfInBounds (off + x.2) x.1) cur).toList = cur.toList.take (off + k) ++ vs ++ cur.toList.drop (off + k + vs.length)
  | [], k, cur, _ => by simp
  | v :: vs, k, cur, h => by
    simp only [List.length_cons] at h
    simp only [List.zipIdx_cons, List.foldl_cons]
    rw [list_fill cs off vs (k + 1) (cur.setIfInBounds (off + k) v) (by simp; omega)]
    apply List.ext_getElem?
    intro j
    have e1 := splice_get cur.toList (off + k) (v :: vs) (by simp; omega) j
    have e2 := splice_get (cur.setIfInBounds (off + k) v).toList (off + (k + 1)) vs (by simp; omega) j
    rw [e1, e2]
    simp only [List.length_cons, Array.getElem?_toList, Array.getElem?_setIfInBounds]
    by_cases c1 : off + (k + 1) ≤ j ∧ j < off + (k + 1) + vs.length
    · rw [if_pos c1, if_pos (by omega)]
      rw [show j - (off + k) = (j - (off + (k + 1))) + 1 by omega, List.getElem?_cons_succ]
    · rw [if_neg c1]
      by_cases c2 : off + k = j
      · subst c2
        rw [if_pos rfl, if_pos (by omega), if_pos (by omega)]; simp
      · rw [if_neg c2, if_neg (by omega)]

theorem fill_sound (p : Nat → Option (Nat × Nat)) (pl : List (Nat × Nat)) (hp : ∀ (i : Nat) x, pl[i]? = some x → p i = some x) :
    ∀ (vs : List (Nat × Value)) (as9 : List (Nat × AV)) (cur : Array Value) (cs out : List AV), Fa2 (fun (p : Nat × Value) (q : Nat × AV) => p.1 = q.1 ∧ AVR G w p.2 q.2) vs as9 →
      cur.size = cs.length → (∀ (j : Nat) x a, cur[j]? = some x → cs[j]? = some a → AVR G w x a) → fillA pl cs as9 = some out →
      ∃ c, Instr.fill p cur vs = some c ∧ c.size = out.length ∧ ∀ (j : Nat) x a, c[j]? = some x → out[j]? = some a → AVR G w x a := by
  intro vs as9 cur cs out h
  induction h generalizing cur cs with
  | nil => intro hl hr h; simp [fillA] at h; subst h; exact ⟨cur, rfl, hl, hr⟩
  | cons hd tl ih =>
    rename_i v a vs as9
    obtain ⟨i, x⟩ := v
    obtain ⟨i', av⟩ := a
    obtain ⟨rfl, hx⟩ := hd
    intro hl hr h
    unfold fillA at h
    split at h
    · rename_i off size hpl
      split at h
      · rename_i hc
        obtain ⟨hsz, hfit⟩ := hc
        obtain ⟨hce, hcr⟩ := AVR.cells_eq hx
        simp only at hce hcr
        unfold Instr.fill
        rw [hp _ _ hpl]
        simp only
        rw [if_neg (by rw [hce]; simp; omega)]
        have hf := list_fill [] off x.cells.toList 0 cur (by simp [hce]; omega)
        have harr : (x.cells.zipIdx.foldl (fun cs (c, j) => cs.setIfInBounds (off + j) c) cur) = (cur.toList.take off ++ x.cells.toList ++ cur.toList.drop (off + x.cells.size)).toArray := by
          apply Array.ext'
          rw [← Array.foldl_toList, Array.toList_zipIdx]
          simpa using hf
        rw [harr]
        refine ih _ _ (by simp [splice, hce]; omega) (fun j y b hy hb => ?_) h
        have e1 := splice_get cur.toList off x.cells.toList (by simp [hce]; omega) j
        have e2 := splice_get cs off av.cells (by omega) j
        unfold splice at hb
        rw [e2] at hb
        rw [List.getElem?_toArray] at hy
        simp only [Array.length_toList] at e1
        rw [e1] at hy
        simp only [hce] at hy
        split at hy
        · rename_i hc
          rw [if_pos hc] at hb
          exact hcr _ _ _ (by simpa using hy) hb
        · rename_i hc
          rw [if_neg hc] at hb
          exact hr _ _ _ (by simpa using hy) hb
      · cases h
    · cases h

theorem zeroA_sound {t : TypeId} {z : AV} (h : zeroA P t = some z) : ∃ zv, (zeroValue t).run P w = .ok zv w ∧ AVR G w zv z := by
  unfold zeroA at h
  split at h
  · rename_i i hi
    obtain ⟨d, j, hd, hj, hz, _⟩ := ti_some hi
    refine ⟨i.zero, ?_, ofValue_sound h⟩; simp [zeroValue, typeInfo, hj, hz]
  · cases h

theorem build_sound {t : TypeId} {vs : List (Nat × Value)} {ps : List (Nat × AV)} {av : AV} (hv : Fa2 (fun (p : Nat × Value) (q : Nat × AV) => p.1 = q.1 ∧ AVR G w p.2 q.2) vs ps) (h : buildA P t ps = some av) :
    ∃ y, (Instr.build t vs.toArray).run P w = .ok y w ∧ AVR G w y av := by
  unfold buildA at h
  split at h
  · rename_i cs pl hz hpl
    obtain ⟨zv, hzr, hzv⟩ := zeroA_sound (G := G) (w := w) hz
    cases hzv with
    | agg hl hr =>
    rename_i zs
    cases hf : fillA pl cs ps with
    | none => simp [hf] at h
    | some out =>
      simp [hf] at h
      subst h
      unfold placesA at hpl
      split at hpl
      · rename_i fs hd
        split at hpl
        case h_2 => cases hpl
        case h_1 arr hm =>
          cases hpl
          have hrun := pureRun_run P w _ _ hm
          obtain ⟨c, hc, hcl, hcr⟩ := fill_sound (fun i => arr[i]?) arr.toList (fun i x h => by simpa using h) vs ps zs cs out hv hl hr hf
          refine ⟨.agg c, ?_, .agg hcl hcr⟩
          unfold Instr.build
          simp only [Sem.run_bind, hzr, Result.andThen_ok, run_underlying hd, Value.cells]
          rw [hrun]
          simp only [Result.andThen_ok, hc]
          rfl
      · rename_i n e hd
        split at hpl
        case h_2 => cases hpl
        case h_1 s hm =>
          cases hpl
          have hrun := pureRun_run P w _ _ hm
          obtain ⟨c, hc, hcl, hcr⟩ := fill_sound (fun i => some (i * s, s)) _ (fun i x h => by
            simp only [List.getElem?_map] at h
            by_cases hi : i < n
            · simp [hi] at h; rw [h]
            · simp [hi] at h) vs ps zs cs out hv hl hr hf
          refine ⟨.agg c, ?_, .agg hcl hcr⟩
          unfold Instr.build
          simp only [Sem.run_bind, hzr, Result.andThen_ok, run_underlying hd, Value.cells]
          rw [hrun]
          simp only [Result.andThen_ok, hc]
          rfl
      · cases hpl
  · cases h

end
end Go.Vm
