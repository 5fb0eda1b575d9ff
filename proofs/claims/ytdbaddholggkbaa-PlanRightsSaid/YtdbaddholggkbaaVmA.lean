import Derived.Calls
import Derived.Laws.Rows
import Derived.Laws.Append
import Derived.Laws.AppendOwn
import Derived.Laws.CopyRow
import Derived.Laws.Cells
import Derived.Laws.World
import Derived.Laws.Sem
/-
  Values without memory: what a Go function computes, told by plain lists.
-/
namespace Go.Vm
set_option linter.unnecessarySimpa false
set_option linter.unusedSimpArgs false
set_option linter.unusedVariables false
open Go

inductive Tail where
  | shut
  | full
  | own (t : Nat)
  deriving DecidableEq, Repr

inductive AV where
  | v (x : Value)
  | agg (cs : List AV)
  | tup (vs : List AV)
  | sl (sz : Nat) (cs : List AV) (n : Nat) (t : Tail)
  | ep (cs : List AV)
  | ptr (id off : Nat)
  | bs (id off sz n : Nat)
  | fn (f : Nat) (caps : List AV)
  | row (k g off sz n : Nat)
  | rp (k g off : Nat)
  | any
  deriving Inhabited

inductive Fa2 {α β : Type} (R : α → β → Prop) : List α → List β → Prop
  | nil : Fa2 R [] []
  | cons {a b l m} (h : R a b) (t : Fa2 R l m) : Fa2 R (a :: l) (b :: m)

/-- A row: a list that may be written and grow in place; each growing is a new age of it. What is behind its cells: counted, or not known. -/
structure RowSt where
  gen : Nat
  cells : List AV
  spare : Option Nat

structure St where
  objs : List (List AV)
  toks : List Nat
  gl : Nat → Option (List AV)
  rows : List RowSt

def AV.cells : AV → List AV
  | .agg cs => cs
  | a => [a]

@[simp] theorem AV.cells_row (k g off sz n : Nat) : (AV.row k g off sz n).cells = [.row k g off sz n] := rfl
@[simp] theorem AV.cells_rp (k g off : Nat) : (AV.rp k g off).cells = [.rp k g off] := rfl
@[simp] theorem AV.cells_any : AV.any.cells = [.any] := rfl

def undefA : AV := .v (.tuple #[])

/-- A value that hangs on no memory. -/
def plain : Value → Bool
  | .bool _ | .int _ _ | .string _ | .pointer none | .nilFunc => true
  | .tuple vs => vs.size == 0
  | _ => false

def ofCell : Value → Option AV
  | .slice none 0 0 => some (.sl 0 [] 0 .full)
  | .func (.func f) first caps => if first.size = 0 ∧ caps.size = 0 then some (.fn f []) else none
  | x => if plain x then some (.v x) else none

def ofCells : List Value → Option (List AV)
  | [] => some []
  | x :: l => match ofCell x, ofCells l with
    | some a, some as => some (a :: as)
    | _, _ => none

def ofValue : Value → Option AV
  | .agg cs => (ofCells cs.toList).map .agg
  | x => ofCell x

/-- The cells of a list that may be read. -/
def readA (σ : St) : AV → Option (Nat × List AV × Nat)
  | .sl sz cs n _ => some (sz, cs, n)
  | .row k g off sz n => match σ.rows[k]? with
    | some r => if r.gen = g ∧ off + n * sz ≤ r.cells.length then some (sz, (r.cells.drop off).take (n * sz), n) else none
    | none => none
  | _ => none

@[simp] theorem readA_sl (σ : St) (sz : Nat) (cs : List AV) (n : Nat) (t : Tail) : readA σ (.sl sz cs n t) = some (sz, cs, n) := rfl

/-- May it lie in one cell? -/
def AV.isCell : AV → Bool
  | .v (.tuple _) | .v (.agg _) | .agg _ | .tup _ => false
  | _ => true

/-- A run that asks nothing of memory. -/
def pureRun {α : Type} (P : Program) : Sem α → Option α
  | .pure a => some a
  | .program k => pureRun P (k P)
  | .mark _ k => pureRun P k
  | _ => none

theorem pureRun_run {α : Type} (P : Program) (w : World) : ∀ (s : Sem α) (a : α), pureRun P s = some a → s.run P w = .ok a w
  | .pure a, b, h => by simp [pureRun] at h; subst h; rfl
  | .program k, b, h => by simp only [pureRun] at h; simp only [Sem.run]; exact pureRun_run P w (k P) b h
  | .mark m k, b, h => by simp only [pureRun] at h; simp only [Sem.run]; exact pureRun_run P w k b h
  | .load .., _, h | .store .., _, h | .new .., _, h | .shape .., _, h | .freeze .., _, h | .frozen .., _, h | .getObj .., _, h | .setObj .., _, h
  | .choose .., _, h | .sys .., _, h | .halt .., _, h => by simp [pureRun] at h

/-- What is told of a type. -/
structure TI where
  agg : Bool
  size : Nat
  bytes : Nat
  zero : Value

def descAgg : TypeDesc → Bool
  | .struct _ | .array _ _ => true
  | _ => false

def ti (P : Program) (t : TypeId) : Option TI :=
  match P.underlying t, P.info? t with
  | some d, some i => match i.zero with
    | some z => some ⟨descAgg d, i.size, i.bytes, z⟩
    | none => none
  | _, _ => none

/-- A slice type's element type. -/
def elemT (P : Program) (t : TypeId) : Option TypeId :=
  match P.underlying t with
  | some (.slice e) => some e
  | _ => none

/-- An array type's length and element type. -/
def arrT (P : Program) (t : TypeId) : Option (Nat × TypeId) :=
  match P.underlying t with
  | some (.array n e) => some (n, e)
  | _ => none

/-- A struct's field: its place and its type. -/
def fieldT (P : Program) (t : TypeId) (f : Nat) : Option (Nat × TypeId) :=
  match P.underlying t with
  | some (.struct fs) => match fs[f]? with
    | some x => some (x.offset, x.type)
    | none => none
  | _ => none

def partA (P : Program) (t : TypeId) (cs : List AV) (off : Nat) : Option AV :=
  match ti P t with
  | some i => if i.agg then (if off + i.size ≤ cs.length then some (.agg ((cs.drop off).take i.size)) else none) else cs[off]?
  | none => none

def splice (cs : List AV) (off : Nat) (vs : List AV) : List AV := cs.take off ++ vs ++ cs.drop (off + vs.length)

def intA : AV → Option Int
  | .v (.int _ n) => some n
  | _ => none

def allPlain : List AV → Option (List Value)
  | [] => some []
  | .v x :: l => if plain x && x.oneCell' then (allPlain l).map (x :: ·) else none
  | _ :: _ => none

def plainOf : AV → Option Value
  | .v x => some x
  | .agg cs => (allPlain cs).map fun l => .agg l.toArray
  | _ => none

def loadA (P : Program) (t : TypeId) (a : AV) (σ : St) : Option AV :=
  match a with
  | .ep cs => partA P t cs 0
  | .ptr id off => match σ.objs[id]? with
    | some cs => partA P t cs off
    | none => none
  | .rp k g off => match σ.rows[k]?, ti P t with
    | some r, some i => if r.gen = g ∧ 0 < i.size then partA P t r.cells off else none
    | _, _ => none
  | _ => none

def storeA (P : Program) (t : TypeId) (a v : AV) (σ : St) : Option St :=
  match a with
  | .ptr id off => match σ.objs[id]?, ti P t with
    | some cs, some i => if v.cells.length = i.size ∧ off + i.size ≤ cs.length ∧ v.cells.all AV.isCell then some { σ with objs := σ.objs.set id (splice cs off v.cells) } else none
    | _, _ => none
  | .rp k g off => match σ.rows[k]?, ti P t with
    | some r, some i => if r.gen = g ∧ v.cells.length = i.size ∧ off + i.size ≤ r.cells.length ∧ v.cells.all AV.isCell then some { σ with rows := σ.rows.set k { r with cells := splice r.cells off v.cells } } else none
    | _, _ => none
  | _ => none

def fieldAddrA (P : Program) (t : TypeId) (f : Nat) (a : AV) : Option AV :=
  match fieldT P t f with
  | some (o, ft) => match ti P ft with
    | some i => if i.size = 0 then none else match a with
      | .ptr id off => some (.ptr id (off + o))
      | .ep cs => some (.ep (cs.drop o))
      | .rp k g off => some (.rp k g (off + o))
      | _ => none
    | none => none
  | none => none

def indexAddrA (P : Program) (t : TypeId) (a ix : AV) : Option AV :=
  match intA ix with
  | none => none
  | some i => match elemT P t with
    | some e => match ti P e with
      | some ei => match a with
        | .sl sz cs n _ => if sz = ei.size ∧ 0 ≤ i ∧ i < n ∧ 0 < sz then some (.ep (cs.drop (i.toNat * ei.size))) else none
        | .bs id off sz n => if sz = ei.size ∧ 0 ≤ i ∧ i < n ∧ 0 < sz then some (.ptr id (off + i.toNat * ei.size)) else none
        | .row k g off sz n => if sz = ei.size ∧ 0 ≤ i ∧ i < n ∧ 0 < sz then some (.rp k g (off + i.toNat * ei.size)) else none
        | _ => none
      | none => none
    | none => match arrT P t with
      | some (len, e) => match ti P e with
        | some ei => if 0 ≤ i ∧ i < len then (match a with
            | .ptr id off => some (.ptr id (off + i.toNat * ei.size))
            | .ep cs => some (.ep (cs.drop (i.toNat * ei.size)))
            | .rp k g off => some (.rp k g (off + i.toNat * ei.size))
            | _ => none) else none
        | none => none
      | none => none

/-- A part of an aggregate, or of a string. -/
def indexA (P : Program) (t : TypeId) (a ix : AV) : Option AV :=
  match a with
  | .agg cs => match intA ix, arrT P t with
    | some i, some (len, e) => match ti P e with
      | some ei => if 0 ≤ i ∧ i < len then partA P e cs (i.toNat * ei.size) else none
      | none => none
    | _, _ => none
  | .v x => match ix with
    | .v y => match pureRun P (Instr.index t x y) with
      | some r => if plain r then some (.v r) else none
      | none => none
    | _ => none
  | _ => none

def fieldA (P : Program) (t : TypeId) (a : AV) (f : Nat) : Option AV :=
  match a, fieldT P t f with
  | .agg cs, some (o, ft) => partA P ft cs o
  | _, _ => none

def isEq : BinOp → Option Bool
  | .eql => some true
  | .neq => some false
  | _ => none

/-- Is one the nil pointer, the other one none? -/
def nilPtr : AV → Option Bool
  | .v (.pointer none) => some true
  | .ptr _ _ | .ep _ | .rp _ _ _ => some false
  | _ => none

def isPtrT (P : Program) (t : TypeId) : Bool :=
  match P.underlying t with
  | some (.pointer _) => true
  | _ => false

/-- The cells of a type that is compared cell by cell: 'none' a truth, 'some k' a whole number. -/
def flatFs (rec : TypeId → Option (List (Option IntKind))) (P : Program) : List Field → Nat → Option (List (Option IntKind))
  | [], _ => some []
  | f :: fs, off => if f.name ≠ "_" ∧ f.offset = off then (match rec f.type, P.info? f.type with
    | some l, some i => if i.size = l.length then (flatFs rec P fs (off + l.length)).map (l ++ ·) else none
    | _, _ => none) else none

def flatK (P : Program) : Nat → TypeId → Option (List (Option IntKind))
  | 0, _ => none
  | d + 1, t => match P.underlying t with
    | some .bool => some [none]
    | some (.int k) => some [some k]
    | some (.array n e) => match flatK P d e, P.info? e with
      | some l, some i => if i.size = l.length then some (List.replicate n l).flatten else none
      | _, _ => none
    | some (.struct fs) => if P.stoodInHeld t then none else flatFs (flatK P d) P fs.toList 0
    | _ => none

def flatT (P : Program) (t : TypeId) : Option (List (Option IntKind)) := if P.eqGuardType P.depth t then none else match P.underlying t with
  | some (.array _ _) | some (.struct _) => flatK P 16 t
  | _ => none

def fitsK : List (Option IntKind) → List AV → Bool
  | [], [] => true
  | none :: ks, .v (.bool _) :: cs => fitsK ks cs
  | some k :: ks, .v (.int k' _) :: cs => k == k' && fitsK ks cs
  | _, _ => false

def cellsEqA : List AV → List AV → Bool
  | [], [] => true
  | .v (.bool a) :: l, .v (.bool b) :: m => (a == b) && cellsEqA l m
  | .v (.int _ a) :: l, .v (.int _ b) :: m => (a == b) && cellsEqA l m
  | _, _ => false

def binOldA (P : Program) (op : BinOp) (t : TypeId) (xo yo : Operand) (x y : AV) : Option AV :=
  match plainOf x, plainOf y with
  | some a, some b => match pureRun P (do eqGuard op t xo yo a b; binOp op t a b) with
    | some r => if plain r then some (.v r) else none
    | none => none
  | _, _ => match isEq op, nilPtr x, nilPtr y with
    | some e, some p, some q => if isPtrT P t && (p || q) then some (.v (.bool (e == (p == q)))) else none
    | _, _, _ => none

def binA (P : Program) (op : BinOp) (t : TypeId) (xo yo : Operand) (x y : AV) : Option AV :=
  match x, y with
  | .agg cs, .agg ds => match isEq op, flatT P t with
    | some e, some ks => if fitsK ks cs && fitsK ks ds then some (.v (.bool (e == cellsEqA cs ds))) else none
    | _, _ => none
  | x, y => binOldA P op t xo yo x y

def unA (op : UnOp) (x : AV) (P : Program) : Option AV :=
  match x with
  | .v a => match pureRun P (Op.unary op a) with
    | some r => if plain r then some (.v r) else none
    | none => none
  | _ => none

/-- Bytes that are told one by one. -/
def bytesOf : List AV → Option (List UInt8)
  | [] => some []
  | .v (.int .u8 n) :: l => (bytesOf l).map (UInt8.ofNat n.toNat :: ·)
  | _ :: _ => none

def isStrT (P : Program) (t : TypeId) : Bool :=
  match P.underlying t with
  | some .string => true
  | _ => false

def isU8 (P : Program) (t : TypeId) : Bool :=
  match P.underlying t with
  | some (.int .u8) => true
  | _ => false

def intT (P : Program) (t : TypeId) : Option IntKind :=
  match P.underlying t with
  | some (.int k) => some k
  | _ => none

def convA (P : Program) (src dst : TypeId) (x : AV) : Option AV :=
  match x with
  | .v a => match intA (.v a), intT P src, intT P dst with
    | some n, some _, some k => some (.v (.int k (k.wrap n)))
    | _, _, _ => match pureRun P (convert src dst a) with
      | some r => if plain r then some (.v r) else none
      | none => none
  | .sl sz cs n _ => match elemT P src, isStrT P dst, bytesOf cs with
    | some e, true, some l => if isU8 P e && sz == 1 then some (.v (.string ⟨l.toArray⟩)) else none
    | _, _, _ => none
  | _ => none

def boundA (x : Option AV) (d : Nat) : Option Nat :=
  match x with
  | none => some d
  | some a => match intA a with
    | some i => if 0 ≤ i then some i.toNat else none
    | none => none

def sliceA (P : Program) (t : TypeId) (x : AV) (lo hi mx : Option AV) : Option AV :=
  match x with
  | .sl sz cs n tl => match elemT P t, boundA lo 0, boundA hi n with
    | some e, some l, some h => match ti P e with
      | some ei => if (sz = ei.size ∨ n = 0) ∧ l ≤ h ∧ h ≤ n ∧ 0 < ei.size then
          (match mx with
          | none => if lo.isNone && hi.isNone then some (.sl sz cs n tl) else some (.sl ei.size ((cs.drop (l * ei.size)).take ((h - l) * ei.size)) (h - l) .shut)
          | some m => if hi.isSome then (match intA m with
            | some mi => if mi = (h : Int) then some (.sl ei.size ((cs.drop (l * ei.size)).take ((h - l) * ei.size)) (h - l) .full) else none
            | none => none) else none)
        else none
      | none => none
    | _, _, _ => none
  | .ptr id off => match mx, arrT P t, boundA lo 0 with
    | none, some (n, e), some l => match boundA hi n, ti P e with
      | some h, some ei => if l ≤ h ∧ h ≤ n ∧ 0 < ei.size ∧ l < n then some (.bs id (off + l * ei.size) ei.size (h - l)) else none
      | _, _ => none
    | _, _, _ => none
  | _ => none

/-- A part of a row; one that ends behind its cells: what is spare becomes cells of which nothing is known. -/
def sliceRowA (P : Program) (t : TypeId) (x : AV) (lo hi mx : Option AV) (σ : St) : Option (AV × St) :=
  match x with
  | .row k g off sz n => match elemT P t, boundA lo 0, boundA hi n with
    | some e, some l, some h => match ti P e with
      | some ei => if sz = ei.size ∧ l ≤ h ∧ 0 < ei.size then
          (match mx with
          | none => if h ≤ n then some (.row k g (off + l * sz) sz (h - l), σ) else (match σ.rows[k]? with
            | some r => (match r.spare with
              | some s => if r.gen = g ∧ r.cells.length ≤ off + h * sz ∧ off + h * sz ≤ r.cells.length + s then
                  some (.row k g (off + l * sz) sz (h - l), { σ with rows := σ.rows.set k ⟨g, r.cells ++ List.replicate (off + h * sz - r.cells.length) .any, some (r.cells.length + s - (off + h * sz))⟩ }) else none
              | none => none)
            | none => none)
          | some m => if hi.isSome then (match intA m with
            | some mi => if (h : Int) ≤ mi ∧ mi ≤ n then (if mi = (l : Int) then some (.sl ei.size [] 0 .full, σ) else some (.any, σ)) else none
            | none => none) else none)
        else none
      | none => none
    | _, _, _ => none
  | _ => none

/-- 'make', 'append' may take so many bytes. -/
def roomA : Nat := 140737488355328

def zeroA (P : Program) (t : TypeId) : Option AV :=
  match ti P t with
  | some i => ofValue i.zero
  | none => none

def zeroCell (i : TI) : Bool := i.zero.cells.size == i.size && i.zero.cells.toList.all fun x => x.oneCell'

/-- What is laid behind a part of a row. -/
def rowAppA (k g off sz n : Nat) (ys : List AV) (m : Nat) (σ : St) : Option (AV × St) :=
  match σ.rows[k]? with
  | some r => if r.gen = g ∧ off + n * sz ≤ r.cells.length then
      (match r.spare with
      | some s => if off + (n + m) * sz ≤ r.cells.length + s then
          some (.row k (g + 1) 0 sz (n + m), { σ with rows := σ.rows.set k ⟨g + 1, (r.cells.drop off).take (n * sz) ++ ys, some (r.cells.length + s - (off + (n + m) * sz))⟩ })
        else some (.row σ.rows.length 0 0 sz (n + m), { σ with rows := σ.rows ++ [⟨0, (r.cells.drop off).take (n * sz) ++ ys, none⟩] })
      | none => some (.row k (g + 1) 0 sz (n + m), { σ with rows := σ.rows.set k ⟨g + 1, (r.cells.drop off).take (n * sz) ++ ys, none⟩ })) else none
  | none => none

/-- So many elements of a type that are zero. -/
def zerosA (P : Program) (e : TypeId) (n : Nat) : Option (List AV) :=
  match ti P e, zeroA P e with
  | some i, some z => if 0 < i.size ∧ z.cells.length = i.size ∧ z.cells.all AV.isCell then some ((List.range (n * i.size)).map fun j => z.cells.getD (j % i.size) undefA) else none
  | _, _ => none

def appendA (P : Program) (t : TypeId) (s x : AV) (σ : St) : Option (AV × St) :=
  match s, readA σ x with
  | .sl sz cs n tl, some (sy, ys, m) => match elemT P t with
    | some e => match ti P e with
      | some i => if (sz = i.size ∨ n = 0) ∧ (sy = i.size ∨ m = 0) ∧ 0 < i.size ∧ (n + m) * i.bytes ≤ roomA ∧ n + m ≤ maxLen ∧ i.zero.cells.size = i.size then
          (match tl with
          | .full => some (.sl i.size (cs ++ ys) (n + m) (.own σ.toks.length), { σ with toks := σ.toks ++ [n + m] })
          | .own k => if sz = i.size ∧ σ.toks[k]? = some n then some (.sl i.size (cs ++ ys) (n + m) (.own k), { σ with toks := σ.toks.set k (n + m) }) else none
          | .shut => none) else none
      | none => none
    | none => none
  | .row k g off sz n, some (sy, ys, m) => match elemT P t with
    | some e => match ti P e with
      | some i => if sz = i.size ∧ (sy = i.size ∨ m = 0) ∧ 0 < i.size ∧ (n + m) * i.bytes ≤ roomA ∧ n + m ≤ maxLen ∧ zeroCell i then rowAppA k g off sz n ys m σ else none
      | none => none
    | none => none
  | _, _ => none

/-- 'append(s, make([]T, m)...)'. -/
def appendZA (P : Program) (t : TypeId) (s x : AV) (σ : St) : Option (AV × St) :=
  match s, intA x with
  | .row k g off sz n, some mi => match elemT P t with
    | some e => match ti P e, zerosA P e mi.toNat with
      | some i, some ys => if 0 ≤ mi ∧ sz = i.size ∧ 0 < i.size ∧ (n + mi.toNat) * i.bytes ≤ roomA ∧ n + mi.toNat ≤ maxLen ∧ mi ≤ 9223372036854775807 ∧ zeroCell i then rowAppA k g off sz n ys mi.toNat σ else none
      | _, _ => none
    | none => none
  | _, _ => none

/-- A list behind which elements are laid, and that is a row from then on. -/
def appendRowA (P : Program) (t : TypeId) (s x : AV) (σ : St) : Option (AV × St) :=
  match s, readA σ x with
  | .sl _ cs n .full, some (sy, ys, m) => match elemT P t with
    | some e => match ti P e with
      | some i => if n = 0 ∧ cs = [] ∧ (sy = i.size ∨ m = 0) ∧ 0 < i.size ∧ m * i.bytes ≤ roomA ∧ m ≤ maxLen ∧ zeroCell i then
          some (.row σ.rows.length 0 0 i.size m, { σ with rows := σ.rows ++ [⟨0, ys, none⟩] }) else none
      | none => none
    | none => none
  | _, _ => none

def copyA (P : Program) (t : TypeId) (d x : AV) (σ : St) : Option (AV × St) :=
  match d, readA σ x with
  | .row k g off sz n, some (sy, ys, m) => match elemT P t with
    | some e => match ti P e, σ.rows[k]? with
      | some i, some r => if sz = i.size ∧ (sy = i.size ∨ m = 0) ∧ 0 < i.size ∧ r.gen = g ∧ off + n * sz ≤ r.cells.length ∧ n ≤ maxLen then
          some (.v (.int .i64 (min m n : Nat)), { σ with rows := σ.rows.set k { r with cells := splice r.cells off (ys.take (min m n * sz)) } }) else none
      | _, _ => none
    | none => none
  | _, _ => none

def clearA (P : Program) (t : TypeId) (d : AV) (σ : St) : Option (AV × St) :=
  match d with
  | .row k g off sz n => match elemT P t with
    | some e => match ti P e, zerosA P e n, σ.rows[k]? with
      | some i, some ys, some r => if sz = i.size ∧ 0 < i.size ∧ r.gen = g ∧ off + n * sz ≤ r.cells.length then
          some (undefA, { σ with rows := σ.rows.set k { r with cells := splice r.cells off ys } }) else none
      | _, _, _ => none
    | none => none
  | _ => none

def capA (P : Program) (t : TypeId) (d : AV) (σ : St) : Option AV :=
  match d with
  | .row k g off sz _ => match elemT P t, σ.rows[k]? with
    | some _, some r => match r.spare with
      | some s => if r.gen = g ∧ 0 < sz ∧ (r.cells.length + s - off) % sz = 0 then some (.v (.int .i64 ((r.cells.length + s - off) / sz : Nat))) else none
      | none => none
    | _, _ => none
  | _ => none

def makeA (P : Program) (t : TypeId) (l c : AV) (σ : St) : Option (AV × St) :=
  match elemT P t, intA l, intA c with
  | some e, some li, some ci => match ti P e, zerosA P e li.toNat with
    | some i, some ys => if 0 ≤ li ∧ li = ci ∧ li ≤ 9223372036854775807 ∧ li.toNat * i.bytes ≤ roomA then
        some (.row σ.rows.length 0 0 i.size li.toNat, { σ with rows := σ.rows ++ [⟨0, ys, some 0⟩] }) else none
    | _, _ => none
  | _, _, _ => none

def lenA (P : Program) (t : TypeId) (x : AV) : Option AV :=
  match x with
  | .sl _ _ n _ => (elemT P t).map fun _ => .v (.int .i64 n)
  | .bs _ _ _ n => (elemT P t).map fun _ => .v (.int .i64 n)
  | .row _ _ _ _ n => (elemT P t).map fun _ => .v (.int .i64 n)
  | .v (.string s) => if isStrT P t then some (.v (.int .i64 s.size)) else none
  | _ => match arrT P t with
    | some (n, _) => some (.v (.int .i64 n))
    | none => none

/-- Where a struct's or an array's parts lie, and their sizes. -/
def placesA (P : Program) (t : TypeId) : Option (List (Nat × Nat)) :=
  match P.underlying t with
  | some (.struct fs) => match pureRun P (fs.mapM fun f => do pure (f.offset, ← sizeOf f.type)) with
    | some a => some a.toList
    | none => none
  | some (.array n e) => match pureRun P (sizeOf e) with
    | some s => some ((List.range n).map fun i => (i * s, s))
    | none => none
  | _ => none

def fillA (places : List (Nat × Nat)) : List AV → List (Nat × AV) → Option (List AV)
  | cs, [] => some cs
  | cs, (i, a) :: rest => match places[i]? with
    | some (off, size) => if a.cells.length = size ∧ off + size ≤ cs.length then fillA places (splice cs off a.cells) rest else none
    | none => none

def newObjA (cs : List AV) (σ : St) : AV × St := (.ptr σ.objs.length 0, { σ with objs := σ.objs ++ [cs] })

def evalA (ρ : Nat → AV) (σ : St) : Operand → Option AV
  | .tmp t => some (ρ t)
  | .const v => ofValue v
  | .global g => (σ.gl g).map .ep
  | .func f => some (.fn f [])

def evalsA (ρ : Nat → AV) (σ : St) : List (Nat × Operand) → Option (List (Nat × AV))
  | [] => some []
  | (i, x) :: l => match evalA ρ σ x, evalsA ρ σ l with
    | some a, some as => some ((i, a) :: as)
    | _, _ => none

def evalAll (ρ : Nat → AV) (σ : St) : List Operand → Option (List AV)
  | [] => some []
  | x :: l => match evalA ρ σ x, evalAll ρ σ l with
    | some a, some as => some (a :: as)
    | _, _ => none

def evalOpt (ρ : Nat → AV) (σ : St) : Option Operand → Option (Option AV)
  | none => some none
  | some x => (evalA ρ σ x).map some

def buildA (P : Program) (t : TypeId) (parts : List (Nat × AV)) : Option AV :=
  match zeroA P t, placesA P t with
  | some (.agg cs), some pl => (fillA pl cs parts).map .agg
  | _, _ => none

def buildSliceA (P : Program) (t : TypeId) (len : Nat) (parts : List (Nat × AV)) : Option AV :=
  match elemT P t with
  | some e => match ti P e, zeroA P e with
    | some i, some z => if 0 < i.size ∧ z.cells.length = i.size ∧ len * i.size ≤ 16777216 then
        (match fillA ((List.range len).map fun k => (k * i.size, i.size)) ((List.range (len * i.size)).map fun j => z.cells.getD (j % i.size) undefA) parts with
        | some cs => if cs.all AV.isCell then some (.sl i.size cs len .full) else none
        | none => none) else none
    | _, _ => none
  | none => none

def pickA (t : Bool) (x y : AV) : AV :=
  match x, y with
  | .v (.bool p), .v (.bool q) => .v (.bool (bif t then p else q))
  | _, _ => if t then x else y

/-- A builtin function. -/
def builtinA (P : Program) (b : Builtin) (ts : List TypeId) (as : List AV) (σ : St) : Option (AV × St) :=
  match b, ts, as with
  | .len, [t], [a] => (lenA P t a).map (·, σ)
  | .append, [t, u], [a, b] => if t = u then appendA P t a b σ else (match intT P u with
    | some _ => appendZA P t a b σ
    | none => none)
  | .cap, [t], [a] => (capA P t a σ).map (·, σ)
  | .copy, [t, _], [a, b] => copyA P t a b σ
  | .clear, [t], [a] => clearA P t a σ
  | _, _, _ => none

/-- What an operation that calls no Go function does. -/
def opA (P : Program) (ρ : Nat → AV) (σ : St) : Op → Option (AV × St)
  | .move x | .assign x => (evalA ρ σ x).map (·, σ)
  | .pick c a b => match evalA ρ σ c, evalA ρ σ a, evalA ρ σ b with
    | some (.v (.bool t)), some x, some y => some (pickA t x y, σ)
    | _, _, _ => none
  | .alloc t => (zeroA P t).map fun z => newObjA z.cells σ
  | .box _ x => (evalA ρ σ x).map fun a => newObjA a.cells σ
  | .build t parts => match evalsA ρ σ parts.toList with
    | some ps => (buildA P t ps).map (·, σ)
    | none => none
  | .buildSlice t len parts => match evalsA ρ σ parts.toList with
    | some ps => (buildSliceA P t len ps).map (·, σ)
    | none => none
  | .load t a => match evalA ρ σ a with
    | some x => (loadA P t x σ).map (·, σ)
    | none => none
  | .store t a x => match evalA ρ σ a, evalA ρ σ x with
    | some p, some v => (storeA P t p v σ).map (undefA, ·)
    | _, _ => none
  | .makeSlice t l c => match evalA ρ σ l, evalA ρ σ c with
    | some a, some b => makeA P t a b σ
    | _, _ => none
  | .nilCheck x => match evalA ρ σ x with
    | some (.ptr id off) => some (.ptr id off, σ)
    | some (.rp k g off) => some (.rp k g off, σ)
    | some (.ep cs) => some (.ep cs, σ)
    | some (.fn f cs) => some (.fn f cs, σ)
    | _ => none
  | .binOp op t x y _ => match evalA ρ σ x, evalA ρ σ y with
    | some a, some b => (binA P op t x y a b).map (·, σ)
    | _, _ => none
  | .unOp op _ x => match evalA ρ σ x with
    | some a => (unA op a P).map (·, σ)
    | none => none
  | .convert s d x => match evalA ρ σ x with
    | some a => (convA P s d a).map (·, σ)
    | none => none
  | .slice t x lo hi mx => match evalA ρ σ x, evalOpt ρ σ lo, evalOpt ρ σ hi, evalOpt ρ σ mx with
    | some a, some l, some h, some m => match a with
      | .row k g off sz n => sliceRowA P t (.row k g off sz n) l h m σ
      | a => (sliceA P t a l h m).map (·, σ)
    | _, _, _, _ => none
  | .fieldAddr t x f => match evalA ρ σ x with
    | some a => (fieldAddrA P t f a).map (·, σ)
    | none => none
  | .field t x f => match evalA ρ σ x with
    | some a => (fieldA P t a f).map (·, σ)
    | none => none
  | .indexAddr t x i => match evalA ρ σ x, evalA ρ σ i with
    | some a, some b => (indexAddrA P t a b).map (·, σ)
    | _, _ => none
  | .index t x i => match evalA ρ σ x, evalA ρ σ i with
    | some a, some b => (indexA P t a b).map (·, σ)
    | _, _ => none
  | .extract x i => match evalA ρ σ x with
    | some (.tup vs) => (vs[i]?).map (·, σ)
    | _ => none
  | .sliceToArrayPointer t x => match evalA ρ σ x, arrT P t with
    | some (.bs id off _ n), some (m, _) => if m ≤ n then some (.ptr id off, σ) else none
    | _, _ => none
  | .makeFunc (.func f) first caps => if first.size = 0 then (evalAll ρ σ caps.toList).map fun cs => (.fn f cs, σ) else none
  | .call c => match c.callee with
    | .builtin b => match evalAll ρ σ c.args.toList with
      | some as => builtinA P b c.argTypes.toList as σ
      | none => none
    | _ => none
  | _ => none

end Go.Vm
