/-
  No cell of these rows narrows 'for every input' (looked for: loops, veiled, ifaces, maps, wideKeys, modest, calm, conditions, laid).
  DERIVED. THE GIVEN ROWS OF THIS SEAT. 6 by the template 'for every input the law returns true; each argument reads behind the call as it read before'; 0 by the template 'total and deterministic' (their statements: YtjpnjhlfieklfaaGreatTotals.lean).
  GIVEN WITH THE SEED: the statements are not yours to turn. If you find one false, say at which input.
  Laid BY PROGRAM, IN A SANDBOX (cutbox-rows.mjs): the forced cells as the released guide's own fill.sh prints them over the translation f15b89ef72c47592… (all of the seat's roots in one cut). By AI agents, Wed Nov 11 2026. No macro, syntax, notation, axiom, sorry.
-/
import Derived.Test.YtjpnjhlfieklfaaGreatChecked
import GoSem.Claim
import GoSem.ClaimJoined
import GoSem.ClaimMapViews
import Derived.JoinedTies
import Derived.KernelRfl
namespace Go.Proofs.YtjpnjhlfieklfaaGreat
/- THE CELL 'sum', in the pinned program and in every row, IS THE sha256 OF THE DUMP (.gsa) THAT YtjpnjhlfieklfaaGreatProg.lean LOADS. Nothing in Lean hashes anything: it is a label: what it is worth is what the hold of that sum in a sandbox is worth. -/
noncomputable def Tryz.pinned : Pinned := { name := "ytjpnjhlfieklfaagreat", sum := "f15b89ef72c47592571625b6b590b0482ee6f3495dc12abdfc77e4048ba5ffba", checked := Tryz.checked }
namespace Rows
def none {H : Type} : Left H := { results := [], args := [] }

/-- 'jointurelaw10.PersonRights': WHATEVER THE INPUT: true; the input reads as it did. -/
def personRightsSpec : ChangeSpec := { name := "personRights", fn := fun _ => fun
  | [d] => { results := [.lit (.bool true)], args := [d] }
  | _ => none }
def personRightsRow : OpenClaim := { program := "ytjpnjhlfieklfaagreat", sum := "f15b89ef72c47592571625b6b590b0482ee6f3495dc12abdfc77e4048ba5ffba", func := "jointure/jointurelaw10.PersonRights", spec := "personRights", inPlace := ["math/bits.Add64", "internal/bytealg.Compare", "slices.overlaps[jointure/store.pair]", "math/bits.Sub64"], unfollowed := true, recurses := true, apart := false }
def PersonRightsSaid : Prop := personRightsRow.holds Tryz.pinned (OpenSpec.ofChange personRightsSpec)

/-- ITS FALSE NEIGHBOUR: 'it returns false'. Refute it at one input. -/
def personRightsWrong : ChangeSpec := { name := "personRights", fn := fun _ => fun
  | [d] => { results := [.lit (.bool false)], args := [d] }
  | _ => none }
def PersonRightsWrongFalsely : Prop := personRightsRow.holds Tryz.pinned (OpenSpec.ofChange personRightsWrong)

/-- 'jointurelaw10.PersonSpends': WHATEVER THE INPUT: true; the input reads as it did. -/
def personSpendsSpec : ChangeSpec := { name := "personSpends", fn := fun _ => fun
  | [d1, d2, d3] => { results := [.lit (.bool true)], args := [d1, d2, d3] }
  | _ => none }
def personSpendsRow : OpenClaim := { program := "ytjpnjhlfieklfaagreat", sum := "f15b89ef72c47592571625b6b590b0482ee6f3495dc12abdfc77e4048ba5ffba", func := "jointure/jointurelaw10.PersonSpends", spec := "personSpends", inPlace := ["math/bits.Add64", "internal/bytealg.Compare", "slices.overlaps[jointure/store.pair]", "math/bits.Sub64"], unfollowed := true, recurses := true, apart := false }
def PersonSpendsSaid : Prop := personSpendsRow.holds Tryz.pinned (OpenSpec.ofChange personSpendsSpec)

/-- ITS FALSE NEIGHBOUR: 'it returns false'. Refute it at one input. -/
def personSpendsWrong : ChangeSpec := { name := "personSpends", fn := fun _ => fun
  | [d1, d2, d3] => { results := [.lit (.bool false)], args := [d1, d2, d3] }
  | _ => none }
def PersonSpendsWrongFalsely : Prop := personSpendsRow.holds Tryz.pinned (OpenSpec.ofChange personSpendsWrong)

/-- 'jointurelaw10.PersonStranger': WHATEVER THE INPUT: true; the input reads as it did. -/
def personStrangerSpec : ChangeSpec := { name := "personStranger", fn := fun _ => fun
  | [d1, d2, d3] => { results := [.lit (.bool true)], args := [d1, d2, d3] }
  | _ => none }
def personStrangerRow : OpenClaim := { program := "ytjpnjhlfieklfaagreat", sum := "f15b89ef72c47592571625b6b590b0482ee6f3495dc12abdfc77e4048ba5ffba", func := "jointure/jointurelaw10.PersonStranger", spec := "personStranger", inPlace := ["math/bits.Add64", "internal/bytealg.Compare", "slices.overlaps[jointure/store.pair]", "math/bits.Sub64"], unfollowed := true, recurses := true, apart := false }
def PersonStrangerSaid : Prop := personStrangerRow.holds Tryz.pinned (OpenSpec.ofChange personStrangerSpec)

/-- ITS FALSE NEIGHBOUR: 'it returns false'. Refute it at one input. -/
def personStrangerWrong : ChangeSpec := { name := "personStranger", fn := fun _ => fun
  | [d1, d2, d3] => { results := [.lit (.bool false)], args := [d1, d2, d3] }
  | _ => none }
def PersonStrangerWrongFalsely : Prop := personStrangerRow.holds Tryz.pinned (OpenSpec.ofChange personStrangerWrong)

/-- 'jointurelaw10.PersonThere': WHATEVER THE INPUT: true; the input reads as it did. -/
def personThereSpec : ChangeSpec := { name := "personThere", fn := fun _ => fun
  | [d] => { results := [.lit (.bool true)], args := [d] }
  | _ => none }
def personThereRow : OpenClaim := { program := "ytjpnjhlfieklfaagreat", sum := "f15b89ef72c47592571625b6b590b0482ee6f3495dc12abdfc77e4048ba5ffba", func := "jointure/jointurelaw10.PersonThere", spec := "personThere", inPlace := ["math/bits.Add64", "internal/bytealg.Compare", "slices.overlaps[jointure/store.pair]", "math/bits.Sub64"], unfollowed := true, recurses := true, apart := false }
def PersonThereSaid : Prop := personThereRow.holds Tryz.pinned (OpenSpec.ofChange personThereSpec)

/-- ITS FALSE NEIGHBOUR: 'it returns false'. Refute it at one input. -/
def personThereWrong : ChangeSpec := { name := "personThere", fn := fun _ => fun
  | [d] => { results := [.lit (.bool false)], args := [d] }
  | _ => none }
def PersonThereWrongFalsely : Prop := personThereRow.holds Tryz.pinned (OpenSpec.ofChange personThereWrong)

/-- 'jointurelaw10.PersonActs': WHATEVER THE INPUT: true; the input reads as it did. -/
def personActsSpec : ChangeSpec := { name := "personActs", fn := fun _ => fun
  | [d] => { results := [.lit (.bool true)], args := [d] }
  | _ => none }
def personActsRow : OpenClaim := { program := "ytjpnjhlfieklfaagreat", sum := "f15b89ef72c47592571625b6b590b0482ee6f3495dc12abdfc77e4048ba5ffba", func := "jointure/jointurelaw10.PersonActs", spec := "personActs", inPlace := ["math/bits.Add64", "internal/bytealg.Compare", "slices.overlaps[jointure/store.pair]", "math/bits.Sub64"], unfollowed := true, recurses := true, apart := false }
def PersonActsSaid : Prop := personActsRow.holds Tryz.pinned (OpenSpec.ofChange personActsSpec)

/-- ITS FALSE NEIGHBOUR: 'it returns false'. Refute it at one input. -/
def personActsWrong : ChangeSpec := { name := "personActs", fn := fun _ => fun
  | [d] => { results := [.lit (.bool false)], args := [d] }
  | _ => none }
def PersonActsWrongFalsely : Prop := personActsRow.holds Tryz.pinned (OpenSpec.ofChange personActsWrong)

/-- 'jointurelaw10.PersonNil': WHATEVER THE INPUT: true; the input reads as it did. -/
def personNilSpec : ChangeSpec := { name := "personNil", fn := fun _ => fun
  | [d1, d2] => { results := [.lit (.bool true)], args := [d1, d2] }
  | _ => none }
def personNilRow : OpenClaim := { program := "ytjpnjhlfieklfaagreat", sum := "f15b89ef72c47592571625b6b590b0482ee6f3495dc12abdfc77e4048ba5ffba", func := "jointure/jointurelaw10.PersonNil", spec := "personNil", inPlace := ["math/bits.Add64", "internal/bytealg.Compare", "slices.overlaps[jointure/store.pair]", "math/bits.Sub64"], unfollowed := true, recurses := true, apart := false }
def PersonNilSaid : Prop := personNilRow.holds Tryz.pinned (OpenSpec.ofChange personNilSpec)

/-- ITS FALSE NEIGHBOUR: 'it returns false'. Refute it at one input. -/
def personNilWrong : ChangeSpec := { name := "personNil", fn := fun _ => fun
  | [d1, d2] => { results := [.lit (.bool false)], args := [d1, d2] }
  | _ => none }
def PersonNilWrongFalsely : Prop := personNilRow.holds Tryz.pinned (OpenSpec.ofChange personNilWrong)

/- THE SECOND FORM. 'bulk': how many values and letters a reading holds, each counted each time it is reached (what is shared counts as often as it is met; a slice's spare places count too). A statement '..UptoSaid' is the law's where the arguments, and the package variables that the reading takes, are together of bulk at most 1048576: NARROWER than '..Said'. Prove '..Said' where nothing that the law and all that it calls make is longer than what came in: it says more and counts as full. Else prove '..UptoSaid'. A law counts once. -/
mutual
def uptoBulk {H : Type} : DataW H → Nat
  | .lit (.string bytes) => bytes.length + 1
  | .lit _ => 1
  | .nil => 1
  | .ptr d => uptoBulk d + 1
  | .slice elems spare => uptoBulkAll elems + uptoBulkAll spare + 1
  | .agg parts => uptoBulkAll parts + 1
  | .iface _ d => uptoBulk d + 1
  | .map entries => uptoBulkEntries entries + 1
  | .held _ => 1
def uptoBulkAll {H : Type} : List (DataW H) → Nat
  | [] => 0
  | d :: r => uptoBulk d + uptoBulkAll r
def uptoBulkEntries {H : Type} : List (Lit × DataW H) → Nat
  | [] => 0
  | x :: r => uptoBulkEntry x + uptoBulkEntries r
def uptoBulkEntry {H : Type} : Lit × DataW H → Nat
  | (.string bytes, d) => bytes.length + uptoBulk d + 1
  | (_, d) => uptoBulk d + 1
 end
def uptoSmall : (H : Type) → List (DataW H) → Bool := fun _ ds => decide (uptoBulkAll ds ≤ 1048576)
def OpenSpec.upto (s : _root_.Go.ChangeSpec) : _root_.Go.OpenSpec := { _root_.Go.OpenSpec.ofChange s with cond := some uptoSmall }

/-- 'jointurelaw10.PersonRights', WHERE WHAT IT READS IS OF BULK AT MOST 1048576: true; the input reads as it did. -/
def personRightsUptoRow : OpenClaim := { program := "ytjpnjhlfieklfaagreat", sum := "f15b89ef72c47592571625b6b590b0482ee6f3495dc12abdfc77e4048ba5ffba", func := "jointure/jointurelaw10.PersonRights", spec := "personRights", inPlace := ["math/bits.Add64", "internal/bytealg.Compare", "slices.overlaps[jointure/store.pair]", "math/bits.Sub64"], unfollowed := true, recurses := true, apart := false, narrowed := true }
def PersonRightsUptoSaid : Prop := personRightsUptoRow.holds Tryz.pinned (OpenSpec.upto personRightsSpec)

/-- 'jointurelaw10.PersonSpends', WHERE WHAT IT READS IS OF BULK AT MOST 1048576: true; the input reads as it did. -/
def personSpendsUptoRow : OpenClaim := { program := "ytjpnjhlfieklfaagreat", sum := "f15b89ef72c47592571625b6b590b0482ee6f3495dc12abdfc77e4048ba5ffba", func := "jointure/jointurelaw10.PersonSpends", spec := "personSpends", inPlace := ["math/bits.Add64", "internal/bytealg.Compare", "slices.overlaps[jointure/store.pair]", "math/bits.Sub64"], unfollowed := true, recurses := true, apart := false, narrowed := true }
def PersonSpendsUptoSaid : Prop := personSpendsUptoRow.holds Tryz.pinned (OpenSpec.upto personSpendsSpec)

/-- 'jointurelaw10.PersonStranger', WHERE WHAT IT READS IS OF BULK AT MOST 1048576: true; the input reads as it did. -/
def personStrangerUptoRow : OpenClaim := { program := "ytjpnjhlfieklfaagreat", sum := "f15b89ef72c47592571625b6b590b0482ee6f3495dc12abdfc77e4048ba5ffba", func := "jointure/jointurelaw10.PersonStranger", spec := "personStranger", inPlace := ["math/bits.Add64", "internal/bytealg.Compare", "slices.overlaps[jointure/store.pair]", "math/bits.Sub64"], unfollowed := true, recurses := true, apart := false, narrowed := true }
def PersonStrangerUptoSaid : Prop := personStrangerUptoRow.holds Tryz.pinned (OpenSpec.upto personStrangerSpec)

/-- 'jointurelaw10.PersonThere', WHERE WHAT IT READS IS OF BULK AT MOST 1048576: true; the input reads as it did. -/
def personThereUptoRow : OpenClaim := { program := "ytjpnjhlfieklfaagreat", sum := "f15b89ef72c47592571625b6b590b0482ee6f3495dc12abdfc77e4048ba5ffba", func := "jointure/jointurelaw10.PersonThere", spec := "personThere", inPlace := ["math/bits.Add64", "internal/bytealg.Compare", "slices.overlaps[jointure/store.pair]", "math/bits.Sub64"], unfollowed := true, recurses := true, apart := false, narrowed := true }
def PersonThereUptoSaid : Prop := personThereUptoRow.holds Tryz.pinned (OpenSpec.upto personThereSpec)

/-- 'jointurelaw10.PersonActs', WHERE WHAT IT READS IS OF BULK AT MOST 1048576: true; the input reads as it did. -/
def personActsUptoRow : OpenClaim := { program := "ytjpnjhlfieklfaagreat", sum := "f15b89ef72c47592571625b6b590b0482ee6f3495dc12abdfc77e4048ba5ffba", func := "jointure/jointurelaw10.PersonActs", spec := "personActs", inPlace := ["math/bits.Add64", "internal/bytealg.Compare", "slices.overlaps[jointure/store.pair]", "math/bits.Sub64"], unfollowed := true, recurses := true, apart := false, narrowed := true }
def PersonActsUptoSaid : Prop := personActsUptoRow.holds Tryz.pinned (OpenSpec.upto personActsSpec)

/-- 'jointurelaw10.PersonNil', WHERE WHAT IT READS IS OF BULK AT MOST 1048576: true; the input reads as it did. -/
def personNilUptoRow : OpenClaim := { program := "ytjpnjhlfieklfaagreat", sum := "f15b89ef72c47592571625b6b590b0482ee6f3495dc12abdfc77e4048ba5ffba", func := "jointure/jointurelaw10.PersonNil", spec := "personNil", inPlace := ["math/bits.Add64", "internal/bytealg.Compare", "slices.overlaps[jointure/store.pair]", "math/bits.Sub64"], unfollowed := true, recurses := true, apart := false, narrowed := true }
def PersonNilUptoSaid : Prop := personNilUptoRow.holds Tryz.pinned (OpenSpec.upto personNilSpec)

end Rows
end Go.Proofs.YtjpnjhlfieklfaaGreat
