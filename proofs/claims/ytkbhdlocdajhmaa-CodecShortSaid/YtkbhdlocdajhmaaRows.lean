/-
  No cell of these rows narrows 'for every input' (looked for: loops, veiled, ifaces, maps, wideKeys, modest, calm, conditions, laid).
  DERIVED. THE GIVEN ROWS OF THIS SEAT. 7 by the template 'for every input the law returns true; each argument reads behind the call as it read before'; 0 by the template 'total and deterministic' (their statements: YtkbhdlocdajhmaaTotals.lean).
  GIVEN WITH THE SEED: the statements are not yours to turn. If you find one false, say at which input.
  Laid BY PROGRAM, IN A SANDBOX (cutbox-rows.mjs): the forced cells as the released guide's own fill.sh prints them over the translation 721584a1c1c9fc20… (all of the seat's roots in one cut). By AI agents, Wed Nov 11 2026. No macro, syntax, notation, axiom, sorry.
-/
import Derived.Test.YtkbhdlocdajhmaaChecked
import GoSem.Claim
import GoSem.ClaimJoined
import GoSem.ClaimMapViews
import Derived.JoinedTies
import Derived.KernelRfl
namespace Go.Proofs.Ytkbhdlocdajhmaa
/- THE CELL 'sum', in the pinned program and in every row, IS THE sha256 OF THE DUMP (.gsa) THAT YtkbhdlocdajhmaaProg.lean LOADS. Nothing in Lean hashes anything: it is a label: what it is worth is what the hold of that sum in a sandbox is worth. -/
noncomputable def Try.pinned : Pinned := { name := "ytkbhdlocdajhmaa", sum := "721584a1c1c9fc20373b25566d4b7df17dde7e47c7adebb6c656807f203d1803", checked := Try.checked }
namespace Rows
def none {H : Type} : Left H := { results := [], args := [] }

/-- 'jointurelaw04.CodecOwn': WHATEVER THE INPUT: true; the input reads as it did. -/
def codecOwnSpec : ChangeSpec := { name := "codecOwn", fn := fun _ => fun
  | [d1, d2] => { results := [.lit (.bool true)], args := [d1, d2] }
  | _ => none }
def codecOwnRow : OpenClaim := { program := "ytkbhdlocdajhmaa", sum := "721584a1c1c9fc20373b25566d4b7df17dde7e47c7adebb6c656807f203d1803", func := "jointure/jointurelaw04.CodecOwn", spec := "codecOwn", unfollowed := true, recurses := true, apart := false }
def CodecOwnSaid : Prop := codecOwnRow.holds Try.pinned (OpenSpec.ofChange codecOwnSpec)

/-- ITS FALSE NEIGHBOUR: 'it returns false'. Refute it at one input. -/
def codecOwnWrong : ChangeSpec := { name := "codecOwn", fn := fun _ => fun
  | [d1, d2] => { results := [.lit (.bool false)], args := [d1, d2] }
  | _ => none }
def CodecOwnWrongFalsely : Prop := codecOwnRow.holds Try.pinned (OpenSpec.ofChange codecOwnWrong)

/-- 'jointurelaw04.CodecCoins': WHATEVER THE INPUT: true; the input reads as it did. -/
def codecCoinsSpec : ChangeSpec := { name := "codecCoins", fn := fun _ => fun
  | [d] => { results := [.lit (.bool true)], args := [d] }
  | _ => none }
def codecCoinsRow : OpenClaim := { program := "ytkbhdlocdajhmaa", sum := "721584a1c1c9fc20373b25566d4b7df17dde7e47c7adebb6c656807f203d1803", func := "jointure/jointurelaw04.CodecCoins", spec := "codecCoins", unfollowed := true, recurses := true, apart := false }
def CodecCoinsSaid : Prop := codecCoinsRow.holds Try.pinned (OpenSpec.ofChange codecCoinsSpec)

/-- ITS FALSE NEIGHBOUR: 'it returns false'. Refute it at one input. -/
def codecCoinsWrong : ChangeSpec := { name := "codecCoins", fn := fun _ => fun
  | [d] => { results := [.lit (.bool false)], args := [d] }
  | _ => none }
def CodecCoinsWrongFalsely : Prop := codecCoinsRow.holds Try.pinned (OpenSpec.ofChange codecCoinsWrong)

/-- 'jointurelaw04.CodecReads': WHATEVER THE INPUT: true; the input reads as it did. -/
def codecReadsSpec : ChangeSpec := { name := "codecReads", fn := fun _ => fun
  | [d1, d2] => { results := [.lit (.bool true)], args := [d1, d2] }
  | _ => none }
def codecReadsRow : OpenClaim := { program := "ytkbhdlocdajhmaa", sum := "721584a1c1c9fc20373b25566d4b7df17dde7e47c7adebb6c656807f203d1803", func := "jointure/jointurelaw04.CodecReads", spec := "codecReads", unfollowed := true, recurses := true, apart := false }
def CodecReadsSaid : Prop := codecReadsRow.holds Try.pinned (OpenSpec.ofChange codecReadsSpec)

/-- ITS FALSE NEIGHBOUR: 'it returns false'. Refute it at one input. -/
def codecReadsWrong : ChangeSpec := { name := "codecReads", fn := fun _ => fun
  | [d1, d2] => { results := [.lit (.bool false)], args := [d1, d2] }
  | _ => none }
def CodecReadsWrongFalsely : Prop := codecReadsRow.holds Try.pinned (OpenSpec.ofChange codecReadsWrong)

/-- 'jointurelaw04.CodecFails': WHATEVER THE INPUT: true; the input reads as it did. -/
def codecFailsSpec : ChangeSpec := { name := "codecFails", fn := fun _ => fun
  | [d1, d2] => { results := [.lit (.bool true)], args := [d1, d2] }
  | _ => none }
def codecFailsRow : OpenClaim := { program := "ytkbhdlocdajhmaa", sum := "721584a1c1c9fc20373b25566d4b7df17dde7e47c7adebb6c656807f203d1803", func := "jointure/jointurelaw04.CodecFails", spec := "codecFails", unfollowed := true, recurses := true, apart := false }
def CodecFailsSaid : Prop := codecFailsRow.holds Try.pinned (OpenSpec.ofChange codecFailsSpec)

/-- ITS FALSE NEIGHBOUR: 'it returns false'. Refute it at one input. -/
def codecFailsWrong : ChangeSpec := { name := "codecFails", fn := fun _ => fun
  | [d1, d2] => { results := [.lit (.bool false)], args := [d1, d2] }
  | _ => none }
def CodecFailsWrongFalsely : Prop := codecFailsRow.holds Try.pinned (OpenSpec.ofChange codecFailsWrong)

/-- 'jointurelaw04.CodecThere': WHATEVER THE INPUT: true; the input reads as it did. -/
def codecThereSpec : ChangeSpec := { name := "codecThere", fn := fun _ => fun
  | [d] => { results := [.lit (.bool true)], args := [d] }
  | _ => none }
def codecThereRow : OpenClaim := { program := "ytkbhdlocdajhmaa", sum := "721584a1c1c9fc20373b25566d4b7df17dde7e47c7adebb6c656807f203d1803", func := "jointure/jointurelaw04.CodecThere", spec := "codecThere", unfollowed := true, recurses := true, apart := false }
def CodecThereSaid : Prop := codecThereRow.holds Try.pinned (OpenSpec.ofChange codecThereSpec)

/-- ITS FALSE NEIGHBOUR: 'it returns false'. Refute it at one input. -/
def codecThereWrong : ChangeSpec := { name := "codecThere", fn := fun _ => fun
  | [d] => { results := [.lit (.bool false)], args := [d] }
  | _ => none }
def CodecThereWrongFalsely : Prop := codecThereRow.holds Try.pinned (OpenSpec.ofChange codecThereWrong)

/-- 'jointurelaw04.CodecShort': WHATEVER THE INPUT: true; the input reads as it did. -/
def codecShortSpec : ChangeSpec := { name := "codecShort", fn := fun _ => fun
  | [d1, d2] => { results := [.lit (.bool true)], args := [d1, d2] }
  | _ => none }
def codecShortRow : OpenClaim := { program := "ytkbhdlocdajhmaa", sum := "721584a1c1c9fc20373b25566d4b7df17dde7e47c7adebb6c656807f203d1803", func := "jointure/jointurelaw04.CodecShort", spec := "codecShort", unfollowed := true, recurses := true, apart := false }
def CodecShortSaid : Prop := codecShortRow.holds Try.pinned (OpenSpec.ofChange codecShortSpec)

/-- ITS FALSE NEIGHBOUR: 'it returns false'. Refute it at one input. -/
def codecShortWrong : ChangeSpec := { name := "codecShort", fn := fun _ => fun
  | [d1, d2] => { results := [.lit (.bool false)], args := [d1, d2] }
  | _ => none }
def CodecShortWrongFalsely : Prop := codecShortRow.holds Try.pinned (OpenSpec.ofChange codecShortWrong)

/-- 'jointurelaw04.CodecNil': WHATEVER THE INPUT: true; the input reads as it did. -/
def codecNilSpec : ChangeSpec := { name := "codecNil", fn := fun _ => fun
  | [d1, d2] => { results := [.lit (.bool true)], args := [d1, d2] }
  | _ => none }
def codecNilRow : OpenClaim := { program := "ytkbhdlocdajhmaa", sum := "721584a1c1c9fc20373b25566d4b7df17dde7e47c7adebb6c656807f203d1803", func := "jointure/jointurelaw04.CodecNil", spec := "codecNil", unfollowed := true, recurses := true, apart := false }
def CodecNilSaid : Prop := codecNilRow.holds Try.pinned (OpenSpec.ofChange codecNilSpec)

/-- ITS FALSE NEIGHBOUR: 'it returns false'. Refute it at one input. -/
def codecNilWrong : ChangeSpec := { name := "codecNil", fn := fun _ => fun
  | [d1, d2] => { results := [.lit (.bool false)], args := [d1, d2] }
  | _ => none }
def CodecNilWrongFalsely : Prop := codecNilRow.holds Try.pinned (OpenSpec.ofChange codecNilWrong)

/- THE SECOND FORM. 'bulk': how many values and letters a reading holds, each counted each time it is reached (what is shared counts as often as it is met; a slice's spare places count too). A statement '..UptoSaid' is the law's where the arguments, and the package variables that the reading takes, are together of bulk at most 1048576: NARROWER than '..Said'. Prove '..Said' where nothing that the law and all that it calls make is longer than what came in: it says more and counts as full. Else prove '..UptoSaid'. A law counts once. -/
mutual
def uptoBulk {H : Type} : DataW H → Nat
  | .lit (.string bytes) => bytes.length + 1
  | .lit _ => 1
  | .nil => 1
  | .ptr d => uptoBulk d + 1
  | .slice elems spare => uptoBulkAll elems + uptoBulkAll spare + 1
  | .agg parts => uptoBulkAll parts + 1
  | .iface _ d => uptoBulk d + 1
  | .map entries => uptoBulkEntries entries + 1
  | .held _ => 1
def uptoBulkAll {H : Type} : List (DataW H) → Nat
  | [] => 0
  | d :: r => uptoBulk d + uptoBulkAll r
def uptoBulkEntries {H : Type} : List (Lit × DataW H) → Nat
  | [] => 0
  | x :: r => uptoBulkEntry x + uptoBulkEntries r
def uptoBulkEntry {H : Type} : Lit × DataW H → Nat
  | (.string bytes, d) => bytes.length + uptoBulk d + 1
  | (_, d) => uptoBulk d + 1
 end
def uptoSmall : (H : Type) → List (DataW H) → Bool := fun _ ds => decide (uptoBulkAll ds ≤ 1048576)
def OpenSpec.upto (s : _root_.Go.ChangeSpec) : _root_.Go.OpenSpec := { _root_.Go.OpenSpec.ofChange s with cond := some uptoSmall }

/-- 'jointurelaw04.CodecOwn', WHERE WHAT IT READS IS OF BULK AT MOST 1048576: true; the input reads as it did. -/
def codecOwnUptoRow : OpenClaim := { program := "ytkbhdlocdajhmaa", sum := "721584a1c1c9fc20373b25566d4b7df17dde7e47c7adebb6c656807f203d1803", func := "jointure/jointurelaw04.CodecOwn", spec := "codecOwn", unfollowed := true, recurses := true, apart := false, narrowed := true }
def CodecOwnUptoSaid : Prop := codecOwnUptoRow.holds Try.pinned (OpenSpec.upto codecOwnSpec)

/-- 'jointurelaw04.CodecCoins', WHERE WHAT IT READS IS OF BULK AT MOST 1048576: true; the input reads as it did. -/
def codecCoinsUptoRow : OpenClaim := { program := "ytkbhdlocdajhmaa", sum := "721584a1c1c9fc20373b25566d4b7df17dde7e47c7adebb6c656807f203d1803", func := "jointure/jointurelaw04.CodecCoins", spec := "codecCoins", unfollowed := true, recurses := true, apart := false, narrowed := true }
def CodecCoinsUptoSaid : Prop := codecCoinsUptoRow.holds Try.pinned (OpenSpec.upto codecCoinsSpec)

/-- 'jointurelaw04.CodecReads', WHERE WHAT IT READS IS OF BULK AT MOST 1048576: true; the input reads as it did. -/
def codecReadsUptoRow : OpenClaim := { program := "ytkbhdlocdajhmaa", sum := "721584a1c1c9fc20373b25566d4b7df17dde7e47c7adebb6c656807f203d1803", func := "jointure/jointurelaw04.CodecReads", spec := "codecReads", unfollowed := true, recurses := true, apart := false, narrowed := true }
def CodecReadsUptoSaid : Prop := codecReadsUptoRow.holds Try.pinned (OpenSpec.upto codecReadsSpec)

/-- 'jointurelaw04.CodecFails', WHERE WHAT IT READS IS OF BULK AT MOST 1048576: true; the input reads as it did. -/
def codecFailsUptoRow : OpenClaim := { program := "ytkbhdlocdajhmaa", sum := "721584a1c1c9fc20373b25566d4b7df17dde7e47c7adebb6c656807f203d1803", func := "jointure/jointurelaw04.CodecFails", spec := "codecFails", unfollowed := true, recurses := true, apart := false, narrowed := true }
def CodecFailsUptoSaid : Prop := codecFailsUptoRow.holds Try.pinned (OpenSpec.upto codecFailsSpec)

/-- 'jointurelaw04.CodecThere', WHERE WHAT IT READS IS OF BULK AT MOST 1048576: true; the input reads as it did. -/
def codecThereUptoRow : OpenClaim := { program := "ytkbhdlocdajhmaa", sum := "721584a1c1c9fc20373b25566d4b7df17dde7e47c7adebb6c656807f203d1803", func := "jointure/jointurelaw04.CodecThere", spec := "codecThere", unfollowed := true, recurses := true, apart := false, narrowed := true }
def CodecThereUptoSaid : Prop := codecThereUptoRow.holds Try.pinned (OpenSpec.upto codecThereSpec)

/-- 'jointurelaw04.CodecShort', WHERE WHAT IT READS IS OF BULK AT MOST 1048576: true; the input reads as it did. -/
def codecShortUptoRow : OpenClaim := { program := "ytkbhdlocdajhmaa", sum := "721584a1c1c9fc20373b25566d4b7df17dde7e47c7adebb6c656807f203d1803", func := "jointure/jointurelaw04.CodecShort", spec := "codecShort", unfollowed := true, recurses := true, apart := false, narrowed := true }
def CodecShortUptoSaid : Prop := codecShortUptoRow.holds Try.pinned (OpenSpec.upto codecShortSpec)

/-- 'jointurelaw04.CodecNil', WHERE WHAT IT READS IS OF BULK AT MOST 1048576: true; the input reads as it did. -/
def codecNilUptoRow : OpenClaim := { program := "ytkbhdlocdajhmaa", sum := "721584a1c1c9fc20373b25566d4b7df17dde7e47c7adebb6c656807f203d1803", func := "jointure/jointurelaw04.CodecNil", spec := "codecNil", unfollowed := true, recurses := true, apart := false, narrowed := true }
def CodecNilUptoSaid : Prop := codecNilUptoRow.holds Try.pinned (OpenSpec.upto codecNilSpec)

end Rows
end Go.Proofs.Ytkbhdlocdajhmaa
