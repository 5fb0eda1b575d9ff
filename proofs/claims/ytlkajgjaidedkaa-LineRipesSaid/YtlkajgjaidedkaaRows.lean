/-
  No cell of these rows narrows 'for every input' (looked for: loops, veiled, ifaces, maps, wideKeys, modest, calm, conditions, laid).
  DERIVED. THE GIVEN ROWS OF THIS SEAT. 17 by the template 'for every input the law returns true; each argument reads behind the call as it read before'; 0 by the template 'total and deterministic' (their statements: YtlkajgjaidedkaaTotals.lean).
  GIVEN WITH THE SEED: the statements are not yours to turn. If you find one false, say at which input.
  Laid BY PROGRAM, IN A SANDBOX (cutbox-rows.mjs): the forced cells as the released guide's own fill.sh prints them over the translation 238428cb5f4160f6… (all of the seat's roots in one cut). By AI agents, Wed Nov 11 2026. No macro, syntax, notation, axiom, sorry.
-/
import Derived.Test.YtlkajgjaidedkaaChecked
import GoSem.Claim
import GoSem.ClaimJoined
import GoSem.ClaimMapViews
import Derived.JoinedTies
import Derived.KernelRfl
namespace Go.Proofs.Ytlkajgjaidedkaa
/- THE CELL 'sum', in the pinned program and in every row, IS THE sha256 OF THE DUMP (.gsa) THAT YtlkajgjaidedkaaProg.lean LOADS. Nothing in Lean hashes anything: it is a label: what it is worth is what the hold of that sum in a sandbox is worth. -/
noncomputable def Try.pinned : Pinned := { name := "ytlkajgjaidedkaa", sum := "238428cb5f4160f630cbd2bb9e21c13507107fc03efd05d38f91fdad53a0409d", checked := Try.checked }
namespace Rows
def none {H : Type} : Left H := { results := [], args := [] }

/-- 'jointurelaw05.StoreGets': WHATEVER THE INPUT: true; the input reads as it did. -/
def storeGetsSpec : ChangeSpec := { name := "storeGets", fn := fun _ => fun
  | [d1, d2] => { results := [.lit (.bool true)], args := [d1, d2] }
  | _ => none }
def storeGetsRow : OpenClaim := { program := "ytlkajgjaidedkaa", sum := "238428cb5f4160f630cbd2bb9e21c13507107fc03efd05d38f91fdad53a0409d", func := "jointure/jointurelaw05.StoreGets", spec := "storeGets", inPlace := ["internal/bytealg.Compare", "slices.overlaps[jointure/store.pair]"], unfollowed := true, recurses := true, apart := false }
def StoreGetsSaid : Prop := storeGetsRow.holds Try.pinned (OpenSpec.ofChange storeGetsSpec)

/-- ITS FALSE NEIGHBOUR: 'it returns false'. Refute it at one input. -/
def storeGetsWrong : ChangeSpec := { name := "storeGets", fn := fun _ => fun
  | [d1, d2] => { results := [.lit (.bool false)], args := [d1, d2] }
  | _ => none }
def StoreGetsWrongFalsely : Prop := storeGetsRow.holds Try.pinned (OpenSpec.ofChange storeGetsWrong)

/-- 'jointurelaw05.StoreActs': WHATEVER THE INPUT: true; the input reads as it did. -/
def storeActsSpec : ChangeSpec := { name := "storeActs", fn := fun _ => fun
  | [d] => { results := [.lit (.bool true)], args := [d] }
  | _ => none }
def storeActsRow : OpenClaim := { program := "ytlkajgjaidedkaa", sum := "238428cb5f4160f630cbd2bb9e21c13507107fc03efd05d38f91fdad53a0409d", func := "jointure/jointurelaw05.StoreActs", spec := "storeActs", inPlace := ["internal/bytealg.Compare", "slices.overlaps[jointure/store.pair]"], unfollowed := true, recurses := true, apart := false }
def StoreActsSaid : Prop := storeActsRow.holds Try.pinned (OpenSpec.ofChange storeActsSpec)

/-- ITS FALSE NEIGHBOUR: 'it returns false'. Refute it at one input. -/
def storeActsWrong : ChangeSpec := { name := "storeActs", fn := fun _ => fun
  | [d] => { results := [.lit (.bool false)], args := [d] }
  | _ => none }
def StoreActsWrongFalsely : Prop := storeActsRow.holds Try.pinned (OpenSpec.ofChange storeActsWrong)

/-- 'jointurelaw05.StoreKeys': WHATEVER THE INPUT: true; the input reads as it did. -/
def storeKeysSpec : ChangeSpec := { name := "storeKeys", fn := fun _ => fun
  | [d1, d2] => { results := [.lit (.bool true)], args := [d1, d2] }
  | _ => none }
def storeKeysRow : OpenClaim := { program := "ytlkajgjaidedkaa", sum := "238428cb5f4160f630cbd2bb9e21c13507107fc03efd05d38f91fdad53a0409d", func := "jointure/jointurelaw05.StoreKeys", spec := "storeKeys", inPlace := ["internal/bytealg.Compare", "slices.overlaps[jointure/store.pair]"], unfollowed := true, recurses := true, apart := false }
def StoreKeysSaid : Prop := storeKeysRow.holds Try.pinned (OpenSpec.ofChange storeKeysSpec)

/-- ITS FALSE NEIGHBOUR: 'it returns false'. Refute it at one input. -/
def storeKeysWrong : ChangeSpec := { name := "storeKeys", fn := fun _ => fun
  | [d1, d2] => { results := [.lit (.bool false)], args := [d1, d2] }
  | _ => none }
def StoreKeysWrongFalsely : Prop := storeKeysRow.holds Try.pinned (OpenSpec.ofChange storeKeysWrong)

/-- 'jointurelaw05.StoreOwn': WHATEVER THE INPUT: true; the input reads as it did. -/
def storeOwnSpec : ChangeSpec := { name := "storeOwn", fn := fun _ => fun
  | [d1, d2, d3] => { results := [.lit (.bool true)], args := [d1, d2, d3] }
  | _ => none }
def storeOwnRow : OpenClaim := { program := "ytlkajgjaidedkaa", sum := "238428cb5f4160f630cbd2bb9e21c13507107fc03efd05d38f91fdad53a0409d", func := "jointure/jointurelaw05.StoreOwn", spec := "storeOwn", inPlace := ["internal/bytealg.Compare", "slices.overlaps[jointure/store.pair]"], unfollowed := true, recurses := true, apart := false }
def StoreOwnSaid : Prop := storeOwnRow.holds Try.pinned (OpenSpec.ofChange storeOwnSpec)

/-- ITS FALSE NEIGHBOUR: 'it returns false'. Refute it at one input. -/
def storeOwnWrong : ChangeSpec := { name := "storeOwn", fn := fun _ => fun
  | [d1, d2, d3] => { results := [.lit (.bool false)], args := [d1, d2, d3] }
  | _ => none }
def StoreOwnWrongFalsely : Prop := storeOwnRow.holds Try.pinned (OpenSpec.ofChange storeOwnWrong)

/-- 'jointurelaw05.StoreStays': WHATEVER THE INPUT: true; the input reads as it did. -/
def storeStaysSpec : ChangeSpec := { name := "storeStays", fn := fun _ => fun
  | [d1, d2] => { results := [.lit (.bool true)], args := [d1, d2] }
  | _ => none }
def storeStaysRow : OpenClaim := { program := "ytlkajgjaidedkaa", sum := "238428cb5f4160f630cbd2bb9e21c13507107fc03efd05d38f91fdad53a0409d", func := "jointure/jointurelaw05.StoreStays", spec := "storeStays", inPlace := ["internal/bytealg.Compare", "slices.overlaps[jointure/store.pair]"], unfollowed := true, recurses := true, apart := false }
def StoreStaysSaid : Prop := storeStaysRow.holds Try.pinned (OpenSpec.ofChange storeStaysSpec)

/-- ITS FALSE NEIGHBOUR: 'it returns false'. Refute it at one input. -/
def storeStaysWrong : ChangeSpec := { name := "storeStays", fn := fun _ => fun
  | [d1, d2] => { results := [.lit (.bool false)], args := [d1, d2] }
  | _ => none }
def StoreStaysWrongFalsely : Prop := storeStaysRow.holds Try.pinned (OpenSpec.ofChange storeStaysWrong)

/-- 'jointurelaw05.StoreRolls': WHATEVER THE INPUT: true; the input reads as it did. -/
def storeRollsSpec : ChangeSpec := { name := "storeRolls", fn := fun _ => fun
  | [d1, d2] => { results := [.lit (.bool true)], args := [d1, d2] }
  | _ => none }
def storeRollsRow : OpenClaim := { program := "ytlkajgjaidedkaa", sum := "238428cb5f4160f630cbd2bb9e21c13507107fc03efd05d38f91fdad53a0409d", func := "jointure/jointurelaw05.StoreRolls", spec := "storeRolls", inPlace := ["internal/bytealg.Compare", "slices.overlaps[jointure/store.pair]"], unfollowed := true, recurses := true, apart := false }
def StoreRollsSaid : Prop := storeRollsRow.holds Try.pinned (OpenSpec.ofChange storeRollsSpec)

/-- ITS FALSE NEIGHBOUR: 'it returns false'. Refute it at one input. -/
def storeRollsWrong : ChangeSpec := { name := "storeRolls", fn := fun _ => fun
  | [d1, d2] => { results := [.lit (.bool false)], args := [d1, d2] }
  | _ => none }
def StoreRollsWrongFalsely : Prop := storeRollsRow.holds Try.pinned (OpenSpec.ofChange storeRollsWrong)

/-- 'jointurelaw05.StoreCopies': WHATEVER THE INPUT: true; the input reads as it did. -/
def storeCopiesSpec : ChangeSpec := { name := "storeCopies", fn := fun _ => fun
  | [d1, d2] => { results := [.lit (.bool true)], args := [d1, d2] }
  | _ => none }
def storeCopiesRow : OpenClaim := { program := "ytlkajgjaidedkaa", sum := "238428cb5f4160f630cbd2bb9e21c13507107fc03efd05d38f91fdad53a0409d", func := "jointure/jointurelaw05.StoreCopies", spec := "storeCopies", inPlace := ["internal/bytealg.Compare", "slices.overlaps[jointure/store.pair]"], unfollowed := true, recurses := true, apart := false }
def StoreCopiesSaid : Prop := storeCopiesRow.holds Try.pinned (OpenSpec.ofChange storeCopiesSpec)

/-- ITS FALSE NEIGHBOUR: 'it returns false'. Refute it at one input. -/
def storeCopiesWrong : ChangeSpec := { name := "storeCopies", fn := fun _ => fun
  | [d1, d2] => { results := [.lit (.bool false)], args := [d1, d2] }
  | _ => none }
def StoreCopiesWrongFalsely : Prop := storeCopiesRow.holds Try.pinned (OpenSpec.ofChange storeCopiesWrong)

/-- 'jointurelaw05.StoreNil': WHATEVER THE INPUT: true; the input reads as it did. -/
def storeNilSpec : ChangeSpec := { name := "storeNil", fn := fun _ => fun
  | [d1, d2] => { results := [.lit (.bool true)], args := [d1, d2] }
  | _ => none }
def storeNilRow : OpenClaim := { program := "ytlkajgjaidedkaa", sum := "238428cb5f4160f630cbd2bb9e21c13507107fc03efd05d38f91fdad53a0409d", func := "jointure/jointurelaw05.StoreNil", spec := "storeNil", inPlace := ["internal/bytealg.Compare", "slices.overlaps[jointure/store.pair]"], unfollowed := true, recurses := true, apart := false }
def StoreNilSaid : Prop := storeNilRow.holds Try.pinned (OpenSpec.ofChange storeNilSpec)

/-- ITS FALSE NEIGHBOUR: 'it returns false'. Refute it at one input. -/
def storeNilWrong : ChangeSpec := { name := "storeNil", fn := fun _ => fun
  | [d1, d2] => { results := [.lit (.bool false)], args := [d1, d2] }
  | _ => none }
def StoreNilWrongFalsely : Prop := storeNilRow.holds Try.pinned (OpenSpec.ofChange storeNilWrong)

/-- 'jointurelaw13.LineOrders': WHATEVER THE INPUT: true; the input reads as it did. -/
def lineOrdersSpec : ChangeSpec := { name := "lineOrders", fn := fun _ => fun
  | [d] => { results := [.lit (.bool true)], args := [d] }
  | _ => none }
def lineOrdersRow : OpenClaim := { program := "ytlkajgjaidedkaa", sum := "238428cb5f4160f630cbd2bb9e21c13507107fc03efd05d38f91fdad53a0409d", func := "jointure/jointurelaw13.LineOrders", spec := "lineOrders", inPlace := ["internal/bytealg.Compare", "slices.overlaps[jointure/store.pair]"], unfollowed := true, recurses := true, apart := false }
def LineOrdersSaid : Prop := lineOrdersRow.holds Try.pinned (OpenSpec.ofChange lineOrdersSpec)

/-- ITS FALSE NEIGHBOUR: 'it returns false'. Refute it at one input. -/
def lineOrdersWrong : ChangeSpec := { name := "lineOrders", fn := fun _ => fun
  | [d] => { results := [.lit (.bool false)], args := [d] }
  | _ => none }
def LineOrdersWrongFalsely : Prop := lineOrdersRow.holds Try.pinned (OpenSpec.ofChange lineOrdersWrong)

/-- 'jointurelaw13.LineNumbers': WHATEVER THE INPUT: true; the input reads as it did. -/
def lineNumbersSpec : ChangeSpec := { name := "lineNumbers", fn := fun _ => fun
  | [d] => { results := [.lit (.bool true)], args := [d] }
  | _ => none }
def lineNumbersRow : OpenClaim := { program := "ytlkajgjaidedkaa", sum := "238428cb5f4160f630cbd2bb9e21c13507107fc03efd05d38f91fdad53a0409d", func := "jointure/jointurelaw13.LineNumbers", spec := "lineNumbers", inPlace := ["internal/bytealg.Compare", "slices.overlaps[jointure/store.pair]"], unfollowed := true, recurses := true, apart := false }
def LineNumbersSaid : Prop := lineNumbersRow.holds Try.pinned (OpenSpec.ofChange lineNumbersSpec)

/-- ITS FALSE NEIGHBOUR: 'it returns false'. Refute it at one input. -/
def lineNumbersWrong : ChangeSpec := { name := "lineNumbers", fn := fun _ => fun
  | [d] => { results := [.lit (.bool false)], args := [d] }
  | _ => none }
def LineNumbersWrongFalsely : Prop := lineNumbersRow.holds Try.pinned (OpenSpec.ofChange lineNumbersWrong)

/-- 'jointurelaw13.LineActs': WHATEVER THE INPUT: true; the input reads as it did. -/
def lineActsSpec : ChangeSpec := { name := "lineActs", fn := fun _ => fun
  | [d1, d2] => { results := [.lit (.bool true)], args := [d1, d2] }
  | _ => none }
def lineActsRow : OpenClaim := { program := "ytlkajgjaidedkaa", sum := "238428cb5f4160f630cbd2bb9e21c13507107fc03efd05d38f91fdad53a0409d", func := "jointure/jointurelaw13.LineActs", spec := "lineActs", inPlace := ["internal/bytealg.Compare", "slices.overlaps[jointure/store.pair]"], unfollowed := true, recurses := true, apart := false }
def LineActsSaid : Prop := lineActsRow.holds Try.pinned (OpenSpec.ofChange lineActsSpec)

/-- ITS FALSE NEIGHBOUR: 'it returns false'. Refute it at one input. -/
def lineActsWrong : ChangeSpec := { name := "lineActs", fn := fun _ => fun
  | [d1, d2] => { results := [.lit (.bool false)], args := [d1, d2] }
  | _ => none }
def LineActsWrongFalsely : Prop := lineActsRow.holds Try.pinned (OpenSpec.ofChange lineActsWrong)

/-- 'jointurelaw13.LineRipes': WHATEVER THE INPUT: true; the input reads as it did. -/
def lineRipesSpec : ChangeSpec := { name := "lineRipes", fn := fun _ => fun
  | [d1, d2, d3] => { results := [.lit (.bool true)], args := [d1, d2, d3] }
  | _ => none }
def lineRipesRow : OpenClaim := { program := "ytlkajgjaidedkaa", sum := "238428cb5f4160f630cbd2bb9e21c13507107fc03efd05d38f91fdad53a0409d", func := "jointure/jointurelaw13.LineRipes", spec := "lineRipes", inPlace := ["internal/bytealg.Compare", "slices.overlaps[jointure/store.pair]"], unfollowed := true, recurses := true, apart := false }
def LineRipesSaid : Prop := lineRipesRow.holds Try.pinned (OpenSpec.ofChange lineRipesSpec)

/-- ITS FALSE NEIGHBOUR: 'it returns false'. Refute it at one input. -/
def lineRipesWrong : ChangeSpec := { name := "lineRipes", fn := fun _ => fun
  | [d1, d2, d3] => { results := [.lit (.bool false)], args := [d1, d2, d3] }
  | _ => none }
def LineRipesWrongFalsely : Prop := lineRipesRow.holds Try.pinned (OpenSpec.ofChange lineRipesWrong)

/-- 'jointurelaw13.LineNil': WHATEVER THE INPUT: true; the input reads as it did. -/
def lineNilSpec : ChangeSpec := { name := "lineNil", fn := fun _ => fun
  | [d1, d2, d3, d4] => { results := [.lit (.bool true)], args := [d1, d2, d3, d4] }
  | _ => none }
def lineNilRow : OpenClaim := { program := "ytlkajgjaidedkaa", sum := "238428cb5f4160f630cbd2bb9e21c13507107fc03efd05d38f91fdad53a0409d", func := "jointure/jointurelaw13.LineNil", spec := "lineNil", inPlace := ["internal/bytealg.Compare", "slices.overlaps[jointure/store.pair]"], unfollowed := true, recurses := true, apart := false }
def LineNilSaid : Prop := lineNilRow.holds Try.pinned (OpenSpec.ofChange lineNilSpec)

/-- ITS FALSE NEIGHBOUR: 'it returns false'. Refute it at one input. -/
def lineNilWrong : ChangeSpec := { name := "lineNil", fn := fun _ => fun
  | [d1, d2, d3, d4] => { results := [.lit (.bool false)], args := [d1, d2, d3, d4] }
  | _ => none }
def LineNilWrongFalsely : Prop := lineNilRow.holds Try.pinned (OpenSpec.ofChange lineNilWrong)

/-- 'jointurelaw14.HopThere': WHATEVER THE INPUT: true; the input reads as it did. -/
def hopThereSpec : ChangeSpec := { name := "hopThere", fn := fun _ => fun
  | [d1, d2] => { results := [.lit (.bool true)], args := [d1, d2] }
  | _ => none }
def hopThereRow : OpenClaim := { program := "ytlkajgjaidedkaa", sum := "238428cb5f4160f630cbd2bb9e21c13507107fc03efd05d38f91fdad53a0409d", func := "jointure/jointurelaw14.HopThere", spec := "hopThere", inPlace := ["internal/bytealg.Compare", "slices.overlaps[jointure/store.pair]"], unfollowed := true, recurses := true, apart := false }
def HopThereSaid : Prop := hopThereRow.holds Try.pinned (OpenSpec.ofChange hopThereSpec)

/-- ITS FALSE NEIGHBOUR: 'it returns false'. Refute it at one input. -/
def hopThereWrong : ChangeSpec := { name := "hopThere", fn := fun _ => fun
  | [d1, d2] => { results := [.lit (.bool false)], args := [d1, d2] }
  | _ => none }
def HopThereWrongFalsely : Prop := hopThereRow.holds Try.pinned (OpenSpec.ofChange hopThereWrong)

/-- 'jointurelaw14.HopActs': WHATEVER THE INPUT: true; the input reads as it did. -/
def hopActsSpec : ChangeSpec := { name := "hopActs", fn := fun _ => fun
  | [d1, d2] => { results := [.lit (.bool true)], args := [d1, d2] }
  | _ => none }
def hopActsRow : OpenClaim := { program := "ytlkajgjaidedkaa", sum := "238428cb5f4160f630cbd2bb9e21c13507107fc03efd05d38f91fdad53a0409d", func := "jointure/jointurelaw14.HopActs", spec := "hopActs", inPlace := ["internal/bytealg.Compare", "slices.overlaps[jointure/store.pair]"], unfollowed := true, recurses := true, apart := false }
def HopActsSaid : Prop := hopActsRow.holds Try.pinned (OpenSpec.ofChange hopActsSpec)

/-- ITS FALSE NEIGHBOUR: 'it returns false'. Refute it at one input. -/
def hopActsWrong : ChangeSpec := { name := "hopActs", fn := fun _ => fun
  | [d1, d2] => { results := [.lit (.bool false)], args := [d1, d2] }
  | _ => none }
def HopActsWrongFalsely : Prop := hopActsRow.holds Try.pinned (OpenSpec.ofChange hopActsWrong)

/-- 'jointurelaw14.HopCounts': WHATEVER THE INPUT: true; the input reads as it did. -/
def hopCountsSpec : ChangeSpec := { name := "hopCounts", fn := fun _ => fun
  | [d1, d2, d3, d4, d5] => { results := [.lit (.bool true)], args := [d1, d2, d3, d4, d5] }
  | _ => none }
def hopCountsRow : OpenClaim := { program := "ytlkajgjaidedkaa", sum := "238428cb5f4160f630cbd2bb9e21c13507107fc03efd05d38f91fdad53a0409d", func := "jointure/jointurelaw14.HopCounts", spec := "hopCounts", inPlace := ["internal/bytealg.Compare", "slices.overlaps[jointure/store.pair]"], unfollowed := true, recurses := true, apart := false }
def HopCountsSaid : Prop := hopCountsRow.holds Try.pinned (OpenSpec.ofChange hopCountsSpec)

/-- ITS FALSE NEIGHBOUR: 'it returns false'. Refute it at one input. -/
def hopCountsWrong : ChangeSpec := { name := "hopCounts", fn := fun _ => fun
  | [d1, d2, d3, d4, d5] => { results := [.lit (.bool false)], args := [d1, d2, d3, d4, d5] }
  | _ => none }
def HopCountsWrongFalsely : Prop := hopCountsRow.holds Try.pinned (OpenSpec.ofChange hopCountsWrong)

/-- 'jointurelaw14.HopNil': WHATEVER THE INPUT: true; the input reads as it did. -/
def hopNilSpec : ChangeSpec := { name := "hopNil", fn := fun _ => fun
  | [d1, d2, d3] => { results := [.lit (.bool true)], args := [d1, d2, d3] }
  | _ => none }
def hopNilRow : OpenClaim := { program := "ytlkajgjaidedkaa", sum := "238428cb5f4160f630cbd2bb9e21c13507107fc03efd05d38f91fdad53a0409d", func := "jointure/jointurelaw14.HopNil", spec := "hopNil", inPlace := ["internal/bytealg.Compare", "slices.overlaps[jointure/store.pair]"], unfollowed := true, recurses := true, apart := false }
def HopNilSaid : Prop := hopNilRow.holds Try.pinned (OpenSpec.ofChange hopNilSpec)

/-- ITS FALSE NEIGHBOUR: 'it returns false'. Refute it at one input. -/
def hopNilWrong : ChangeSpec := { name := "hopNil", fn := fun _ => fun
  | [d1, d2, d3] => { results := [.lit (.bool false)], args := [d1, d2, d3] }
  | _ => none }
def HopNilWrongFalsely : Prop := hopNilRow.holds Try.pinned (OpenSpec.ofChange hopNilWrong)

/- THE SECOND FORM. 'bulk': how many values and letters a reading holds, each counted each time it is reached (what is shared counts as often as it is met; a slice's spare places count too). A statement '..UptoSaid' is the law's where the arguments, and the package variables that the reading takes, are together of bulk at most 1048576: NARROWER than '..Said'. Prove '..Said' where nothing that the law and all that it calls make is longer than what came in: it says more and counts as full. Else prove '..UptoSaid'. A law counts once. -/
mutual
def uptoBulk {H : Type} : DataW H → Nat
  | .lit (.string bytes) => bytes.length + 1
  | .lit _ => 1
  | .nil => 1
  | .ptr d => uptoBulk d + 1
  | .slice elems spare => uptoBulkAll elems + uptoBulkAll spare + 1
  | .agg parts => uptoBulkAll parts + 1
  | .iface _ d => uptoBulk d + 1
  | .map entries => uptoBulkEntries entries + 1
  | .held _ => 1
def uptoBulkAll {H : Type} : List (DataW H) → Nat
  | [] => 0
  | d :: r => uptoBulk d + uptoBulkAll r
def uptoBulkEntries {H : Type} : List (Lit × DataW H) → Nat
  | [] => 0
  | x :: r => uptoBulkEntry x + uptoBulkEntries r
def uptoBulkEntry {H : Type} : Lit × DataW H → Nat
  | (.string bytes, d) => bytes.length + uptoBulk d + 1
  | (_, d) => uptoBulk d + 1
 end
def uptoSmall : (H : Type) → List (DataW H) → Bool := fun _ ds => decide (uptoBulkAll ds ≤ 1048576)
def OpenSpec.upto (s : _root_.Go.ChangeSpec) : _root_.Go.OpenSpec := { _root_.Go.OpenSpec.ofChange s with cond := some uptoSmall }

/-- 'jointurelaw05.StoreGets', WHERE WHAT IT READS IS OF BULK AT MOST 1048576: true; the input reads as it did. -/
def storeGetsUptoRow : OpenClaim := { program := "ytlkajgjaidedkaa", sum := "238428cb5f4160f630cbd2bb9e21c13507107fc03efd05d38f91fdad53a0409d", func := "jointure/jointurelaw05.StoreGets", spec := "storeGets", inPlace := ["internal/bytealg.Compare", "slices.overlaps[jointure/store.pair]"], unfollowed := true, recurses := true, apart := false, narrowed := true }
def StoreGetsUptoSaid : Prop := storeGetsUptoRow.holds Try.pinned (OpenSpec.upto storeGetsSpec)

/-- 'jointurelaw05.StoreActs', WHERE WHAT IT READS IS OF BULK AT MOST 1048576: true; the input reads as it did. -/
def storeActsUptoRow : OpenClaim := { program := "ytlkajgjaidedkaa", sum := "238428cb5f4160f630cbd2bb9e21c13507107fc03efd05d38f91fdad53a0409d", func := "jointure/jointurelaw05.StoreActs", spec := "storeActs", inPlace := ["internal/bytealg.Compare", "slices.overlaps[jointure/store.pair]"], unfollowed := true, recurses := true, apart := false, narrowed := true }
def StoreActsUptoSaid : Prop := storeActsUptoRow.holds Try.pinned (OpenSpec.upto storeActsSpec)

/-- 'jointurelaw05.StoreKeys', WHERE WHAT IT READS IS OF BULK AT MOST 1048576: true; the input reads as it did. -/
def storeKeysUptoRow : OpenClaim := { program := "ytlkajgjaidedkaa", sum := "238428cb5f4160f630cbd2bb9e21c13507107fc03efd05d38f91fdad53a0409d", func := "jointure/jointurelaw05.StoreKeys", spec := "storeKeys", inPlace := ["internal/bytealg.Compare", "slices.overlaps[jointure/store.pair]"], unfollowed := true, recurses := true, apart := false, narrowed := true }
def StoreKeysUptoSaid : Prop := storeKeysUptoRow.holds Try.pinned (OpenSpec.upto storeKeysSpec)

/-- 'jointurelaw05.StoreOwn', WHERE WHAT IT READS IS OF BULK AT MOST 1048576: true; the input reads as it did. -/
def storeOwnUptoRow : OpenClaim := { program := "ytlkajgjaidedkaa", sum := "238428cb5f4160f630cbd2bb9e21c13507107fc03efd05d38f91fdad53a0409d", func := "jointure/jointurelaw05.StoreOwn", spec := "storeOwn", inPlace := ["internal/bytealg.Compare", "slices.overlaps[jointure/store.pair]"], unfollowed := true, recurses := true, apart := false, narrowed := true }
def StoreOwnUptoSaid : Prop := storeOwnUptoRow.holds Try.pinned (OpenSpec.upto storeOwnSpec)

/-- 'jointurelaw05.StoreStays', WHERE WHAT IT READS IS OF BULK AT MOST 1048576: true; the input reads as it did. -/
def storeStaysUptoRow : OpenClaim := { program := "ytlkajgjaidedkaa", sum := "238428cb5f4160f630cbd2bb9e21c13507107fc03efd05d38f91fdad53a0409d", func := "jointure/jointurelaw05.StoreStays", spec := "storeStays", inPlace := ["internal/bytealg.Compare", "slices.overlaps[jointure/store.pair]"], unfollowed := true, recurses := true, apart := false, narrowed := true }
def StoreStaysUptoSaid : Prop := storeStaysUptoRow.holds Try.pinned (OpenSpec.upto storeStaysSpec)

/-- 'jointurelaw05.StoreRolls', WHERE WHAT IT READS IS OF BULK AT MOST 1048576: true; the input reads as it did. -/
def storeRollsUptoRow : OpenClaim := { program := "ytlkajgjaidedkaa", sum := "238428cb5f4160f630cbd2bb9e21c13507107fc03efd05d38f91fdad53a0409d", func := "jointure/jointurelaw05.StoreRolls", spec := "storeRolls", inPlace := ["internal/bytealg.Compare", "slices.overlaps[jointure/store.pair]"], unfollowed := true, recurses := true, apart := false, narrowed := true }
def StoreRollsUptoSaid : Prop := storeRollsUptoRow.holds Try.pinned (OpenSpec.upto storeRollsSpec)

/-- 'jointurelaw05.StoreCopies', WHERE WHAT IT READS IS OF BULK AT MOST 1048576: true; the input reads as it did. -/
def storeCopiesUptoRow : OpenClaim := { program := "ytlkajgjaidedkaa", sum := "238428cb5f4160f630cbd2bb9e21c13507107fc03efd05d38f91fdad53a0409d", func := "jointure/jointurelaw05.StoreCopies", spec := "storeCopies", inPlace := ["internal/bytealg.Compare", "slices.overlaps[jointure/store.pair]"], unfollowed := true, recurses := true, apart := false, narrowed := true }
def StoreCopiesUptoSaid : Prop := storeCopiesUptoRow.holds Try.pinned (OpenSpec.upto storeCopiesSpec)

/-- 'jointurelaw05.StoreNil', WHERE WHAT IT READS IS OF BULK AT MOST 1048576: true; the input reads as it did. -/
def storeNilUptoRow : OpenClaim := { program := "ytlkajgjaidedkaa", sum := "238428cb5f4160f630cbd2bb9e21c13507107fc03efd05d38f91fdad53a0409d", func := "jointure/jointurelaw05.StoreNil", spec := "storeNil", inPlace := ["internal/bytealg.Compare", "slices.overlaps[jointure/store.pair]"], unfollowed := true, recurses := true, apart := false, narrowed := true }
def StoreNilUptoSaid : Prop := storeNilUptoRow.holds Try.pinned (OpenSpec.upto storeNilSpec)

/-- 'jointurelaw13.LineOrders', WHERE WHAT IT READS IS OF BULK AT MOST 1048576: true; the input reads as it did. -/
def lineOrdersUptoRow : OpenClaim := { program := "ytlkajgjaidedkaa", sum := "238428cb5f4160f630cbd2bb9e21c13507107fc03efd05d38f91fdad53a0409d", func := "jointure/jointurelaw13.LineOrders", spec := "lineOrders", inPlace := ["internal/bytealg.Compare", "slices.overlaps[jointure/store.pair]"], unfollowed := true, recurses := true, apart := false, narrowed := true }
def LineOrdersUptoSaid : Prop := lineOrdersUptoRow.holds Try.pinned (OpenSpec.upto lineOrdersSpec)

/-- 'jointurelaw13.LineNumbers', WHERE WHAT IT READS IS OF BULK AT MOST 1048576: true; the input reads as it did. -/
def lineNumbersUptoRow : OpenClaim := { program := "ytlkajgjaidedkaa", sum := "238428cb5f4160f630cbd2bb9e21c13507107fc03efd05d38f91fdad53a0409d", func := "jointure/jointurelaw13.LineNumbers", spec := "lineNumbers", inPlace := ["internal/bytealg.Compare", "slices.overlaps[jointure/store.pair]"], unfollowed := true, recurses := true, apart := false, narrowed := true }
def LineNumbersUptoSaid : Prop := lineNumbersUptoRow.holds Try.pinned (OpenSpec.upto lineNumbersSpec)

/-- 'jointurelaw13.LineActs', WHERE WHAT IT READS IS OF BULK AT MOST 1048576: true; the input reads as it did. -/
def lineActsUptoRow : OpenClaim := { program := "ytlkajgjaidedkaa", sum := "238428cb5f4160f630cbd2bb9e21c13507107fc03efd05d38f91fdad53a0409d", func := "jointure/jointurelaw13.LineActs", spec := "lineActs", inPlace := ["internal/bytealg.Compare", "slices.overlaps[jointure/store.pair]"], unfollowed := true, recurses := true, apart := false, narrowed := true }
def LineActsUptoSaid : Prop := lineActsUptoRow.holds Try.pinned (OpenSpec.upto lineActsSpec)

/-- 'jointurelaw13.LineRipes', WHERE WHAT IT READS IS OF BULK AT MOST 1048576: true; the input reads as it did. -/
def lineRipesUptoRow : OpenClaim := { program := "ytlkajgjaidedkaa", sum := "238428cb5f4160f630cbd2bb9e21c13507107fc03efd05d38f91fdad53a0409d", func := "jointure/jointurelaw13.LineRipes", spec := "lineRipes", inPlace := ["internal/bytealg.Compare", "slices.overlaps[jointure/store.pair]"], unfollowed := true, recurses := true, apart := false, narrowed := true }
def LineRipesUptoSaid : Prop := lineRipesUptoRow.holds Try.pinned (OpenSpec.upto lineRipesSpec)

/-- 'jointurelaw13.LineNil', WHERE WHAT IT READS IS OF BULK AT MOST 1048576: true; the input reads as it did. -/
def lineNilUptoRow : OpenClaim := { program := "ytlkajgjaidedkaa", sum := "238428cb5f4160f630cbd2bb9e21c13507107fc03efd05d38f91fdad53a0409d", func := "jointure/jointurelaw13.LineNil", spec := "lineNil", inPlace := ["internal/bytealg.Compare", "slices.overlaps[jointure/store.pair]"], unfollowed := true, recurses := true, apart := false, narrowed := true }
def LineNilUptoSaid : Prop := lineNilUptoRow.holds Try.pinned (OpenSpec.upto lineNilSpec)

/-- 'jointurelaw14.HopThere', WHERE WHAT IT READS IS OF BULK AT MOST 1048576: true; the input reads as it did. -/
def hopThereUptoRow : OpenClaim := { program := "ytlkajgjaidedkaa", sum := "238428cb5f4160f630cbd2bb9e21c13507107fc03efd05d38f91fdad53a0409d", func := "jointure/jointurelaw14.HopThere", spec := "hopThere", inPlace := ["internal/bytealg.Compare", "slices.overlaps[jointure/store.pair]"], unfollowed := true, recurses := true, apart := false, narrowed := true }
def HopThereUptoSaid : Prop := hopThereUptoRow.holds Try.pinned (OpenSpec.upto hopThereSpec)

/-- 'jointurelaw14.HopActs', WHERE WHAT IT READS IS OF BULK AT MOST 1048576: true; the input reads as it did. -/
def hopActsUptoRow : OpenClaim := { program := "ytlkajgjaidedkaa", sum := "238428cb5f4160f630cbd2bb9e21c13507107fc03efd05d38f91fdad53a0409d", func := "jointure/jointurelaw14.HopActs", spec := "hopActs", inPlace := ["internal/bytealg.Compare", "slices.overlaps[jointure/store.pair]"], unfollowed := true, recurses := true, apart := false, narrowed := true }
def HopActsUptoSaid : Prop := hopActsUptoRow.holds Try.pinned (OpenSpec.upto hopActsSpec)

/-- 'jointurelaw14.HopCounts', WHERE WHAT IT READS IS OF BULK AT MOST 1048576: true; the input reads as it did. -/
def hopCountsUptoRow : OpenClaim := { program := "ytlkajgjaidedkaa", sum := "238428cb5f4160f630cbd2bb9e21c13507107fc03efd05d38f91fdad53a0409d", func := "jointure/jointurelaw14.HopCounts", spec := "hopCounts", inPlace := ["internal/bytealg.Compare", "slices.overlaps[jointure/store.pair]"], unfollowed := true, recurses := true, apart := false, narrowed := true }
def HopCountsUptoSaid : Prop := hopCountsUptoRow.holds Try.pinned (OpenSpec.upto hopCountsSpec)

/-- 'jointurelaw14.HopNil', WHERE WHAT IT READS IS OF BULK AT MOST 1048576: true; the input reads as it did. -/
def hopNilUptoRow : OpenClaim := { program := "ytlkajgjaidedkaa", sum := "238428cb5f4160f630cbd2bb9e21c13507107fc03efd05d38f91fdad53a0409d", func := "jointure/jointurelaw14.HopNil", spec := "hopNil", inPlace := ["internal/bytealg.Compare", "slices.overlaps[jointure/store.pair]"], unfollowed := true, recurses := true, apart := false, narrowed := true }
def HopNilUptoSaid : Prop := hopNilUptoRow.holds Try.pinned (OpenSpec.upto hopNilSpec)

end Rows
end Go.Proofs.Ytlkajgjaidedkaa
