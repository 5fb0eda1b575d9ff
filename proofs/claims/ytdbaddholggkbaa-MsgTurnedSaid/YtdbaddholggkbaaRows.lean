/-
  No cell of these rows narrows 'for every input' (looked for: loops, veiled, ifaces, maps, wideKeys, modest, calm, conditions, laid).
  DERIVED. THE GIVEN ROWS OF THIS SEAT. 14 by the template 'for every input the law returns true; each argument reads behind the call as it read before'; 0 by the template 'total and deterministic' (their statements: YtdbaddholggkbaaTotals.lean).
  GIVEN WITH THE SEED: the statements are not yours to turn. If you find one false, say at which input.
  Laid BY PROGRAM, IN A SANDBOX (cutbox-rows.mjs): the forced cells as the released guide's own fill.sh prints them over the translation 92e29fc48705fd45… (all of the seat's roots in one cut). By AI agents, Wed Nov 11 2026. No macro, syntax, notation, axiom, sorry.
-/
import Derived.Test.YtdbaddholggkbaaChecked
import GoSem.Claim
import GoSem.ClaimJoined
import GoSem.ClaimMapViews
import Derived.JoinedTies
import Derived.KernelRfl
namespace Go.Proofs.Ytdbaddholggkbaa
/- THE CELL 'sum', in the pinned program and in every row, IS THE sha256 OF THE DUMP (.gsa) THAT YtdbaddholggkbaaProg.lean LOADS. Nothing in Lean hashes anything: it is a label: what it is worth is what the hold of that sum in a sandbox is worth. -/
noncomputable def Try.pinned : Pinned := { name := "ytdbaddholggkbaa", sum := "92e29fc48705fd45cfd5c82390df7729a78c65a46d2f2fbc4dad1031546bfab9", checked := Try.checked }
namespace Rows
def none {H : Type} : Left H := { results := [], args := [] }

/-- 'jointurelaw06.PlanRights': WHATEVER THE INPUT: true; the input reads as it did. -/
def planRightsSpec : ChangeSpec := { name := "planRights", fn := fun _ => fun
  | [d] => { results := [.lit (.bool true)], args := [d] }
  | _ => none }
def planRightsRow : OpenClaim := { program := "ytdbaddholggkbaa", sum := "92e29fc48705fd45cfd5c82390df7729a78c65a46d2f2fbc4dad1031546bfab9", func := "jointure/jointurelaw06.PlanRights", spec := "planRights", inPlace := ["math/bits.Add64", "math/bits.Sub64"], unfollowed := true, recurses := true, apart := false }
def PlanRightsSaid : Prop := planRightsRow.holds Try.pinned (OpenSpec.ofChange planRightsSpec)

/-- ITS FALSE NEIGHBOUR: 'it returns false'. Refute it at one input. -/
def planRightsWrong : ChangeSpec := { name := "planRights", fn := fun _ => fun
  | [d] => { results := [.lit (.bool false)], args := [d] }
  | _ => none }
def PlanRightsWrongFalsely : Prop := planRightsRow.holds Try.pinned (OpenSpec.ofChange planRightsWrong)

/-- 'jointurelaw06.PlanMade': WHATEVER THE INPUT: true; the input reads as it did. -/
def planMadeSpec : ChangeSpec := { name := "planMade", fn := fun _ => fun
  | [d1, d2, d3, d4] => { results := [.lit (.bool true)], args := [d1, d2, d3, d4] }
  | _ => none }
def planMadeRow : OpenClaim := { program := "ytdbaddholggkbaa", sum := "92e29fc48705fd45cfd5c82390df7729a78c65a46d2f2fbc4dad1031546bfab9", func := "jointure/jointurelaw06.PlanMade", spec := "planMade", inPlace := ["math/bits.Add64", "math/bits.Sub64"], unfollowed := true, recurses := true, apart := false }
def PlanMadeSaid : Prop := planMadeRow.holds Try.pinned (OpenSpec.ofChange planMadeSpec)

/-- ITS FALSE NEIGHBOUR: 'it returns false'. Refute it at one input. -/
def planMadeWrong : ChangeSpec := { name := "planMade", fn := fun _ => fun
  | [d1, d2, d3, d4] => { results := [.lit (.bool false)], args := [d1, d2, d3, d4] }
  | _ => none }
def PlanMadeWrongFalsely : Prop := planMadeRow.holds Try.pinned (OpenSpec.ofChange planMadeWrong)

/-- 'jointurelaw06.PlanVests': WHATEVER THE INPUT: true; the input reads as it did. -/
def planVestsSpec : ChangeSpec := { name := "planVests", fn := fun _ => fun
  | [d1, d2] => { results := [.lit (.bool true)], args := [d1, d2] }
  | _ => none }
def planVestsRow : OpenClaim := { program := "ytdbaddholggkbaa", sum := "92e29fc48705fd45cfd5c82390df7729a78c65a46d2f2fbc4dad1031546bfab9", func := "jointure/jointurelaw06.PlanVests", spec := "planVests", inPlace := ["math/bits.Add64", "math/bits.Sub64"], unfollowed := true, recurses := true, apart := false }
def PlanVestsSaid : Prop := planVestsRow.holds Try.pinned (OpenSpec.ofChange planVestsSpec)

/-- ITS FALSE NEIGHBOUR: 'it returns false'. Refute it at one input. -/
def planVestsWrong : ChangeSpec := { name := "planVests", fn := fun _ => fun
  | [d1, d2] => { results := [.lit (.bool false)], args := [d1, d2] }
  | _ => none }
def PlanVestsWrongFalsely : Prop := planVestsRow.holds Try.pinned (OpenSpec.ofChange planVestsWrong)

/-- 'jointurelaw06.PlanRises': WHATEVER THE INPUT: true; the input reads as it did. -/
def planRisesSpec : ChangeSpec := { name := "planRises", fn := fun _ => fun
  | [d1, d2, d3] => { results := [.lit (.bool true)], args := [d1, d2, d3] }
  | _ => none }
def planRisesRow : OpenClaim := { program := "ytdbaddholggkbaa", sum := "92e29fc48705fd45cfd5c82390df7729a78c65a46d2f2fbc4dad1031546bfab9", func := "jointure/jointurelaw06.PlanRises", spec := "planRises", inPlace := ["math/bits.Add64", "math/bits.Sub64"], unfollowed := true, recurses := true, apart := false }
def PlanRisesSaid : Prop := planRisesRow.holds Try.pinned (OpenSpec.ofChange planRisesSpec)

/-- ITS FALSE NEIGHBOUR: 'it returns false'. Refute it at one input. -/
def planRisesWrong : ChangeSpec := { name := "planRises", fn := fun _ => fun
  | [d1, d2, d3] => { results := [.lit (.bool false)], args := [d1, d2, d3] }
  | _ => none }
def PlanRisesWrongFalsely : Prop := planRisesRow.holds Try.pinned (OpenSpec.ofChange planRisesWrong)

/-- 'jointurelaw06.PlanEnds': WHATEVER THE INPUT: true; the input reads as it did. -/
def planEndsSpec : ChangeSpec := { name := "planEnds", fn := fun _ => fun
  | [d1, d2] => { results := [.lit (.bool true)], args := [d1, d2] }
  | _ => none }
def planEndsRow : OpenClaim := { program := "ytdbaddholggkbaa", sum := "92e29fc48705fd45cfd5c82390df7729a78c65a46d2f2fbc4dad1031546bfab9", func := "jointure/jointurelaw06.PlanEnds", spec := "planEnds", inPlace := ["math/bits.Add64", "math/bits.Sub64"], unfollowed := true, recurses := true, apart := false }
def PlanEndsSaid : Prop := planEndsRow.holds Try.pinned (OpenSpec.ofChange planEndsSpec)

/-- ITS FALSE NEIGHBOUR: 'it returns false'. Refute it at one input. -/
def planEndsWrong : ChangeSpec := { name := "planEnds", fn := fun _ => fun
  | [d1, d2] => { results := [.lit (.bool false)], args := [d1, d2] }
  | _ => none }
def PlanEndsWrongFalsely : Prop := planEndsRow.holds Try.pinned (OpenSpec.ofChange planEndsWrong)

/-- 'jointurelaw06.PlanCuts': WHATEVER THE INPUT: true; the input reads as it did. -/
def planCutsSpec : ChangeSpec := { name := "planCuts", fn := fun _ => fun
  | [d1, d2, d3] => { results := [.lit (.bool true)], args := [d1, d2, d3] }
  | _ => none }
def planCutsRow : OpenClaim := { program := "ytdbaddholggkbaa", sum := "92e29fc48705fd45cfd5c82390df7729a78c65a46d2f2fbc4dad1031546bfab9", func := "jointure/jointurelaw06.PlanCuts", spec := "planCuts", inPlace := ["math/bits.Add64", "math/bits.Sub64"], unfollowed := true, recurses := true, apart := false }
def PlanCutsSaid : Prop := planCutsRow.holds Try.pinned (OpenSpec.ofChange planCutsSpec)

/-- ITS FALSE NEIGHBOUR: 'it returns false'. Refute it at one input. -/
def planCutsWrong : ChangeSpec := { name := "planCuts", fn := fun _ => fun
  | [d1, d2, d3] => { results := [.lit (.bool false)], args := [d1, d2, d3] }
  | _ => none }
def PlanCutsWrongFalsely : Prop := planCutsRow.holds Try.pinned (OpenSpec.ofChange planCutsWrong)

/-- 'jointurelaw06.PlanTakes': WHATEVER THE INPUT: true; the input reads as it did. -/
def planTakesSpec : ChangeSpec := { name := "planTakes", fn := fun _ => fun
  | [d] => { results := [.lit (.bool true)], args := [d] }
  | _ => none }
def planTakesRow : OpenClaim := { program := "ytdbaddholggkbaa", sum := "92e29fc48705fd45cfd5c82390df7729a78c65a46d2f2fbc4dad1031546bfab9", func := "jointure/jointurelaw06.PlanTakes", spec := "planTakes", inPlace := ["math/bits.Add64", "math/bits.Sub64"], unfollowed := true, recurses := true, apart := false }
def PlanTakesSaid : Prop := planTakesRow.holds Try.pinned (OpenSpec.ofChange planTakesSpec)

/-- ITS FALSE NEIGHBOUR: 'it returns false'. Refute it at one input. -/
def planTakesWrong : ChangeSpec := { name := "planTakes", fn := fun _ => fun
  | [d] => { results := [.lit (.bool false)], args := [d] }
  | _ => none }
def PlanTakesWrongFalsely : Prop := planTakesRow.holds Try.pinned (OpenSpec.ofChange planTakesWrong)

/-- 'jointurelaw06.PlanBytes': WHATEVER THE INPUT: true; the input reads as it did. -/
def planBytesSpec : ChangeSpec := { name := "planBytes", fn := fun _ => fun
  | [d1, d2] => { results := [.lit (.bool true)], args := [d1, d2] }
  | _ => none }
def planBytesRow : OpenClaim := { program := "ytdbaddholggkbaa", sum := "92e29fc48705fd45cfd5c82390df7729a78c65a46d2f2fbc4dad1031546bfab9", func := "jointure/jointurelaw06.PlanBytes", spec := "planBytes", inPlace := ["math/bits.Add64", "math/bits.Sub64"], unfollowed := true, recurses := true, apart := false }
def PlanBytesSaid : Prop := planBytesRow.holds Try.pinned (OpenSpec.ofChange planBytesSpec)

/-- ITS FALSE NEIGHBOUR: 'it returns false'. Refute it at one input. -/
def planBytesWrong : ChangeSpec := { name := "planBytes", fn := fun _ => fun
  | [d1, d2] => { results := [.lit (.bool false)], args := [d1, d2] }
  | _ => none }
def PlanBytesWrongFalsely : Prop := planBytesRow.holds Try.pinned (OpenSpec.ofChange planBytesWrong)

/-- 'jointurelaw18.MsgRights': WHATEVER THE INPUT: true; the input reads as it did. -/
def msgRightsSpec : ChangeSpec := { name := "msgRights", fn := fun _ => fun
  | [d] => { results := [.lit (.bool true)], args := [d] }
  | _ => none }
def msgRightsRow : OpenClaim := { program := "ytdbaddholggkbaa", sum := "92e29fc48705fd45cfd5c82390df7729a78c65a46d2f2fbc4dad1031546bfab9", func := "jointure/jointurelaw18.MsgRights", spec := "msgRights", inPlace := ["math/bits.Add64"], unfollowed := true, recurses := true, apart := false }
def MsgRightsSaid : Prop := msgRightsRow.holds Try.pinned (OpenSpec.ofChange msgRightsSpec)

/-- ITS FALSE NEIGHBOUR: 'it returns false'. Refute it at one input. -/
def msgRightsWrong : ChangeSpec := { name := "msgRights", fn := fun _ => fun
  | [d] => { results := [.lit (.bool false)], args := [d] }
  | _ => none }
def MsgRightsWrongFalsely : Prop := msgRightsRow.holds Try.pinned (OpenSpec.ofChange msgRightsWrong)

/-- 'jointurelaw18.MsgThere': WHATEVER THE INPUT: true; the input reads as it did. -/
def msgThereSpec : ChangeSpec := { name := "msgThere", fn := fun _ => fun
  | [d] => { results := [.lit (.bool true)], args := [d] }
  | _ => none }
def msgThereRow : OpenClaim := { program := "ytdbaddholggkbaa", sum := "92e29fc48705fd45cfd5c82390df7729a78c65a46d2f2fbc4dad1031546bfab9", func := "jointure/jointurelaw18.MsgThere", spec := "msgThere", inPlace := ["math/bits.Add64"], unfollowed := true, recurses := true, apart := false }
def MsgThereSaid : Prop := msgThereRow.holds Try.pinned (OpenSpec.ofChange msgThereSpec)

/-- ITS FALSE NEIGHBOUR: 'it returns false'. Refute it at one input. -/
def msgThereWrong : ChangeSpec := { name := "msgThere", fn := fun _ => fun
  | [d] => { results := [.lit (.bool false)], args := [d] }
  | _ => none }
def MsgThereWrongFalsely : Prop := msgThereRow.holds Try.pinned (OpenSpec.ofChange msgThereWrong)

/-- 'jointurelaw18.MsgNone': WHATEVER THE INPUT: true; the input reads as it did. -/
def msgNoneSpec : ChangeSpec := { name := "msgNone", fn := fun _ => fun
  | [d] => { results := [.lit (.bool true)], args := [d] }
  | _ => none }
def msgNoneRow : OpenClaim := { program := "ytdbaddholggkbaa", sum := "92e29fc48705fd45cfd5c82390df7729a78c65a46d2f2fbc4dad1031546bfab9", func := "jointure/jointurelaw18.MsgNone", spec := "msgNone", inPlace := ["math/bits.Add64"], unfollowed := true, recurses := true, apart := false }
def MsgNoneSaid : Prop := msgNoneRow.holds Try.pinned (OpenSpec.ofChange msgNoneSpec)

/-- ITS FALSE NEIGHBOUR: 'it returns false'. Refute it at one input. -/
def msgNoneWrong : ChangeSpec := { name := "msgNone", fn := fun _ => fun
  | [d] => { results := [.lit (.bool false)], args := [d] }
  | _ => none }
def MsgNoneWrongFalsely : Prop := msgNoneRow.holds Try.pinned (OpenSpec.ofChange msgNoneWrong)

/-- 'jointurelaw18.MsgReads': WHATEVER THE INPUT: true; the input reads as it did. -/
def msgReadsSpec : ChangeSpec := { name := "msgReads", fn := fun _ => fun
  | [d] => { results := [.lit (.bool true)], args := [d] }
  | _ => none }
def msgReadsRow : OpenClaim := { program := "ytdbaddholggkbaa", sum := "92e29fc48705fd45cfd5c82390df7729a78c65a46d2f2fbc4dad1031546bfab9", func := "jointure/jointurelaw18.MsgReads", spec := "msgReads", inPlace := ["math/bits.Add64"], unfollowed := true, recurses := true, apart := false }
def MsgReadsSaid : Prop := msgReadsRow.holds Try.pinned (OpenSpec.ofChange msgReadsSpec)

/-- ITS FALSE NEIGHBOUR: 'it returns false'. Refute it at one input. -/
def msgReadsWrong : ChangeSpec := { name := "msgReads", fn := fun _ => fun
  | [d] => { results := [.lit (.bool false)], args := [d] }
  | _ => none }
def MsgReadsWrongFalsely : Prop := msgReadsRow.holds Try.pinned (OpenSpec.ofChange msgReadsWrong)

/-- 'jointurelaw18.MsgTurned': WHATEVER THE INPUT: true; the input reads as it did. -/
def msgTurnedSpec : ChangeSpec := { name := "msgTurned", fn := fun _ => fun
  | [d1, d2, d3, d4, d5] => { results := [.lit (.bool true)], args := [d1, d2, d3, d4, d5] }
  | _ => none }
def msgTurnedRow : OpenClaim := { program := "ytdbaddholggkbaa", sum := "92e29fc48705fd45cfd5c82390df7729a78c65a46d2f2fbc4dad1031546bfab9", func := "jointure/jointurelaw18.MsgTurned", spec := "msgTurned", inPlace := ["math/bits.Add64"], unfollowed := true, recurses := true, apart := false }
def MsgTurnedSaid : Prop := msgTurnedRow.holds Try.pinned (OpenSpec.ofChange msgTurnedSpec)

/-- ITS FALSE NEIGHBOUR: 'it returns false'. Refute it at one input. -/
def msgTurnedWrong : ChangeSpec := { name := "msgTurned", fn := fun _ => fun
  | [d1, d2, d3, d4, d5] => { results := [.lit (.bool false)], args := [d1, d2, d3, d4, d5] }
  | _ => none }
def MsgTurnedWrongFalsely : Prop := msgTurnedRow.holds Try.pinned (OpenSpec.ofChange msgTurnedWrong)

/-- 'jointurelaw18.MsgSames': WHATEVER THE INPUT: true; the input reads as it did. -/
def msgSamesSpec : ChangeSpec := { name := "msgSames", fn := fun _ => fun
  | [d1, d2] => { results := [.lit (.bool true)], args := [d1, d2] }
  | _ => none }
def msgSamesRow : OpenClaim := { program := "ytdbaddholggkbaa", sum := "92e29fc48705fd45cfd5c82390df7729a78c65a46d2f2fbc4dad1031546bfab9", func := "jointure/jointurelaw18.MsgSames", spec := "msgSames", inPlace := ["math/bits.Add64"], unfollowed := true, recurses := true, apart := false }
def MsgSamesSaid : Prop := msgSamesRow.holds Try.pinned (OpenSpec.ofChange msgSamesSpec)

/-- ITS FALSE NEIGHBOUR: 'it returns false'. Refute it at one input. -/
def msgSamesWrong : ChangeSpec := { name := "msgSames", fn := fun _ => fun
  | [d1, d2] => { results := [.lit (.bool false)], args := [d1, d2] }
  | _ => none }
def MsgSamesWrongFalsely : Prop := msgSamesRow.holds Try.pinned (OpenSpec.ofChange msgSamesWrong)

/- THE SECOND FORM. 'bulk': how many values and letters a reading holds, each counted each time it is reached (what is shared counts as often as it is met; a slice's spare places count too). A statement '..UptoSaid' is the law's where the arguments, and the package variables that the reading takes, are together of bulk at most 1048576: NARROWER than '..Said'. Prove '..Said' where nothing that the law and all that it calls make is longer than what came in: it says more and counts as full. Else prove '..UptoSaid'. A law counts once. -/
mutual
def uptoBulk {H : Type} : DataW H → Nat
  | .lit (.string bytes) => bytes.length + 1
  | .lit _ => 1
  | .nil => 1
  | .ptr d => uptoBulk d + 1
  | .slice elems spare => uptoBulkAll elems + uptoBulkAll spare + 1
  | .agg parts => uptoBulkAll parts + 1
  | .iface _ d => uptoBulk d + 1
  | .map entries => uptoBulkEntries entries + 1
  | .held _ => 1
def uptoBulkAll {H : Type} : List (DataW H) → Nat
  | [] => 0
  | d :: r => uptoBulk d + uptoBulkAll r
def uptoBulkEntries {H : Type} : List (Lit × DataW H) → Nat
  | [] => 0
  | x :: r => uptoBulkEntry x + uptoBulkEntries r
def uptoBulkEntry {H : Type} : Lit × DataW H → Nat
  | (.string bytes, d) => bytes.length + uptoBulk d + 1
  | (_, d) => uptoBulk d + 1
 end
def uptoSmall : (H : Type) → List (DataW H) → Bool := fun _ ds => decide (uptoBulkAll ds ≤ 1048576)
def OpenSpec.upto (s : _root_.Go.ChangeSpec) : _root_.Go.OpenSpec := { _root_.Go.OpenSpec.ofChange s with cond := some uptoSmall }

/-- 'jointurelaw06.PlanRights', WHERE WHAT IT READS IS OF BULK AT MOST 1048576: true; the input reads as it did. -/
def planRightsUptoRow : OpenClaim := { program := "ytdbaddholggkbaa", sum := "92e29fc48705fd45cfd5c82390df7729a78c65a46d2f2fbc4dad1031546bfab9", func := "jointure/jointurelaw06.PlanRights", spec := "planRights", inPlace := ["math/bits.Add64", "math/bits.Sub64"], unfollowed := true, recurses := true, apart := false, narrowed := true }
def PlanRightsUptoSaid : Prop := planRightsUptoRow.holds Try.pinned (OpenSpec.upto planRightsSpec)

/-- 'jointurelaw06.PlanMade', WHERE WHAT IT READS IS OF BULK AT MOST 1048576: true; the input reads as it did. -/
def planMadeUptoRow : OpenClaim := { program := "ytdbaddholggkbaa", sum := "92e29fc48705fd45cfd5c82390df7729a78c65a46d2f2fbc4dad1031546bfab9", func := "jointure/jointurelaw06.PlanMade", spec := "planMade", inPlace := ["math/bits.Add64", "math/bits.Sub64"], unfollowed := true, recurses := true, apart := false, narrowed := true }
def PlanMadeUptoSaid : Prop := planMadeUptoRow.holds Try.pinned (OpenSpec.upto planMadeSpec)

/-- 'jointurelaw06.PlanVests', WHERE WHAT IT READS IS OF BULK AT MOST 1048576: true; the input reads as it did. -/
def planVestsUptoRow : OpenClaim := { program := "ytdbaddholggkbaa", sum := "92e29fc48705fd45cfd5c82390df7729a78c65a46d2f2fbc4dad1031546bfab9", func := "jointure/jointurelaw06.PlanVests", spec := "planVests", inPlace := ["math/bits.Add64", "math/bits.Sub64"], unfollowed := true, recurses := true, apart := false, narrowed := true }
def PlanVestsUptoSaid : Prop := planVestsUptoRow.holds Try.pinned (OpenSpec.upto planVestsSpec)

/-- 'jointurelaw06.PlanRises', WHERE WHAT IT READS IS OF BULK AT MOST 1048576: true; the input reads as it did. -/
def planRisesUptoRow : OpenClaim := { program := "ytdbaddholggkbaa", sum := "92e29fc48705fd45cfd5c82390df7729a78c65a46d2f2fbc4dad1031546bfab9", func := "jointure/jointurelaw06.PlanRises", spec := "planRises", inPlace := ["math/bits.Add64", "math/bits.Sub64"], unfollowed := true, recurses := true, apart := false, narrowed := true }
def PlanRisesUptoSaid : Prop := planRisesUptoRow.holds Try.pinned (OpenSpec.upto planRisesSpec)

/-- 'jointurelaw06.PlanEnds', WHERE WHAT IT READS IS OF BULK AT MOST 1048576: true; the input reads as it did. -/
def planEndsUptoRow : OpenClaim := { program := "ytdbaddholggkbaa", sum := "92e29fc48705fd45cfd5c82390df7729a78c65a46d2f2fbc4dad1031546bfab9", func := "jointure/jointurelaw06.PlanEnds", spec := "planEnds", inPlace := ["math/bits.Add64", "math/bits.Sub64"], unfollowed := true, recurses := true, apart := false, narrowed := true }
def PlanEndsUptoSaid : Prop := planEndsUptoRow.holds Try.pinned (OpenSpec.upto planEndsSpec)

/-- 'jointurelaw06.PlanCuts', WHERE WHAT IT READS IS OF BULK AT MOST 1048576: true; the input reads as it did. -/
def planCutsUptoRow : OpenClaim := { program := "ytdbaddholggkbaa", sum := "92e29fc48705fd45cfd5c82390df7729a78c65a46d2f2fbc4dad1031546bfab9", func := "jointure/jointurelaw06.PlanCuts", spec := "planCuts", inPlace := ["math/bits.Add64", "math/bits.Sub64"], unfollowed := true, recurses := true, apart := false, narrowed := true }
def PlanCutsUptoSaid : Prop := planCutsUptoRow.holds Try.pinned (OpenSpec.upto planCutsSpec)

/-- 'jointurelaw06.PlanTakes', WHERE WHAT IT READS IS OF BULK AT MOST 1048576: true; the input reads as it did. -/
def planTakesUptoRow : OpenClaim := { program := "ytdbaddholggkbaa", sum := "92e29fc48705fd45cfd5c82390df7729a78c65a46d2f2fbc4dad1031546bfab9", func := "jointure/jointurelaw06.PlanTakes", spec := "planTakes", inPlace := ["math/bits.Add64", "math/bits.Sub64"], unfollowed := true, recurses := true, apart := false, narrowed := true }
def PlanTakesUptoSaid : Prop := planTakesUptoRow.holds Try.pinned (OpenSpec.upto planTakesSpec)

/-- 'jointurelaw06.PlanBytes', WHERE WHAT IT READS IS OF BULK AT MOST 1048576: true; the input reads as it did. -/
def planBytesUptoRow : OpenClaim := { program := "ytdbaddholggkbaa", sum := "92e29fc48705fd45cfd5c82390df7729a78c65a46d2f2fbc4dad1031546bfab9", func := "jointure/jointurelaw06.PlanBytes", spec := "planBytes", inPlace := ["math/bits.Add64", "math/bits.Sub64"], unfollowed := true, recurses := true, apart := false, narrowed := true }
def PlanBytesUptoSaid : Prop := planBytesUptoRow.holds Try.pinned (OpenSpec.upto planBytesSpec)

/-- 'jointurelaw18.MsgRights', WHERE WHAT IT READS IS OF BULK AT MOST 1048576: true; the input reads as it did. -/
def msgRightsUptoRow : OpenClaim := { program := "ytdbaddholggkbaa", sum := "92e29fc48705fd45cfd5c82390df7729a78c65a46d2f2fbc4dad1031546bfab9", func := "jointure/jointurelaw18.MsgRights", spec := "msgRights", inPlace := ["math/bits.Add64"], unfollowed := true, recurses := true, apart := false, narrowed := true }
def MsgRightsUptoSaid : Prop := msgRightsUptoRow.holds Try.pinned (OpenSpec.upto msgRightsSpec)

/-- 'jointurelaw18.MsgThere', WHERE WHAT IT READS IS OF BULK AT MOST 1048576: true; the input reads as it did. -/
def msgThereUptoRow : OpenClaim := { program := "ytdbaddholggkbaa", sum := "92e29fc48705fd45cfd5c82390df7729a78c65a46d2f2fbc4dad1031546bfab9", func := "jointure/jointurelaw18.MsgThere", spec := "msgThere", inPlace := ["math/bits.Add64"], unfollowed := true, recurses := true, apart := false, narrowed := true }
def MsgThereUptoSaid : Prop := msgThereUptoRow.holds Try.pinned (OpenSpec.upto msgThereSpec)

/-- 'jointurelaw18.MsgNone', WHERE WHAT IT READS IS OF BULK AT MOST 1048576: true; the input reads as it did. -/
def msgNoneUptoRow : OpenClaim := { program := "ytdbaddholggkbaa", sum := "92e29fc48705fd45cfd5c82390df7729a78c65a46d2f2fbc4dad1031546bfab9", func := "jointure/jointurelaw18.MsgNone", spec := "msgNone", inPlace := ["math/bits.Add64"], unfollowed := true, recurses := true, apart := false, narrowed := true }
def MsgNoneUptoSaid : Prop := msgNoneUptoRow.holds Try.pinned (OpenSpec.upto msgNoneSpec)

/-- 'jointurelaw18.MsgReads', WHERE WHAT IT READS IS OF BULK AT MOST 1048576: true; the input reads as it did. -/
def msgReadsUptoRow : OpenClaim := { program := "ytdbaddholggkbaa", sum := "92e29fc48705fd45cfd5c82390df7729a78c65a46d2f2fbc4dad1031546bfab9", func := "jointure/jointurelaw18.MsgReads", spec := "msgReads", inPlace := ["math/bits.Add64"], unfollowed := true, recurses := true, apart := false, narrowed := true }
def MsgReadsUptoSaid : Prop := msgReadsUptoRow.holds Try.pinned (OpenSpec.upto msgReadsSpec)

/-- 'jointurelaw18.MsgTurned', WHERE WHAT IT READS IS OF BULK AT MOST 1048576: true; the input reads as it did. -/
def msgTurnedUptoRow : OpenClaim := { program := "ytdbaddholggkbaa", sum := "92e29fc48705fd45cfd5c82390df7729a78c65a46d2f2fbc4dad1031546bfab9", func := "jointure/jointurelaw18.MsgTurned", spec := "msgTurned", inPlace := ["math/bits.Add64"], unfollowed := true, recurses := true, apart := false, narrowed := true }
def MsgTurnedUptoSaid : Prop := msgTurnedUptoRow.holds Try.pinned (OpenSpec.upto msgTurnedSpec)

/-- 'jointurelaw18.MsgSames', WHERE WHAT IT READS IS OF BULK AT MOST 1048576: true; the input reads as it did. -/
def msgSamesUptoRow : OpenClaim := { program := "ytdbaddholggkbaa", sum := "92e29fc48705fd45cfd5c82390df7729a78c65a46d2f2fbc4dad1031546bfab9", func := "jointure/jointurelaw18.MsgSames", spec := "msgSames", inPlace := ["math/bits.Add64"], unfollowed := true, recurses := true, apart := false, narrowed := true }
def MsgSamesUptoSaid : Prop := msgSamesUptoRow.holds Try.pinned (OpenSpec.upto msgSamesSpec)

end Rows
end Go.Proofs.Ytdbaddholggkbaa
