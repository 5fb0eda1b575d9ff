/-
  No cell of these rows narrows 'for every input' (looked for: loops, veiled, ifaces, maps, wideKeys, modest, calm, conditions, laid).
  DERIVED. THE GIVEN ROWS OF THIS SEAT. 11 by the template 'for every input the law returns true; each argument reads behind the call as it read before'; 0 by the template 'total and deterministic' (their statements: YtmponlabfccjaaaTotals.lean).
  GIVEN WITH THE SEED: the statements are not yours to turn. If you find one false, say at which input.
  Laid BY PROGRAM, IN A SANDBOX (cutbox-rows.mjs): the forced cells as the released guide's own fill.sh prints them over the translation 5af9a04b04885b93… (all of the seat's roots in one cut). By AI agents, Wed Nov 11 2026. No macro, syntax, notation, axiom, sorry.
-/
import Derived.Test.YtmponlabfccjaaaChecked
import GoSem.Claim
import GoSem.ClaimJoined
import GoSem.ClaimMapViews
import Derived.JoinedTies
import Derived.KernelRfl
namespace Go.Proofs.Ytmponlabfccjaaa
/- THE CELL 'sum', in the pinned program and in every row, IS THE sha256 OF THE DUMP (.gsa) THAT YtmponlabfccjaaaProg.lean LOADS. Nothing in Lean hashes anything: it is a label: what it is worth is what the hold of that sum in a sandbox is worth. -/
noncomputable def Try.pinned : Pinned := { name := "ytmponlabfccjaaa", sum := "5af9a04b04885b937fcb9ca0c012cdc51aae67516e2fb7bcf690a753e6c207c1", checked := Try.checked }
namespace Rows
def none {H : Type} : Left H := { results := [], args := [] }

/-- 'jointurelaw09.BankBalances': WHATEVER THE INPUT: true; the input reads as it did. -/
def bankBalancesSpec : ChangeSpec := { name := "bankBalances", fn := fun _ => fun
  | [d1, d2, d3] => { results := [.lit (.bool true)], args := [d1, d2, d3] }
  | _ => none }
def bankBalancesRow : OpenClaim := { program := "ytmponlabfccjaaa", sum := "5af9a04b04885b937fcb9ca0c012cdc51aae67516e2fb7bcf690a753e6c207c1", func := "jointure/jointurelaw09.BankBalances", spec := "bankBalances", inPlace := ["internal/bytealg.Compare", "math/bits.Add64", "slices.overlaps[jointure/store.pair]", "math/bits.Sub64"], unfollowed := true, recurses := true, apart := false }
def BankBalancesSaid : Prop := bankBalancesRow.holds Try.pinned (OpenSpec.ofChange bankBalancesSpec)

/-- ITS FALSE NEIGHBOUR: 'it returns false'. Refute it at one input. -/
def bankBalancesWrong : ChangeSpec := { name := "bankBalances", fn := fun _ => fun
  | [d1, d2, d3] => { results := [.lit (.bool false)], args := [d1, d2, d3] }
  | _ => none }
def BankBalancesWrongFalsely : Prop := bankBalancesRow.holds Try.pinned (OpenSpec.ofChange bankBalancesWrong)

/-- 'jointurelaw09.BankIs': WHATEVER THE INPUT: true; the input reads as it did. -/
def bankIsSpec : ChangeSpec := { name := "bankIs", fn := fun _ => fun
  | [d] => { results := [.lit (.bool true)], args := [d] }
  | _ => none }
def bankIsRow : OpenClaim := { program := "ytmponlabfccjaaa", sum := "5af9a04b04885b937fcb9ca0c012cdc51aae67516e2fb7bcf690a753e6c207c1", func := "jointure/jointurelaw09.BankIs", spec := "bankIs", inPlace := ["internal/bytealg.Compare", "math/bits.Add64", "slices.overlaps[jointure/store.pair]", "math/bits.Sub64"], unfollowed := true, recurses := true, apart := false }
def BankIsSaid : Prop := bankIsRow.holds Try.pinned (OpenSpec.ofChange bankIsSpec)

/-- ITS FALSE NEIGHBOUR: 'it returns false'. Refute it at one input. -/
def bankIsWrong : ChangeSpec := { name := "bankIs", fn := fun _ => fun
  | [d] => { results := [.lit (.bool false)], args := [d] }
  | _ => none }
def BankIsWrongFalsely : Prop := bankIsRow.holds Try.pinned (OpenSpec.ofChange bankIsWrong)

/-- 'jointurelaw11.PoolFull': WHATEVER THE INPUT: true; the input reads as it did. -/
def poolFullSpec : ChangeSpec := { name := "poolFull", fn := fun _ => fun
  | [d1, d2] => { results := [.lit (.bool true)], args := [d1, d2] }
  | _ => none }
def poolFullRow : OpenClaim := { program := "ytmponlabfccjaaa", sum := "5af9a04b04885b937fcb9ca0c012cdc51aae67516e2fb7bcf690a753e6c207c1", func := "jointure/jointurelaw11.PoolFull", spec := "poolFull", inPlace := ["internal/bytealg.Compare", "slices.overlaps[jointure/store.pair]"], unfollowed := true, recurses := true, apart := false }
def PoolFullSaid : Prop := poolFullRow.holds Try.pinned (OpenSpec.ofChange poolFullSpec)

/-- ITS FALSE NEIGHBOUR: 'it returns false'. Refute it at one input. -/
def poolFullWrong : ChangeSpec := { name := "poolFull", fn := fun _ => fun
  | [d1, d2] => { results := [.lit (.bool false)], args := [d1, d2] }
  | _ => none }
def PoolFullWrongFalsely : Prop := poolFullRow.holds Try.pinned (OpenSpec.ofChange poolFullWrong)

/-- 'jointurelaw09.BankActs': WHATEVER THE INPUT: true; the input reads as it did. -/
def bankActsSpec : ChangeSpec := { name := "bankActs", fn := fun _ => fun
  | [d] => { results := [.lit (.bool true)], args := [d] }
  | _ => none }
def bankActsRow : OpenClaim := { program := "ytmponlabfccjaaa", sum := "5af9a04b04885b937fcb9ca0c012cdc51aae67516e2fb7bcf690a753e6c207c1", func := "jointure/jointurelaw09.BankActs", spec := "bankActs", inPlace := ["internal/bytealg.Compare", "math/bits.Add64", "slices.overlaps[jointure/store.pair]", "math/bits.Sub64"], unfollowed := true, recurses := true, apart := false }
def BankActsSaid : Prop := bankActsRow.holds Try.pinned (OpenSpec.ofChange bankActsSpec)

/-- ITS FALSE NEIGHBOUR: 'it returns false'. Refute it at one input. -/
def bankActsWrong : ChangeSpec := { name := "bankActs", fn := fun _ => fun
  | [d] => { results := [.lit (.bool false)], args := [d] }
  | _ => none }
def BankActsWrongFalsely : Prop := bankActsRow.holds Try.pinned (OpenSpec.ofChange bankActsWrong)

/-- 'jointurelaw09.BankSums': WHATEVER THE INPUT: true; the input reads as it did. -/
def bankSumsSpec : ChangeSpec := { name := "bankSums", fn := fun _ => fun
  | [d] => { results := [.lit (.bool true)], args := [d] }
  | _ => none }
def bankSumsRow : OpenClaim := { program := "ytmponlabfccjaaa", sum := "5af9a04b04885b937fcb9ca0c012cdc51aae67516e2fb7bcf690a753e6c207c1", func := "jointure/jointurelaw09.BankSums", spec := "bankSums", inPlace := ["internal/bytealg.Compare", "math/bits.Add64", "slices.overlaps[jointure/store.pair]", "math/bits.Sub64"], unfollowed := true, recurses := true, apart := false }
def BankSumsSaid : Prop := bankSumsRow.holds Try.pinned (OpenSpec.ofChange bankSumsSpec)

/-- ITS FALSE NEIGHBOUR: 'it returns false'. Refute it at one input. -/
def bankSumsWrong : ChangeSpec := { name := "bankSums", fn := fun _ => fun
  | [d] => { results := [.lit (.bool false)], args := [d] }
  | _ => none }
def BankSumsWrongFalsely : Prop := bankSumsRow.holds Try.pinned (OpenSpec.ofChange bankSumsWrong)

/-- 'jointurelaw09.BankBack': WHATEVER THE INPUT: true; the input reads as it did. -/
def bankBackSpec : ChangeSpec := { name := "bankBack", fn := fun _ => fun
  | [d1, d2] => { results := [.lit (.bool true)], args := [d1, d2] }
  | _ => none }
def bankBackRow : OpenClaim := { program := "ytmponlabfccjaaa", sum := "5af9a04b04885b937fcb9ca0c012cdc51aae67516e2fb7bcf690a753e6c207c1", func := "jointure/jointurelaw09.BankBack", spec := "bankBack", inPlace := ["internal/bytealg.Compare", "math/bits.Add64", "slices.overlaps[jointure/store.pair]", "math/bits.Sub64"], unfollowed := true, recurses := true, apart := false }
def BankBackSaid : Prop := bankBackRow.holds Try.pinned (OpenSpec.ofChange bankBackSpec)

/-- ITS FALSE NEIGHBOUR: 'it returns false'. Refute it at one input. -/
def bankBackWrong : ChangeSpec := { name := "bankBack", fn := fun _ => fun
  | [d1, d2] => { results := [.lit (.bool false)], args := [d1, d2] }
  | _ => none }
def BankBackWrongFalsely : Prop := bankBackRow.holds Try.pinned (OpenSpec.ofChange bankBackWrong)

/-- 'jointurelaw09.BankNil': WHATEVER THE INPUT: true; the input reads as it did. -/
def bankNilSpec : ChangeSpec := { name := "bankNil", fn := fun _ => fun
  | [d1, d2, d3] => { results := [.lit (.bool true)], args := [d1, d2, d3] }
  | _ => none }
def bankNilRow : OpenClaim := { program := "ytmponlabfccjaaa", sum := "5af9a04b04885b937fcb9ca0c012cdc51aae67516e2fb7bcf690a753e6c207c1", func := "jointure/jointurelaw09.BankNil", spec := "bankNil", inPlace := ["internal/bytealg.Compare", "math/bits.Add64", "slices.overlaps[jointure/store.pair]", "math/bits.Sub64"], unfollowed := true, recurses := true, apart := false }
def BankNilSaid : Prop := bankNilRow.holds Try.pinned (OpenSpec.ofChange bankNilSpec)

/-- ITS FALSE NEIGHBOUR: 'it returns false'. Refute it at one input. -/
def bankNilWrong : ChangeSpec := { name := "bankNil", fn := fun _ => fun
  | [d1, d2, d3] => { results := [.lit (.bool false)], args := [d1, d2, d3] }
  | _ => none }
def BankNilWrongFalsely : Prop := bankNilRow.holds Try.pinned (OpenSpec.ofChange bankNilWrong)

/-- 'jointurelaw11.PoolThere': WHATEVER THE INPUT: true; the input reads as it did. -/
def poolThereSpec : ChangeSpec := { name := "poolThere", fn := fun _ => fun
  | [d1, d2] => { results := [.lit (.bool true)], args := [d1, d2] }
  | _ => none }
def poolThereRow : OpenClaim := { program := "ytmponlabfccjaaa", sum := "5af9a04b04885b937fcb9ca0c012cdc51aae67516e2fb7bcf690a753e6c207c1", func := "jointure/jointurelaw11.PoolThere", spec := "poolThere", inPlace := ["internal/bytealg.Compare", "slices.overlaps[jointure/store.pair]"], unfollowed := true, recurses := true, apart := false }
def PoolThereSaid : Prop := poolThereRow.holds Try.pinned (OpenSpec.ofChange poolThereSpec)

/-- ITS FALSE NEIGHBOUR: 'it returns false'. Refute it at one input. -/
def poolThereWrong : ChangeSpec := { name := "poolThere", fn := fun _ => fun
  | [d1, d2] => { results := [.lit (.bool false)], args := [d1, d2] }
  | _ => none }
def PoolThereWrongFalsely : Prop := poolThereRow.holds Try.pinned (OpenSpec.ofChange poolThereWrong)

/-- 'jointurelaw11.PoolOf': WHATEVER THE INPUT: true; the input reads as it did. -/
def poolOfSpec : ChangeSpec := { name := "poolOf", fn := fun _ => fun
  | [d1, d2] => { results := [.lit (.bool true)], args := [d1, d2] }
  | _ => none }
def poolOfRow : OpenClaim := { program := "ytmponlabfccjaaa", sum := "5af9a04b04885b937fcb9ca0c012cdc51aae67516e2fb7bcf690a753e6c207c1", func := "jointure/jointurelaw11.PoolOf", spec := "poolOf", inPlace := ["internal/bytealg.Compare", "slices.overlaps[jointure/store.pair]"], unfollowed := true, recurses := true, apart := false }
def PoolOfSaid : Prop := poolOfRow.holds Try.pinned (OpenSpec.ofChange poolOfSpec)

/-- ITS FALSE NEIGHBOUR: 'it returns false'. Refute it at one input. -/
def poolOfWrong : ChangeSpec := { name := "poolOf", fn := fun _ => fun
  | [d1, d2] => { results := [.lit (.bool false)], args := [d1, d2] }
  | _ => none }
def PoolOfWrongFalsely : Prop := poolOfRow.holds Try.pinned (OpenSpec.ofChange poolOfWrong)

/-- 'jointurelaw11.PoolActs': WHATEVER THE INPUT: true; the input reads as it did. -/
def poolActsSpec : ChangeSpec := { name := "poolActs", fn := fun _ => fun
  | [d] => { results := [.lit (.bool true)], args := [d] }
  | _ => none }
def poolActsRow : OpenClaim := { program := "ytmponlabfccjaaa", sum := "5af9a04b04885b937fcb9ca0c012cdc51aae67516e2fb7bcf690a753e6c207c1", func := "jointure/jointurelaw11.PoolActs", spec := "poolActs", inPlace := ["internal/bytealg.Compare", "slices.overlaps[jointure/store.pair]"], unfollowed := true, recurses := true, apart := false }
def PoolActsSaid : Prop := poolActsRow.holds Try.pinned (OpenSpec.ofChange poolActsSpec)

/-- ITS FALSE NEIGHBOUR: 'it returns false'. Refute it at one input. -/
def poolActsWrong : ChangeSpec := { name := "poolActs", fn := fun _ => fun
  | [d] => { results := [.lit (.bool false)], args := [d] }
  | _ => none }
def PoolActsWrongFalsely : Prop := poolActsRow.holds Try.pinned (OpenSpec.ofChange poolActsWrong)

/-- 'jointurelaw11.PoolNil': WHATEVER THE INPUT: true; the input reads as it did. -/
def poolNilSpec : ChangeSpec := { name := "poolNil", fn := fun _ => fun
  | [d1, d2, d3] => { results := [.lit (.bool true)], args := [d1, d2, d3] }
  | _ => none }
def poolNilRow : OpenClaim := { program := "ytmponlabfccjaaa", sum := "5af9a04b04885b937fcb9ca0c012cdc51aae67516e2fb7bcf690a753e6c207c1", func := "jointure/jointurelaw11.PoolNil", spec := "poolNil", inPlace := ["internal/bytealg.Compare", "slices.overlaps[jointure/store.pair]"], unfollowed := true, recurses := true, apart := false }
def PoolNilSaid : Prop := poolNilRow.holds Try.pinned (OpenSpec.ofChange poolNilSpec)

/-- ITS FALSE NEIGHBOUR: 'it returns false'. Refute it at one input. -/
def poolNilWrong : ChangeSpec := { name := "poolNil", fn := fun _ => fun
  | [d1, d2, d3] => { results := [.lit (.bool false)], args := [d1, d2, d3] }
  | _ => none }
def PoolNilWrongFalsely : Prop := poolNilRow.holds Try.pinned (OpenSpec.ofChange poolNilWrong)

/- THE SECOND FORM. 'bulk': how many values and letters a reading holds, each counted each time it is reached (what is shared counts as often as it is met; a slice's spare places count too). A statement '..UptoSaid' is the law's where the arguments, and the package variables that the reading takes, are together of bulk at most 1048576: NARROWER than '..Said'. Prove '..Said' where nothing that the law and all that it calls make is longer than what came in: it says more and counts as full. Else prove '..UptoSaid'. A law counts once. -/
mutual
def uptoBulk {H : Type} : DataW H → Nat
  | .lit (.string bytes) => bytes.length + 1
  | .lit _ => 1
  | .nil => 1
  | .ptr d => uptoBulk d + 1
  | .slice elems spare => uptoBulkAll elems + uptoBulkAll spare + 1
  | .agg parts => uptoBulkAll parts + 1
  | .iface _ d => uptoBulk d + 1
  | .map entries => uptoBulkEntries entries + 1
  | .held _ => 1
def uptoBulkAll {H : Type} : List (DataW H) → Nat
  | [] => 0
  | d :: r => uptoBulk d + uptoBulkAll r
def uptoBulkEntries {H : Type} : List (Lit × DataW H) → Nat
  | [] => 0
  | x :: r => uptoBulkEntry x + uptoBulkEntries r
def uptoBulkEntry {H : Type} : Lit × DataW H → Nat
  | (.string bytes, d) => bytes.length + uptoBulk d + 1
  | (_, d) => uptoBulk d + 1
 end
def uptoSmall : (H : Type) → List (DataW H) → Bool := fun _ ds => decide (uptoBulkAll ds ≤ 1048576)
def OpenSpec.upto (s : _root_.Go.ChangeSpec) : _root_.Go.OpenSpec := { _root_.Go.OpenSpec.ofChange s with cond := some uptoSmall }

/-- 'jointurelaw09.BankBalances', WHERE WHAT IT READS IS OF BULK AT MOST 1048576: true; the input reads as it did. -/
def bankBalancesUptoRow : OpenClaim := { program := "ytmponlabfccjaaa", sum := "5af9a04b04885b937fcb9ca0c012cdc51aae67516e2fb7bcf690a753e6c207c1", func := "jointure/jointurelaw09.BankBalances", spec := "bankBalances", inPlace := ["internal/bytealg.Compare", "math/bits.Add64", "slices.overlaps[jointure/store.pair]", "math/bits.Sub64"], unfollowed := true, recurses := true, apart := false, narrowed := true }
def BankBalancesUptoSaid : Prop := bankBalancesUptoRow.holds Try.pinned (OpenSpec.upto bankBalancesSpec)

/-- 'jointurelaw09.BankIs', WHERE WHAT IT READS IS OF BULK AT MOST 1048576: true; the input reads as it did. -/
def bankIsUptoRow : OpenClaim := { program := "ytmponlabfccjaaa", sum := "5af9a04b04885b937fcb9ca0c012cdc51aae67516e2fb7bcf690a753e6c207c1", func := "jointure/jointurelaw09.BankIs", spec := "bankIs", inPlace := ["internal/bytealg.Compare", "math/bits.Add64", "slices.overlaps[jointure/store.pair]", "math/bits.Sub64"], unfollowed := true, recurses := true, apart := false, narrowed := true }
def BankIsUptoSaid : Prop := bankIsUptoRow.holds Try.pinned (OpenSpec.upto bankIsSpec)

/-- 'jointurelaw11.PoolFull', WHERE WHAT IT READS IS OF BULK AT MOST 1048576: true; the input reads as it did. -/
def poolFullUptoRow : OpenClaim := { program := "ytmponlabfccjaaa", sum := "5af9a04b04885b937fcb9ca0c012cdc51aae67516e2fb7bcf690a753e6c207c1", func := "jointure/jointurelaw11.PoolFull", spec := "poolFull", inPlace := ["internal/bytealg.Compare", "slices.overlaps[jointure/store.pair]"], unfollowed := true, recurses := true, apart := false, narrowed := true }
def PoolFullUptoSaid : Prop := poolFullUptoRow.holds Try.pinned (OpenSpec.upto poolFullSpec)

/-- 'jointurelaw09.BankActs', WHERE WHAT IT READS IS OF BULK AT MOST 1048576: true; the input reads as it did. -/
def bankActsUptoRow : OpenClaim := { program := "ytmponlabfccjaaa", sum := "5af9a04b04885b937fcb9ca0c012cdc51aae67516e2fb7bcf690a753e6c207c1", func := "jointure/jointurelaw09.BankActs", spec := "bankActs", inPlace := ["internal/bytealg.Compare", "math/bits.Add64", "slices.overlaps[jointure/store.pair]", "math/bits.Sub64"], unfollowed := true, recurses := true, apart := false, narrowed := true }
def BankActsUptoSaid : Prop := bankActsUptoRow.holds Try.pinned (OpenSpec.upto bankActsSpec)

/-- 'jointurelaw09.BankSums', WHERE WHAT IT READS IS OF BULK AT MOST 1048576: true; the input reads as it did. -/
def bankSumsUptoRow : OpenClaim := { program := "ytmponlabfccjaaa", sum := "5af9a04b04885b937fcb9ca0c012cdc51aae67516e2fb7bcf690a753e6c207c1", func := "jointure/jointurelaw09.BankSums", spec := "bankSums", inPlace := ["internal/bytealg.Compare", "math/bits.Add64", "slices.overlaps[jointure/store.pair]", "math/bits.Sub64"], unfollowed := true, recurses := true, apart := false, narrowed := true }
def BankSumsUptoSaid : Prop := bankSumsUptoRow.holds Try.pinned (OpenSpec.upto bankSumsSpec)

/-- 'jointurelaw09.BankBack', WHERE WHAT IT READS IS OF BULK AT MOST 1048576: true; the input reads as it did. -/
def bankBackUptoRow : OpenClaim := { program := "ytmponlabfccjaaa", sum := "5af9a04b04885b937fcb9ca0c012cdc51aae67516e2fb7bcf690a753e6c207c1", func := "jointure/jointurelaw09.BankBack", spec := "bankBack", inPlace := ["internal/bytealg.Compare", "math/bits.Add64", "slices.overlaps[jointure/store.pair]", "math/bits.Sub64"], unfollowed := true, recurses := true, apart := false, narrowed := true }
def BankBackUptoSaid : Prop := bankBackUptoRow.holds Try.pinned (OpenSpec.upto bankBackSpec)

/-- 'jointurelaw09.BankNil', WHERE WHAT IT READS IS OF BULK AT MOST 1048576: true; the input reads as it did. -/
def bankNilUptoRow : OpenClaim := { program := "ytmponlabfccjaaa", sum := "5af9a04b04885b937fcb9ca0c012cdc51aae67516e2fb7bcf690a753e6c207c1", func := "jointure/jointurelaw09.BankNil", spec := "bankNil", inPlace := ["internal/bytealg.Compare", "math/bits.Add64", "slices.overlaps[jointure/store.pair]", "math/bits.Sub64"], unfollowed := true, recurses := true, apart := false, narrowed := true }
def BankNilUptoSaid : Prop := bankNilUptoRow.holds Try.pinned (OpenSpec.upto bankNilSpec)

/-- 'jointurelaw11.PoolThere', WHERE WHAT IT READS IS OF BULK AT MOST 1048576: true; the input reads as it did. -/
def poolThereUptoRow : OpenClaim := { program := "ytmponlabfccjaaa", sum := "5af9a04b04885b937fcb9ca0c012cdc51aae67516e2fb7bcf690a753e6c207c1", func := "jointure/jointurelaw11.PoolThere", spec := "poolThere", inPlace := ["internal/bytealg.Compare", "slices.overlaps[jointure/store.pair]"], unfollowed := true, recurses := true, apart := false, narrowed := true }
def PoolThereUptoSaid : Prop := poolThereUptoRow.holds Try.pinned (OpenSpec.upto poolThereSpec)

/-- 'jointurelaw11.PoolOf', WHERE WHAT IT READS IS OF BULK AT MOST 1048576: true; the input reads as it did. -/
def poolOfUptoRow : OpenClaim := { program := "ytmponlabfccjaaa", sum := "5af9a04b04885b937fcb9ca0c012cdc51aae67516e2fb7bcf690a753e6c207c1", func := "jointure/jointurelaw11.PoolOf", spec := "poolOf", inPlace := ["internal/bytealg.Compare", "slices.overlaps[jointure/store.pair]"], unfollowed := true, recurses := true, apart := false, narrowed := true }
def PoolOfUptoSaid : Prop := poolOfUptoRow.holds Try.pinned (OpenSpec.upto poolOfSpec)

/-- 'jointurelaw11.PoolActs', WHERE WHAT IT READS IS OF BULK AT MOST 1048576: true; the input reads as it did. -/
def poolActsUptoRow : OpenClaim := { program := "ytmponlabfccjaaa", sum := "5af9a04b04885b937fcb9ca0c012cdc51aae67516e2fb7bcf690a753e6c207c1", func := "jointure/jointurelaw11.PoolActs", spec := "poolActs", inPlace := ["internal/bytealg.Compare", "slices.overlaps[jointure/store.pair]"], unfollowed := true, recurses := true, apart := false, narrowed := true }
def PoolActsUptoSaid : Prop := poolActsUptoRow.holds Try.pinned (OpenSpec.upto poolActsSpec)

/-- 'jointurelaw11.PoolNil', WHERE WHAT IT READS IS OF BULK AT MOST 1048576: true; the input reads as it did. -/
def poolNilUptoRow : OpenClaim := { program := "ytmponlabfccjaaa", sum := "5af9a04b04885b937fcb9ca0c012cdc51aae67516e2fb7bcf690a753e6c207c1", func := "jointure/jointurelaw11.PoolNil", spec := "poolNil", inPlace := ["internal/bytealg.Compare", "slices.overlaps[jointure/store.pair]"], unfollowed := true, recurses := true, apart := false, narrowed := true }
def PoolNilUptoSaid : Prop := poolNilUptoRow.holds Try.pinned (OpenSpec.upto poolNilSpec)

end Rows
end Go.Proofs.Ytmponlabfccjaaa
