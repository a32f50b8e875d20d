/-
  No cell of these rows narrows 'for every input' (looked for: loops, veiled, ifaces, maps, wideKeys, modest, calm, conditions, laid).
  DERIVED. THE GIVEN ROWS OF THIS SEAT. 14 by the template 'for every input the law returns true; each argument reads behind the call as it read before'; 0 by the template 'total and deterministic' (their statements: YtlhcggaeecjbcaaTotals.lean).
  GIVEN WITH THE SEED: the statements are not yours to turn. If you find one false, say at which input.
  Laid BY PROGRAM, IN A SANDBOX (cutbox-rows.mjs): the forced cells as the released guide's own fill.sh prints them over the translation 9492e57d71cdbd52… (all of the seat's roots in one cut). By AI agents, Wed Nov 11 2026. No macro, syntax, notation, axiom, sorry.
-/
import Derived.Test.YtlhcggaeecjbcaaChecked
import GoSem.Claim
import GoSem.ClaimJoined
import GoSem.ClaimMapViews
import Derived.JoinedTies
import Derived.KernelRfl
namespace Go.Proofs.Ytlhcggaeecjbcaa
/- THE CELL 'sum', in the pinned program and in every row, IS THE sha256 OF THE DUMP (.gsa) THAT YtlhcggaeecjbcaaProg.lean LOADS. Nothing in Lean hashes anything: it is a label: what it is worth is what the hold of that sum in a sandbox is worth. -/
noncomputable def Try.pinned : Pinned := { name := "ytlhcggaeecjbcaa", sum := "9492e57d71cdbd52660e7538e4232ad71e02a831a3a6d80b1562616674e784d0", checked := Try.checked }
namespace Rows
def none {H : Type} : Left H := { results := [], args := [] }

/-- 'hibernaclelaw13.MmuCopies': WHATEVER THE INPUT: true; the input reads as it did. -/
def mmuCopiesSpec : ChangeSpec := { name := "mmuCopies", fn := fun _ => fun
  | [d1, d2, d3] => { results := [.lit (.bool true)], args := [d1, d2, d3] }
  | _ => none }
def mmuCopiesRow : OpenClaim := { program := "ytlhcggaeecjbcaa", sum := "9492e57d71cdbd52660e7538e4232ad71e02a831a3a6d80b1562616674e784d0", func := "hibernacle/hibernaclelaw13.MmuCopies", spec := "mmuCopies", inPlace := ["internal/abi.NoEscape", "internal/bytealg.MakeNoZero"], unfollowed := true, recurses := true, apart := false }
def MmuCopiesSaid : Prop := mmuCopiesRow.holds Try.pinned (OpenSpec.ofChange mmuCopiesSpec)

/-- ITS FALSE NEIGHBOUR: 'it returns false'. Refute it at one input. -/
def mmuCopiesWrong : ChangeSpec := { name := "mmuCopies", fn := fun _ => fun
  | [d1, d2, d3] => { results := [.lit (.bool false)], args := [d1, d2, d3] }
  | _ => none }
def MmuCopiesWrongFalsely : Prop := mmuCopiesRow.holds Try.pinned (OpenSpec.ofChange mmuCopiesWrong)

/-- 'hibernaclelaw13.MmuBack': WHATEVER THE INPUT: true; the input reads as it did. -/
def mmuBackSpec : ChangeSpec := { name := "mmuBack", fn := fun _ => fun
  | [d1, d2, d3] => { results := [.lit (.bool true)], args := [d1, d2, d3] }
  | _ => none }
def mmuBackRow : OpenClaim := { program := "ytlhcggaeecjbcaa", sum := "9492e57d71cdbd52660e7538e4232ad71e02a831a3a6d80b1562616674e784d0", func := "hibernacle/hibernaclelaw13.MmuBack", spec := "mmuBack", inPlace := ["internal/abi.NoEscape", "internal/bytealg.MakeNoZero"], unfollowed := true, recurses := true, apart := false }
def MmuBackSaid : Prop := mmuBackRow.holds Try.pinned (OpenSpec.ofChange mmuBackSpec)

/-- ITS FALSE NEIGHBOUR: 'it returns false'. Refute it at one input. -/
def mmuBackWrong : ChangeSpec := { name := "mmuBack", fn := fun _ => fun
  | [d1, d2, d3] => { results := [.lit (.bool false)], args := [d1, d2, d3] }
  | _ => none }
def MmuBackWrongFalsely : Prop := mmuBackRow.holds Try.pinned (OpenSpec.ofChange mmuBackWrong)

/-- 'hibernaclelaw13.MmuApart': WHATEVER THE INPUT: true; the input reads as it did. -/
def mmuApartSpec : ChangeSpec := { name := "mmuApart", fn := fun _ => fun
  | [d1, d2, d3] => { results := [.lit (.bool true)], args := [d1, d2, d3] }
  | _ => none }
def mmuApartRow : OpenClaim := { program := "ytlhcggaeecjbcaa", sum := "9492e57d71cdbd52660e7538e4232ad71e02a831a3a6d80b1562616674e784d0", func := "hibernacle/hibernaclelaw13.MmuApart", spec := "mmuApart", inPlace := ["internal/abi.NoEscape", "internal/bytealg.MakeNoZero"], unfollowed := true, recurses := true, apart := false }
def MmuApartSaid : Prop := mmuApartRow.holds Try.pinned (OpenSpec.ofChange mmuApartSpec)

/-- ITS FALSE NEIGHBOUR: 'it returns false'. Refute it at one input. -/
def mmuApartWrong : ChangeSpec := { name := "mmuApart", fn := fun _ => fun
  | [d1, d2, d3] => { results := [.lit (.bool false)], args := [d1, d2, d3] }
  | _ => none }
def MmuApartWrongFalsely : Prop := mmuApartRow.holds Try.pinned (OpenSpec.ofChange mmuApartWrong)

/-- 'hibernaclelaw13.MmuPieces': WHATEVER THE INPUT: true; the input reads as it did. -/
def mmuPiecesSpec : ChangeSpec := { name := "mmuPieces", fn := fun _ => fun
  | [d1, d2, d3] => { results := [.lit (.bool true)], args := [d1, d2, d3] }
  | _ => none }
def mmuPiecesRow : OpenClaim := { program := "ytlhcggaeecjbcaa", sum := "9492e57d71cdbd52660e7538e4232ad71e02a831a3a6d80b1562616674e784d0", func := "hibernacle/hibernaclelaw13.MmuPieces", spec := "mmuPieces", inPlace := ["internal/abi.NoEscape", "internal/bytealg.MakeNoZero"], unfollowed := true, recurses := true, apart := false }
def MmuPiecesSaid : Prop := mmuPiecesRow.holds Try.pinned (OpenSpec.ofChange mmuPiecesSpec)

/-- ITS FALSE NEIGHBOUR: 'it returns false'. Refute it at one input. -/
def mmuPiecesWrong : ChangeSpec := { name := "mmuPieces", fn := fun _ => fun
  | [d1, d2, d3] => { results := [.lit (.bool false)], args := [d1, d2, d3] }
  | _ => none }
def MmuPiecesWrongFalsely : Prop := mmuPiecesRow.holds Try.pinned (OpenSpec.ofChange mmuPiecesWrong)

/-- 'hibernaclelaw13.MmuFinds': WHATEVER THE INPUT: true; the input reads as it did. -/
def mmuFindsSpec : ChangeSpec := { name := "mmuFinds", fn := fun _ => fun
  | [d1, d2, d3] => { results := [.lit (.bool true)], args := [d1, d2, d3] }
  | _ => none }
def mmuFindsRow : OpenClaim := { program := "ytlhcggaeecjbcaa", sum := "9492e57d71cdbd52660e7538e4232ad71e02a831a3a6d80b1562616674e784d0", func := "hibernacle/hibernaclelaw13.MmuFinds", spec := "mmuFinds", inPlace := ["internal/abi.NoEscape", "internal/bytealg.MakeNoZero"], unfollowed := true, recurses := true, apart := false }
def MmuFindsSaid : Prop := mmuFindsRow.holds Try.pinned (OpenSpec.ofChange mmuFindsSpec)

/-- ITS FALSE NEIGHBOUR: 'it returns false'. Refute it at one input. -/
def mmuFindsWrong : ChangeSpec := { name := "mmuFinds", fn := fun _ => fun
  | [d1, d2, d3] => { results := [.lit (.bool false)], args := [d1, d2, d3] }
  | _ => none }
def MmuFindsWrongFalsely : Prop := mmuFindsRow.holds Try.pinned (OpenSpec.ofChange mmuFindsWrong)

/-- 'hibernaclelaw13.MmuWords': WHATEVER THE INPUT: true; the input reads as it did. -/
def mmuWordsSpec : ChangeSpec := { name := "mmuWords", fn := fun _ => fun
  | [d1, d2] => { results := [.lit (.bool true)], args := [d1, d2] }
  | _ => none }
def mmuWordsRow : OpenClaim := { program := "ytlhcggaeecjbcaa", sum := "9492e57d71cdbd52660e7538e4232ad71e02a831a3a6d80b1562616674e784d0", func := "hibernacle/hibernaclelaw13.MmuWords", spec := "mmuWords", inPlace := ["internal/abi.NoEscape", "internal/bytealg.MakeNoZero"], unfollowed := true, recurses := true, apart := false }
def MmuWordsSaid : Prop := mmuWordsRow.holds Try.pinned (OpenSpec.ofChange mmuWordsSpec)

/-- ITS FALSE NEIGHBOUR: 'it returns false'. Refute it at one input. -/
def mmuWordsWrong : ChangeSpec := { name := "mmuWords", fn := fun _ => fun
  | [d1, d2] => { results := [.lit (.bool false)], args := [d1, d2] }
  | _ => none }
def MmuWordsWrongFalsely : Prop := mmuWordsRow.holds Try.pinned (OpenSpec.ofChange mmuWordsWrong)

/-- 'hibernaclelaw14.CpuSteps': WHATEVER THE INPUT: true; the input reads as it did. -/
def cpuStepsSpec : ChangeSpec := { name := "cpuSteps", fn := fun _ => fun
  | [d1, d2, d3] => { results := [.lit (.bool true)], args := [d1, d2, d3] }
  | _ => none }
def cpuStepsRow : OpenClaim := { program := "ytlhcggaeecjbcaa", sum := "9492e57d71cdbd52660e7538e4232ad71e02a831a3a6d80b1562616674e784d0", func := "hibernacle/hibernaclelaw14.CpuSteps", spec := "cpuSteps", inPlace := ["internal/bytealg.IndexByteString"], unfollowed := true, recurses := true, apart := false }
def CpuStepsSaid : Prop := cpuStepsRow.holds Try.pinned (OpenSpec.ofChange cpuStepsSpec)

/-- ITS FALSE NEIGHBOUR: 'it returns false'. Refute it at one input. -/
def cpuStepsWrong : ChangeSpec := { name := "cpuSteps", fn := fun _ => fun
  | [d1, d2, d3] => { results := [.lit (.bool false)], args := [d1, d2, d3] }
  | _ => none }
def CpuStepsWrongFalsely : Prop := cpuStepsRow.holds Try.pinned (OpenSpec.ofChange cpuStepsWrong)

/-- 'hibernaclelaw14.CpuRuns': WHATEVER THE INPUT: true; the input reads as it did. -/
def cpuRunsSpec : ChangeSpec := { name := "cpuRuns", fn := fun _ => fun
  | [d1, d2, d3, d4] => { results := [.lit (.bool true)], args := [d1, d2, d3, d4] }
  | _ => none }
def cpuRunsRow : OpenClaim := { program := "ytlhcggaeecjbcaa", sum := "9492e57d71cdbd52660e7538e4232ad71e02a831a3a6d80b1562616674e784d0", func := "hibernacle/hibernaclelaw14.CpuRuns", spec := "cpuRuns", inPlace := ["internal/bytealg.IndexByteString"], unfollowed := true, recurses := true, apart := false }
def CpuRunsSaid : Prop := cpuRunsRow.holds Try.pinned (OpenSpec.ofChange cpuRunsSpec)

/-- ITS FALSE NEIGHBOUR: 'it returns false'. Refute it at one input. -/
def cpuRunsWrong : ChangeSpec := { name := "cpuRuns", fn := fun _ => fun
  | [d1, d2, d3, d4] => { results := [.lit (.bool false)], args := [d1, d2, d3, d4] }
  | _ => none }
def CpuRunsWrongFalsely : Prop := cpuRunsRow.holds Try.pinned (OpenSpec.ofChange cpuRunsWrong)

/-- 'hibernaclelaw14.CpuArith': WHATEVER THE INPUT: true; the input reads as it did. -/
def cpuArithSpec : ChangeSpec := { name := "cpuArith", fn := fun _ => fun
  | [d1, d2] => { results := [.lit (.bool true)], args := [d1, d2] }
  | _ => none }
def cpuArithRow : OpenClaim := { program := "ytlhcggaeecjbcaa", sum := "9492e57d71cdbd52660e7538e4232ad71e02a831a3a6d80b1562616674e784d0", func := "hibernacle/hibernaclelaw14.CpuArith", spec := "cpuArith", inPlace := ["internal/bytealg.IndexByteString"], unfollowed := true, recurses := true, apart := false }
def CpuArithSaid : Prop := cpuArithRow.holds Try.pinned (OpenSpec.ofChange cpuArithSpec)

/-- ITS FALSE NEIGHBOUR: 'it returns false'. Refute it at one input. -/
def cpuArithWrong : ChangeSpec := { name := "cpuArith", fn := fun _ => fun
  | [d1, d2] => { results := [.lit (.bool false)], args := [d1, d2] }
  | _ => none }
def CpuArithWrongFalsely : Prop := cpuArithRow.holds Try.pinned (OpenSpec.ofChange cpuArithWrong)

/-- 'hibernaclelaw14.CpuLittle': WHATEVER THE INPUT: true; the input reads as it did. -/
def cpuLittleSpec : ChangeSpec := { name := "cpuLittle", fn := fun _ => fun
  | [d1, d2, d3] => { results := [.lit (.bool true)], args := [d1, d2, d3] }
  | _ => none }
def cpuLittleRow : OpenClaim := { program := "ytlhcggaeecjbcaa", sum := "9492e57d71cdbd52660e7538e4232ad71e02a831a3a6d80b1562616674e784d0", func := "hibernacle/hibernaclelaw14.CpuLittle", spec := "cpuLittle", inPlace := ["internal/bytealg.IndexByteString"], unfollowed := true, recurses := true, apart := false }
def CpuLittleSaid : Prop := cpuLittleRow.holds Try.pinned (OpenSpec.ofChange cpuLittleSpec)

/-- ITS FALSE NEIGHBOUR: 'it returns false'. Refute it at one input. -/
def cpuLittleWrong : ChangeSpec := { name := "cpuLittle", fn := fun _ => fun
  | [d1, d2, d3] => { results := [.lit (.bool false)], args := [d1, d2, d3] }
  | _ => none }
def CpuLittleWrongFalsely : Prop := cpuLittleRow.holds Try.pinned (OpenSpec.ofChange cpuLittleWrong)

/-- 'hibernaclelaw14.CpuApart': WHATEVER THE INPUT: true; the input reads as it did. -/
def cpuApartSpec : ChangeSpec := { name := "cpuApart", fn := fun _ => fun
  | [d1, d2, d3, d4] => { results := [.lit (.bool true)], args := [d1, d2, d3, d4] }
  | _ => none }
def cpuApartRow : OpenClaim := { program := "ytlhcggaeecjbcaa", sum := "9492e57d71cdbd52660e7538e4232ad71e02a831a3a6d80b1562616674e784d0", func := "hibernacle/hibernaclelaw14.CpuApart", spec := "cpuApart", inPlace := ["internal/bytealg.IndexByteString"], unfollowed := true, recurses := true, apart := false }
def CpuApartSaid : Prop := cpuApartRow.holds Try.pinned (OpenSpec.ofChange cpuApartSpec)

/-- ITS FALSE NEIGHBOUR: 'it returns false'. Refute it at one input. -/
def cpuApartWrong : ChangeSpec := { name := "cpuApart", fn := fun _ => fun
  | [d1, d2, d3, d4] => { results := [.lit (.bool false)], args := [d1, d2, d3, d4] }
  | _ => none }
def CpuApartWrongFalsely : Prop := cpuApartRow.holds Try.pinned (OpenSpec.ofChange cpuApartWrong)

/-- 'hibernaclelaw14.CpuMemory': WHATEVER THE INPUT: true; the input reads as it did. -/
def cpuMemorySpec : ChangeSpec := { name := "cpuMemory", fn := fun _ => fun
  | [d1, d2, d3] => { results := [.lit (.bool true)], args := [d1, d2, d3] }
  | _ => none }
def cpuMemoryRow : OpenClaim := { program := "ytlhcggaeecjbcaa", sum := "9492e57d71cdbd52660e7538e4232ad71e02a831a3a6d80b1562616674e784d0", func := "hibernacle/hibernaclelaw14.CpuMemory", spec := "cpuMemory", inPlace := ["internal/bytealg.IndexByteString"], unfollowed := true, recurses := true, apart := false }
def CpuMemorySaid : Prop := cpuMemoryRow.holds Try.pinned (OpenSpec.ofChange cpuMemorySpec)

/-- ITS FALSE NEIGHBOUR: 'it returns false'. Refute it at one input. -/
def cpuMemoryWrong : ChangeSpec := { name := "cpuMemory", fn := fun _ => fun
  | [d1, d2, d3] => { results := [.lit (.bool false)], args := [d1, d2, d3] }
  | _ => none }
def CpuMemoryWrongFalsely : Prop := cpuMemoryRow.holds Try.pinned (OpenSpec.ofChange cpuMemoryWrong)

/-- 'hibernaclelaw14.CpuBranches': WHATEVER THE INPUT: true; the input reads as it did. -/
def cpuBranchesSpec : ChangeSpec := { name := "cpuBranches", fn := fun _ => fun
  | [d1, d2, d3] => { results := [.lit (.bool true)], args := [d1, d2, d3] }
  | _ => none }
def cpuBranchesRow : OpenClaim := { program := "ytlhcggaeecjbcaa", sum := "9492e57d71cdbd52660e7538e4232ad71e02a831a3a6d80b1562616674e784d0", func := "hibernacle/hibernaclelaw14.CpuBranches", spec := "cpuBranches", inPlace := ["internal/bytealg.IndexByteString"], unfollowed := true, recurses := true, apart := false }
def CpuBranchesSaid : Prop := cpuBranchesRow.holds Try.pinned (OpenSpec.ofChange cpuBranchesSpec)

/-- ITS FALSE NEIGHBOUR: 'it returns false'. Refute it at one input. -/
def cpuBranchesWrong : ChangeSpec := { name := "cpuBranches", fn := fun _ => fun
  | [d1, d2, d3] => { results := [.lit (.bool false)], args := [d1, d2, d3] }
  | _ => none }
def CpuBranchesWrongFalsely : Prop := cpuBranchesRow.holds Try.pinned (OpenSpec.ofChange cpuBranchesWrong)

/-- 'hibernaclelaw14.CpuReturns': WHATEVER THE INPUT: true; the input reads as it did. -/
def cpuReturnsSpec : ChangeSpec := { name := "cpuReturns", fn := fun _ => fun
  | [d1, d2, d3] => { results := [.lit (.bool true)], args := [d1, d2, d3] }
  | _ => none }
def cpuReturnsRow : OpenClaim := { program := "ytlhcggaeecjbcaa", sum := "9492e57d71cdbd52660e7538e4232ad71e02a831a3a6d80b1562616674e784d0", func := "hibernacle/hibernaclelaw14.CpuReturns", spec := "cpuReturns", inPlace := ["internal/bytealg.IndexByteString"], unfollowed := true, recurses := true, apart := false }
def CpuReturnsSaid : Prop := cpuReturnsRow.holds Try.pinned (OpenSpec.ofChange cpuReturnsSpec)

/-- ITS FALSE NEIGHBOUR: 'it returns false'. Refute it at one input. -/
def cpuReturnsWrong : ChangeSpec := { name := "cpuReturns", fn := fun _ => fun
  | [d1, d2, d3] => { results := [.lit (.bool false)], args := [d1, d2, d3] }
  | _ => none }
def CpuReturnsWrongFalsely : Prop := cpuReturnsRow.holds Try.pinned (OpenSpec.ofChange cpuReturnsWrong)

/- THE SECOND FORM. 'bulk': how many values and letters a reading holds, each counted each time it is reached (what is shared counts as often as it is met; a slice's spare places count too). A statement '..UptoSaid' is the law's where the arguments, and the package variables that the reading takes, are together of bulk at most 1048576: NARROWER than '..Said'. Prove '..Said' where nothing that the law and all that it calls make is longer than what came in: it says more and counts as full. Else prove '..UptoSaid'. A law counts once. -/
mutual
def uptoBulk {H : Type} : DataW H → Nat
  | .lit (.string bytes) => bytes.length + 1
  | .lit _ => 1
  | .nil => 1
  | .ptr d => uptoBulk d + 1
  | .slice elems spare => uptoBulkAll elems + uptoBulkAll spare + 1
  | .agg parts => uptoBulkAll parts + 1
  | .iface _ d => uptoBulk d + 1
  | .map entries => uptoBulkEntries entries + 1
  | .held _ => 1
def uptoBulkAll {H : Type} : List (DataW H) → Nat
  | [] => 0
  | d :: r => uptoBulk d + uptoBulkAll r
def uptoBulkEntries {H : Type} : List (Lit × DataW H) → Nat
  | [] => 0
  | x :: r => uptoBulkEntry x + uptoBulkEntries r
def uptoBulkEntry {H : Type} : Lit × DataW H → Nat
  | (.string bytes, d) => bytes.length + uptoBulk d + 1
  | (_, d) => uptoBulk d + 1
 end
def uptoSmall : (H : Type) → List (DataW H) → Bool := fun _ ds => decide (uptoBulkAll ds ≤ 1048576)
def OpenSpec.upto (s : _root_.Go.ChangeSpec) : _root_.Go.OpenSpec := { _root_.Go.OpenSpec.ofChange s with cond := some uptoSmall }

/-- 'hibernaclelaw13.MmuCopies', WHERE WHAT IT READS IS OF BULK AT MOST 1048576: true; the input reads as it did. -/
def mmuCopiesUptoRow : OpenClaim := { program := "ytlhcggaeecjbcaa", sum := "9492e57d71cdbd52660e7538e4232ad71e02a831a3a6d80b1562616674e784d0", func := "hibernacle/hibernaclelaw13.MmuCopies", spec := "mmuCopies", inPlace := ["internal/abi.NoEscape", "internal/bytealg.MakeNoZero"], unfollowed := true, recurses := true, apart := false, narrowed := true }
def MmuCopiesUptoSaid : Prop := mmuCopiesUptoRow.holds Try.pinned (OpenSpec.upto mmuCopiesSpec)

/-- 'hibernaclelaw13.MmuBack', WHERE WHAT IT READS IS OF BULK AT MOST 1048576: true; the input reads as it did. -/
def mmuBackUptoRow : OpenClaim := { program := "ytlhcggaeecjbcaa", sum := "9492e57d71cdbd52660e7538e4232ad71e02a831a3a6d80b1562616674e784d0", func := "hibernacle/hibernaclelaw13.MmuBack", spec := "mmuBack", inPlace := ["internal/abi.NoEscape", "internal/bytealg.MakeNoZero"], unfollowed := true, recurses := true, apart := false, narrowed := true }
def MmuBackUptoSaid : Prop := mmuBackUptoRow.holds Try.pinned (OpenSpec.upto mmuBackSpec)

/-- 'hibernaclelaw13.MmuApart', WHERE WHAT IT READS IS OF BULK AT MOST 1048576: true; the input reads as it did. -/
def mmuApartUptoRow : OpenClaim := { program := "ytlhcggaeecjbcaa", sum := "9492e57d71cdbd52660e7538e4232ad71e02a831a3a6d80b1562616674e784d0", func := "hibernacle/hibernaclelaw13.MmuApart", spec := "mmuApart", inPlace := ["internal/abi.NoEscape", "internal/bytealg.MakeNoZero"], unfollowed := true, recurses := true, apart := false, narrowed := true }
def MmuApartUptoSaid : Prop := mmuApartUptoRow.holds Try.pinned (OpenSpec.upto mmuApartSpec)

/-- 'hibernaclelaw13.MmuPieces', WHERE WHAT IT READS IS OF BULK AT MOST 1048576: true; the input reads as it did. -/
def mmuPiecesUptoRow : OpenClaim := { program := "ytlhcggaeecjbcaa", sum := "9492e57d71cdbd52660e7538e4232ad71e02a831a3a6d80b1562616674e784d0", func := "hibernacle/hibernaclelaw13.MmuPieces", spec := "mmuPieces", inPlace := ["internal/abi.NoEscape", "internal/bytealg.MakeNoZero"], unfollowed := true, recurses := true, apart := false, narrowed := true }
def MmuPiecesUptoSaid : Prop := mmuPiecesUptoRow.holds Try.pinned (OpenSpec.upto mmuPiecesSpec)

/-- 'hibernaclelaw13.MmuFinds', WHERE WHAT IT READS IS OF BULK AT MOST 1048576: true; the input reads as it did. -/
def mmuFindsUptoRow : OpenClaim := { program := "ytlhcggaeecjbcaa", sum := "9492e57d71cdbd52660e7538e4232ad71e02a831a3a6d80b1562616674e784d0", func := "hibernacle/hibernaclelaw13.MmuFinds", spec := "mmuFinds", inPlace := ["internal/abi.NoEscape", "internal/bytealg.MakeNoZero"], unfollowed := true, recurses := true, apart := false, narrowed := true }
def MmuFindsUptoSaid : Prop := mmuFindsUptoRow.holds Try.pinned (OpenSpec.upto mmuFindsSpec)

/-- 'hibernaclelaw13.MmuWords', WHERE WHAT IT READS IS OF BULK AT MOST 1048576: true; the input reads as it did. -/
def mmuWordsUptoRow : OpenClaim := { program := "ytlhcggaeecjbcaa", sum := "9492e57d71cdbd52660e7538e4232ad71e02a831a3a6d80b1562616674e784d0", func := "hibernacle/hibernaclelaw13.MmuWords", spec := "mmuWords", inPlace := ["internal/abi.NoEscape", "internal/bytealg.MakeNoZero"], unfollowed := true, recurses := true, apart := false, narrowed := true }
def MmuWordsUptoSaid : Prop := mmuWordsUptoRow.holds Try.pinned (OpenSpec.upto mmuWordsSpec)

/-- 'hibernaclelaw14.CpuSteps', WHERE WHAT IT READS IS OF BULK AT MOST 1048576: true; the input reads as it did. -/
def cpuStepsUptoRow : OpenClaim := { program := "ytlhcggaeecjbcaa", sum := "9492e57d71cdbd52660e7538e4232ad71e02a831a3a6d80b1562616674e784d0", func := "hibernacle/hibernaclelaw14.CpuSteps", spec := "cpuSteps", inPlace := ["internal/bytealg.IndexByteString"], unfollowed := true, recurses := true, apart := false, narrowed := true }
def CpuStepsUptoSaid : Prop := cpuStepsUptoRow.holds Try.pinned (OpenSpec.upto cpuStepsSpec)

/-- 'hibernaclelaw14.CpuRuns', WHERE WHAT IT READS IS OF BULK AT MOST 1048576: true; the input reads as it did. -/
def cpuRunsUptoRow : OpenClaim := { program := "ytlhcggaeecjbcaa", sum := "9492e57d71cdbd52660e7538e4232ad71e02a831a3a6d80b1562616674e784d0", func := "hibernacle/hibernaclelaw14.CpuRuns", spec := "cpuRuns", inPlace := ["internal/bytealg.IndexByteString"], unfollowed := true, recurses := true, apart := false, narrowed := true }
def CpuRunsUptoSaid : Prop := cpuRunsUptoRow.holds Try.pinned (OpenSpec.upto cpuRunsSpec)

/-- 'hibernaclelaw14.CpuArith', WHERE WHAT IT READS IS OF BULK AT MOST 1048576: true; the input reads as it did. -/
def cpuArithUptoRow : OpenClaim := { program := "ytlhcggaeecjbcaa", sum := "9492e57d71cdbd52660e7538e4232ad71e02a831a3a6d80b1562616674e784d0", func := "hibernacle/hibernaclelaw14.CpuArith", spec := "cpuArith", inPlace := ["internal/bytealg.IndexByteString"], unfollowed := true, recurses := true, apart := false, narrowed := true }
def CpuArithUptoSaid : Prop := cpuArithUptoRow.holds Try.pinned (OpenSpec.upto cpuArithSpec)

/-- 'hibernaclelaw14.CpuLittle', WHERE WHAT IT READS IS OF BULK AT MOST 1048576: true; the input reads as it did. -/
def cpuLittleUptoRow : OpenClaim := { program := "ytlhcggaeecjbcaa", sum := "9492e57d71cdbd52660e7538e4232ad71e02a831a3a6d80b1562616674e784d0", func := "hibernacle/hibernaclelaw14.CpuLittle", spec := "cpuLittle", inPlace := ["internal/bytealg.IndexByteString"], unfollowed := true, recurses := true, apart := false, narrowed := true }
def CpuLittleUptoSaid : Prop := cpuLittleUptoRow.holds Try.pinned (OpenSpec.upto cpuLittleSpec)

/-- 'hibernaclelaw14.CpuApart', WHERE WHAT IT READS IS OF BULK AT MOST 1048576: true; the input reads as it did. -/
def cpuApartUptoRow : OpenClaim := { program := "ytlhcggaeecjbcaa", sum := "9492e57d71cdbd52660e7538e4232ad71e02a831a3a6d80b1562616674e784d0", func := "hibernacle/hibernaclelaw14.CpuApart", spec := "cpuApart", inPlace := ["internal/bytealg.IndexByteString"], unfollowed := true, recurses := true, apart := false, narrowed := true }
def CpuApartUptoSaid : Prop := cpuApartUptoRow.holds Try.pinned (OpenSpec.upto cpuApartSpec)

/-- 'hibernaclelaw14.CpuMemory', WHERE WHAT IT READS IS OF BULK AT MOST 1048576: true; the input reads as it did. -/
def cpuMemoryUptoRow : OpenClaim := { program := "ytlhcggaeecjbcaa", sum := "9492e57d71cdbd52660e7538e4232ad71e02a831a3a6d80b1562616674e784d0", func := "hibernacle/hibernaclelaw14.CpuMemory", spec := "cpuMemory", inPlace := ["internal/bytealg.IndexByteString"], unfollowed := true, recurses := true, apart := false, narrowed := true }
def CpuMemoryUptoSaid : Prop := cpuMemoryUptoRow.holds Try.pinned (OpenSpec.upto cpuMemorySpec)

/-- 'hibernaclelaw14.CpuBranches', WHERE WHAT IT READS IS OF BULK AT MOST 1048576: true; the input reads as it did. -/
def cpuBranchesUptoRow : OpenClaim := { program := "ytlhcggaeecjbcaa", sum := "9492e57d71cdbd52660e7538e4232ad71e02a831a3a6d80b1562616674e784d0", func := "hibernacle/hibernaclelaw14.CpuBranches", spec := "cpuBranches", inPlace := ["internal/bytealg.IndexByteString"], unfollowed := true, recurses := true, apart := false, narrowed := true }
def CpuBranchesUptoSaid : Prop := cpuBranchesUptoRow.holds Try.pinned (OpenSpec.upto cpuBranchesSpec)

/-- 'hibernaclelaw14.CpuReturns', WHERE WHAT IT READS IS OF BULK AT MOST 1048576: true; the input reads as it did. -/
def cpuReturnsUptoRow : OpenClaim := { program := "ytlhcggaeecjbcaa", sum := "9492e57d71cdbd52660e7538e4232ad71e02a831a3a6d80b1562616674e784d0", func := "hibernacle/hibernaclelaw14.CpuReturns", spec := "cpuReturns", inPlace := ["internal/bytealg.IndexByteString"], unfollowed := true, recurses := true, apart := false, narrowed := true }
def CpuReturnsUptoSaid : Prop := cpuReturnsUptoRow.holds Try.pinned (OpenSpec.upto cpuReturnsSpec)

end Rows
end Go.Proofs.Ytlhcggaeecjbcaa
