/-
  No cell of these rows narrows 'for every input' (looked for: loops, veiled, ifaces, maps, wideKeys, modest, calm, conditions, laid).
  DERIVED. THE GIVEN ROWS OF THIS SEAT. 6 by the template 'for every input the law returns true; each argument reads behind the call as it read before'; 0 by the template 'total and deterministic' (their statements: YtdcojbamfchgiaaTotals.lean).
  GIVEN WITH THE SEED: the statements are not yours to turn. If you find one false, say at which input.
  Laid BY PROGRAM, IN A SANDBOX (cutbox-rows.mjs): the forced cells as the released guide's own fill.sh prints them over the translation 66730e60c408e1a2… (all of the seat's roots in one cut). By AI agents, Wed Nov 11 2026. No macro, syntax, notation, axiom, sorry.
-/
import Derived.Test.YtdcojbamfchgiaaChecked
import GoSem.Claim
import GoSem.ClaimJoined
import GoSem.ClaimMapViews
import Derived.JoinedTies
import Derived.KernelRfl
namespace Go.Proofs.Ytdcojbamfchgiaa
/- THE CELL 'sum', in the pinned program and in every row, IS THE sha256 OF THE DUMP (.gsa) THAT YtdcojbamfchgiaaProg.lean LOADS. Nothing in Lean hashes anything: it is a label: what it is worth is what the hold of that sum in a sandbox is worth. -/
noncomputable def Try.pinned : Pinned := { name := "ytdcojbamfchgiaa", sum := "66730e60c408e1a2bd739714f4304949a8a199974d5d8eea4555284dd356f74d", checked := Try.checked }
namespace Rows
def none {H : Type} : Left H := { results := [], args := [] }

/-- 'switchboardlaw16.ChunkSizes': WHATEVER THE INPUT: true; the input reads as it did. -/
def chunkSizesSpec : ChangeSpec := { name := "chunkSizes", fn := fun _ => fun
  | [d1, d2, d3] => { results := [.lit (.bool true)], args := [d1, d2, d3] }
  | _ => none }
def chunkSizesRow : OpenClaim := { program := "ytdcojbamfchgiaa", sum := "66730e60c408e1a2bd739714f4304949a8a199974d5d8eea4555284dd356f74d", func := "switchboard/switchboardlaw16.ChunkSizes", spec := "chunkSizes", inPlace := ["internal/abi.NoEscape", "internal/bytealg.MakeNoZero"], unfollowed := true, recurses := true, apart := false }
def ChunkSizesSaid : Prop := chunkSizesRow.holds Try.pinned (OpenSpec.ofChange chunkSizesSpec)

/-- ITS FALSE NEIGHBOUR: 'it returns false'. Refute it at one input. -/
def chunkSizesWrong : ChangeSpec := { name := "chunkSizes", fn := fun _ => fun
  | [d1, d2, d3] => { results := [.lit (.bool false)], args := [d1, d2, d3] }
  | _ => none }
def ChunkSizesWrongFalsely : Prop := chunkSizesRow.holds Try.pinned (OpenSpec.ofChange chunkSizesWrong)

/-- 'switchboardlaw16.ChunkTwice': WHATEVER THE INPUT: true; the input reads as it did. -/
def chunkTwiceSpec : ChangeSpec := { name := "chunkTwice", fn := fun _ => fun
  | [d1, d2, d3] => { results := [.lit (.bool true)], args := [d1, d2, d3] }
  | _ => none }
def chunkTwiceRow : OpenClaim := { program := "ytdcojbamfchgiaa", sum := "66730e60c408e1a2bd739714f4304949a8a199974d5d8eea4555284dd356f74d", func := "switchboard/switchboardlaw16.ChunkTwice", spec := "chunkTwice", inPlace := ["internal/abi.NoEscape", "internal/bytealg.MakeNoZero"], unfollowed := true, recurses := true, apart := false }
def ChunkTwiceSaid : Prop := chunkTwiceRow.holds Try.pinned (OpenSpec.ofChange chunkTwiceSpec)

/-- ITS FALSE NEIGHBOUR: 'it returns false'. Refute it at one input. -/
def chunkTwiceWrong : ChangeSpec := { name := "chunkTwice", fn := fun _ => fun
  | [d1, d2, d3] => { results := [.lit (.bool false)], args := [d1, d2, d3] }
  | _ => none }
def ChunkTwiceWrongFalsely : Prop := chunkTwiceRow.holds Try.pinned (OpenSpec.ofChange chunkTwiceWrong)

/-- 'switchboardlaw16.ChunkExports': WHATEVER THE INPUT: true; the input reads as it did. -/
def chunkExportsSpec : ChangeSpec := { name := "chunkExports", fn := fun _ => fun
  | [d1, d2, d3] => { results := [.lit (.bool true)], args := [d1, d2, d3] }
  | _ => none }
def chunkExportsRow : OpenClaim := { program := "ytdcojbamfchgiaa", sum := "66730e60c408e1a2bd739714f4304949a8a199974d5d8eea4555284dd356f74d", func := "switchboard/switchboardlaw16.ChunkExports", spec := "chunkExports", inPlace := ["internal/abi.NoEscape", "internal/bytealg.MakeNoZero"], unfollowed := true, recurses := true, apart := false }
def ChunkExportsSaid : Prop := chunkExportsRow.holds Try.pinned (OpenSpec.ofChange chunkExportsSpec)

/-- ITS FALSE NEIGHBOUR: 'it returns false'. Refute it at one input. -/
def chunkExportsWrong : ChangeSpec := { name := "chunkExports", fn := fun _ => fun
  | [d1, d2, d3] => { results := [.lit (.bool false)], args := [d1, d2, d3] }
  | _ => none }
def ChunkExportsWrongFalsely : Prop := chunkExportsRow.holds Try.pinned (OpenSpec.ofChange chunkExportsWrong)

/-- 'switchboardlaw16.ChunkImports': WHATEVER THE INPUT: true; the input reads as it did. -/
def chunkImportsSpec : ChangeSpec := { name := "chunkImports", fn := fun _ => fun
  | [d] => { results := [.lit (.bool true)], args := [d] }
  | _ => none }
def chunkImportsRow : OpenClaim := { program := "ytdcojbamfchgiaa", sum := "66730e60c408e1a2bd739714f4304949a8a199974d5d8eea4555284dd356f74d", func := "switchboard/switchboardlaw16.ChunkImports", spec := "chunkImports", inPlace := ["internal/abi.NoEscape", "internal/bytealg.MakeNoZero"], unfollowed := true, recurses := true, apart := false }
def ChunkImportsSaid : Prop := chunkImportsRow.holds Try.pinned (OpenSpec.ofChange chunkImportsSpec)

/-- ITS FALSE NEIGHBOUR: 'it returns false'. Refute it at one input. -/
def chunkImportsWrong : ChangeSpec := { name := "chunkImports", fn := fun _ => fun
  | [d] => { results := [.lit (.bool false)], args := [d] }
  | _ => none }
def ChunkImportsWrongFalsely : Prop := chunkImportsRow.holds Try.pinned (OpenSpec.ofChange chunkImportsWrong)

/-- 'switchboardlaw16.ChunkCuts': WHATEVER THE INPUT: true; the input reads as it did. -/
def chunkCutsSpec : ChangeSpec := { name := "chunkCuts", fn := fun _ => fun
  | [d1, d2] => { results := [.lit (.bool true)], args := [d1, d2] }
  | _ => none }
def chunkCutsRow : OpenClaim := { program := "ytdcojbamfchgiaa", sum := "66730e60c408e1a2bd739714f4304949a8a199974d5d8eea4555284dd356f74d", func := "switchboard/switchboardlaw16.ChunkCuts", spec := "chunkCuts", inPlace := ["internal/abi.NoEscape", "internal/bytealg.MakeNoZero"], unfollowed := true, recurses := true, apart := false }
def ChunkCutsSaid : Prop := chunkCutsRow.holds Try.pinned (OpenSpec.ofChange chunkCutsSpec)

/-- ITS FALSE NEIGHBOUR: 'it returns false'. Refute it at one input. -/
def chunkCutsWrong : ChangeSpec := { name := "chunkCuts", fn := fun _ => fun
  | [d1, d2] => { results := [.lit (.bool false)], args := [d1, d2] }
  | _ => none }
def ChunkCutsWrongFalsely : Prop := chunkCutsRow.holds Try.pinned (OpenSpec.ofChange chunkCutsWrong)

/-- 'switchboardlaw16.ChunkBit': WHATEVER THE INPUT: true; the input reads as it did. -/
def chunkBitSpec : ChangeSpec := { name := "chunkBit", fn := fun _ => fun
  | [d1, d2, d3, d4] => { results := [.lit (.bool true)], args := [d1, d2, d3, d4] }
  | _ => none }
def chunkBitRow : OpenClaim := { program := "ytdcojbamfchgiaa", sum := "66730e60c408e1a2bd739714f4304949a8a199974d5d8eea4555284dd356f74d", func := "switchboard/switchboardlaw16.ChunkBit", spec := "chunkBit", inPlace := ["internal/abi.NoEscape", "internal/bytealg.MakeNoZero"], unfollowed := true, recurses := true, apart := false }
def ChunkBitSaid : Prop := chunkBitRow.holds Try.pinned (OpenSpec.ofChange chunkBitSpec)

/-- ITS FALSE NEIGHBOUR: 'it returns false'. Refute it at one input. -/
def chunkBitWrong : ChangeSpec := { name := "chunkBit", fn := fun _ => fun
  | [d1, d2, d3, d4] => { results := [.lit (.bool false)], args := [d1, d2, d3, d4] }
  | _ => none }
def ChunkBitWrongFalsely : Prop := chunkBitRow.holds Try.pinned (OpenSpec.ofChange chunkBitWrong)

/- THE SECOND FORM. 'bulk': how many values and letters a reading holds, each counted each time it is reached (what is shared counts as often as it is met; a slice's spare places count too). A statement '..UptoSaid' is the law's where the arguments, and the package variables that the reading takes, are together of bulk at most 1048576: NARROWER than '..Said'. Prove '..Said' where nothing that the law and all that it calls make is longer than what came in: it says more and counts as full. Else prove '..UptoSaid'. A law counts once. -/
mutual
def uptoBulk {H : Type} : DataW H → Nat
  | .lit (.string bytes) => bytes.length + 1
  | .lit _ => 1
  | .nil => 1
  | .ptr d => uptoBulk d + 1
  | .slice elems spare => uptoBulkAll elems + uptoBulkAll spare + 1
  | .agg parts => uptoBulkAll parts + 1
  | .iface _ d => uptoBulk d + 1
  | .map entries => uptoBulkEntries entries + 1
  | .held _ => 1
def uptoBulkAll {H : Type} : List (DataW H) → Nat
  | [] => 0
  | d :: r => uptoBulk d + uptoBulkAll r
def uptoBulkEntries {H : Type} : List (Lit × DataW H) → Nat
  | [] => 0
  | x :: r => uptoBulkEntry x + uptoBulkEntries r
def uptoBulkEntry {H : Type} : Lit × DataW H → Nat
  | (.string bytes, d) => bytes.length + uptoBulk d + 1
  | (_, d) => uptoBulk d + 1
 end
def uptoSmall : (H : Type) → List (DataW H) → Bool := fun _ ds => decide (uptoBulkAll ds ≤ 1048576)
def OpenSpec.upto (s : _root_.Go.ChangeSpec) : _root_.Go.OpenSpec := { _root_.Go.OpenSpec.ofChange s with cond := some uptoSmall }

/-- 'switchboardlaw16.ChunkSizes', WHERE WHAT IT READS IS OF BULK AT MOST 1048576: true; the input reads as it did. -/
def chunkSizesUptoRow : OpenClaim := { program := "ytdcojbamfchgiaa", sum := "66730e60c408e1a2bd739714f4304949a8a199974d5d8eea4555284dd356f74d", func := "switchboard/switchboardlaw16.ChunkSizes", spec := "chunkSizes", inPlace := ["internal/abi.NoEscape", "internal/bytealg.MakeNoZero"], unfollowed := true, recurses := true, apart := false, narrowed := true }
def ChunkSizesUptoSaid : Prop := chunkSizesUptoRow.holds Try.pinned (OpenSpec.upto chunkSizesSpec)

/-- 'switchboardlaw16.ChunkTwice', WHERE WHAT IT READS IS OF BULK AT MOST 1048576: true; the input reads as it did. -/
def chunkTwiceUptoRow : OpenClaim := { program := "ytdcojbamfchgiaa", sum := "66730e60c408e1a2bd739714f4304949a8a199974d5d8eea4555284dd356f74d", func := "switchboard/switchboardlaw16.ChunkTwice", spec := "chunkTwice", inPlace := ["internal/abi.NoEscape", "internal/bytealg.MakeNoZero"], unfollowed := true, recurses := true, apart := false, narrowed := true }
def ChunkTwiceUptoSaid : Prop := chunkTwiceUptoRow.holds Try.pinned (OpenSpec.upto chunkTwiceSpec)

/-- 'switchboardlaw16.ChunkExports', WHERE WHAT IT READS IS OF BULK AT MOST 1048576: true; the input reads as it did. -/
def chunkExportsUptoRow : OpenClaim := { program := "ytdcojbamfchgiaa", sum := "66730e60c408e1a2bd739714f4304949a8a199974d5d8eea4555284dd356f74d", func := "switchboard/switchboardlaw16.ChunkExports", spec := "chunkExports", inPlace := ["internal/abi.NoEscape", "internal/bytealg.MakeNoZero"], unfollowed := true, recurses := true, apart := false, narrowed := true }
def ChunkExportsUptoSaid : Prop := chunkExportsUptoRow.holds Try.pinned (OpenSpec.upto chunkExportsSpec)

/-- 'switchboardlaw16.ChunkImports', WHERE WHAT IT READS IS OF BULK AT MOST 1048576: true; the input reads as it did. -/
def chunkImportsUptoRow : OpenClaim := { program := "ytdcojbamfchgiaa", sum := "66730e60c408e1a2bd739714f4304949a8a199974d5d8eea4555284dd356f74d", func := "switchboard/switchboardlaw16.ChunkImports", spec := "chunkImports", inPlace := ["internal/abi.NoEscape", "internal/bytealg.MakeNoZero"], unfollowed := true, recurses := true, apart := false, narrowed := true }
def ChunkImportsUptoSaid : Prop := chunkImportsUptoRow.holds Try.pinned (OpenSpec.upto chunkImportsSpec)

/-- 'switchboardlaw16.ChunkCuts', WHERE WHAT IT READS IS OF BULK AT MOST 1048576: true; the input reads as it did. -/
def chunkCutsUptoRow : OpenClaim := { program := "ytdcojbamfchgiaa", sum := "66730e60c408e1a2bd739714f4304949a8a199974d5d8eea4555284dd356f74d", func := "switchboard/switchboardlaw16.ChunkCuts", spec := "chunkCuts", inPlace := ["internal/abi.NoEscape", "internal/bytealg.MakeNoZero"], unfollowed := true, recurses := true, apart := false, narrowed := true }
def ChunkCutsUptoSaid : Prop := chunkCutsUptoRow.holds Try.pinned (OpenSpec.upto chunkCutsSpec)

/-- 'switchboardlaw16.ChunkBit', WHERE WHAT IT READS IS OF BULK AT MOST 1048576: true; the input reads as it did. -/
def chunkBitUptoRow : OpenClaim := { program := "ytdcojbamfchgiaa", sum := "66730e60c408e1a2bd739714f4304949a8a199974d5d8eea4555284dd356f74d", func := "switchboard/switchboardlaw16.ChunkBit", spec := "chunkBit", inPlace := ["internal/abi.NoEscape", "internal/bytealg.MakeNoZero"], unfollowed := true, recurses := true, apart := false, narrowed := true }
def ChunkBitUptoSaid : Prop := chunkBitUptoRow.holds Try.pinned (OpenSpec.upto chunkBitSpec)

end Rows
end Go.Proofs.Ytdcojbamfchgiaa
