/-
  No cell of these rows narrows 'for every input' (looked for: loops, veiled, ifaces, maps, wideKeys, modest, calm, conditions, laid).
  DERIVED. THE GIVEN ROWS OF THIS SEAT. 12 by the template 'for every input the law returns true; each argument reads behind the call as it read before'; 0 by the template 'total and deterministic' (their statements: YtgfpkhihdahjlaaTotals.lean).
  GIVEN WITH THE SEED: the statements are not yours to turn. If you find one false, say at which input.
  Laid BY PROGRAM, IN A SANDBOX (cutbox-rows.mjs): the forced cells as the released guide's own fill.sh prints them over the translation 82034f1f387f9885… (all of the seat's roots in one cut). By AI agents, Wed Nov 11 2026. No macro, syntax, notation, axiom, sorry.
-/
import Derived.Test.YtgfpkhihdahjlaaChecked
import GoSem.Claim
import GoSem.ClaimJoined
import GoSem.ClaimMapViews
import Derived.JoinedTies
import Derived.KernelRfl
namespace Go.Proofs.Ytgfpkhihdahjlaa
/- THE CELL 'sum', in the pinned program and in every row, IS THE sha256 OF THE DUMP (.gsa) THAT YtgfpkhihdahjlaaProg.lean LOADS. Nothing in Lean hashes anything: it is a label: what it is worth is what the hold of that sum in a sandbox is worth. -/
noncomputable def Try.pinned : Pinned := { name := "ytgfpkhihdahjlaa", sum := "82034f1f387f9885a660649822664d9a90a6dd655b85212accddabefdabc690d", checked := Try.checked }
namespace Rows
def none {H : Type} : Left H := { results := [], args := [] }

/-- 'switchboardlaw01.FixExact': WHATEVER THE INPUT: true; the input reads as it did. -/
def fixExactSpec : ChangeSpec := { name := "fixExact", fn := fun _ => fun
  | [d1, d2] => { results := [.lit (.bool true)], args := [d1, d2] }
  | _ => none }
def fixExactRow : OpenClaim := { program := "ytgfpkhihdahjlaa", sum := "82034f1f387f9885a660649822664d9a90a6dd655b85212accddabefdabc690d", func := "switchboard/switchboardlaw01.FixExact", spec := "fixExact", apart := false }
def FixExactSaid : Prop := fixExactRow.holds Try.pinned (OpenSpec.ofChange fixExactSpec)

/-- ITS FALSE NEIGHBOUR: 'it returns false'. Refute it at one input. -/
def fixExactWrong : ChangeSpec := { name := "fixExact", fn := fun _ => fun
  | [d1, d2] => { results := [.lit (.bool false)], args := [d1, d2] }
  | _ => none }
def FixExactWrongFalsely : Prop := fixExactRow.holds Try.pinned (OpenSpec.ofChange fixExactWrong)

/-- 'switchboardlaw01.FixLaws': WHATEVER THE INPUT: true; the input reads as it did. -/
def fixLawsSpec : ChangeSpec := { name := "fixLaws", fn := fun _ => fun
  | [d1, d2] => { results := [.lit (.bool true)], args := [d1, d2] }
  | _ => none }
def fixLawsRow : OpenClaim := { program := "ytgfpkhihdahjlaa", sum := "82034f1f387f9885a660649822664d9a90a6dd655b85212accddabefdabc690d", func := "switchboard/switchboardlaw01.FixLaws", spec := "fixLaws", apart := false }
def FixLawsSaid : Prop := fixLawsRow.holds Try.pinned (OpenSpec.ofChange fixLawsSpec)

/-- ITS FALSE NEIGHBOUR: 'it returns false'. Refute it at one input. -/
def fixLawsWrong : ChangeSpec := { name := "fixLaws", fn := fun _ => fun
  | [d1, d2] => { results := [.lit (.bool false)], args := [d1, d2] }
  | _ => none }
def FixLawsWrongFalsely : Prop := fixLawsRow.holds Try.pinned (OpenSpec.ofChange fixLawsWrong)

/-- 'switchboardlaw01.FixOrder': WHATEVER THE INPUT: true; the input reads as it did. -/
def fixOrderSpec : ChangeSpec := { name := "fixOrder", fn := fun _ => fun
  | [d1, d2, d3] => { results := [.lit (.bool true)], args := [d1, d2, d3] }
  | _ => none }
def fixOrderRow : OpenClaim := { program := "ytgfpkhihdahjlaa", sum := "82034f1f387f9885a660649822664d9a90a6dd655b85212accddabefdabc690d", func := "switchboard/switchboardlaw01.FixOrder", spec := "fixOrder", apart := false }
def FixOrderSaid : Prop := fixOrderRow.holds Try.pinned (OpenSpec.ofChange fixOrderSpec)

/-- ITS FALSE NEIGHBOUR: 'it returns false'. Refute it at one input. -/
def fixOrderWrong : ChangeSpec := { name := "fixOrder", fn := fun _ => fun
  | [d1, d2, d3] => { results := [.lit (.bool false)], args := [d1, d2, d3] }
  | _ => none }
def FixOrderWrongFalsely : Prop := fixOrderRow.holds Try.pinned (OpenSpec.ofChange fixOrderWrong)

/-- 'switchboardlaw01.FixBack': WHATEVER THE INPUT: true; the input reads as it did. -/
def fixBackSpec : ChangeSpec := { name := "fixBack", fn := fun _ => fun
  | [d1, d2] => { results := [.lit (.bool true)], args := [d1, d2] }
  | _ => none }
def fixBackRow : OpenClaim := { program := "ytgfpkhihdahjlaa", sum := "82034f1f387f9885a660649822664d9a90a6dd655b85212accddabefdabc690d", func := "switchboard/switchboardlaw01.FixBack", spec := "fixBack", apart := false }
def FixBackSaid : Prop := fixBackRow.holds Try.pinned (OpenSpec.ofChange fixBackSpec)

/-- ITS FALSE NEIGHBOUR: 'it returns false'. Refute it at one input. -/
def fixBackWrong : ChangeSpec := { name := "fixBack", fn := fun _ => fun
  | [d1, d2] => { results := [.lit (.bool false)], args := [d1, d2] }
  | _ => none }
def FixBackWrongFalsely : Prop := fixBackRow.holds Try.pinned (OpenSpec.ofChange fixBackWrong)

/-- 'switchboardlaw01.FixHeld': WHATEVER THE INPUT: true; the input reads as it did. -/
def fixHeldSpec : ChangeSpec := { name := "fixHeld", fn := fun _ => fun
  | [d1, d2] => { results := [.lit (.bool true)], args := [d1, d2] }
  | _ => none }
def fixHeldRow : OpenClaim := { program := "ytgfpkhihdahjlaa", sum := "82034f1f387f9885a660649822664d9a90a6dd655b85212accddabefdabc690d", func := "switchboard/switchboardlaw01.FixHeld", spec := "fixHeld", apart := false }
def FixHeldSaid : Prop := fixHeldRow.holds Try.pinned (OpenSpec.ofChange fixHeldSpec)

/-- ITS FALSE NEIGHBOUR: 'it returns false'. Refute it at one input. -/
def fixHeldWrong : ChangeSpec := { name := "fixHeld", fn := fun _ => fun
  | [d1, d2] => { results := [.lit (.bool false)], args := [d1, d2] }
  | _ => none }
def FixHeldWrongFalsely : Prop := fixHeldRow.holds Try.pinned (OpenSpec.ofChange fixHeldWrong)

/-- 'switchboardlaw01.FixHalves': WHATEVER THE INPUT: true; the input reads as it did. -/
def fixHalvesSpec : ChangeSpec := { name := "fixHalves", fn := fun _ => fun
  | [d] => { results := [.lit (.bool true)], args := [d] }
  | _ => none }
def fixHalvesRow : OpenClaim := { program := "ytgfpkhihdahjlaa", sum := "82034f1f387f9885a660649822664d9a90a6dd655b85212accddabefdabc690d", func := "switchboard/switchboardlaw01.FixHalves", spec := "fixHalves", apart := false }
def FixHalvesSaid : Prop := fixHalvesRow.holds Try.pinned (OpenSpec.ofChange fixHalvesSpec)

/-- ITS FALSE NEIGHBOUR: 'it returns false'. Refute it at one input. -/
def fixHalvesWrong : ChangeSpec := { name := "fixHalves", fn := fun _ => fun
  | [d] => { results := [.lit (.bool false)], args := [d] }
  | _ => none }
def FixHalvesWrongFalsely : Prop := fixHalvesRow.holds Try.pinned (OpenSpec.ofChange fixHalvesWrong)

/-- 'switchboardlaw16.ChunkSizes': WHATEVER THE INPUT: true; the input reads as it did. -/
def chunkSizesSpec : ChangeSpec := { name := "chunkSizes", fn := fun _ => fun
  | [d1, d2, d3] => { results := [.lit (.bool true)], args := [d1, d2, d3] }
  | _ => none }
def chunkSizesRow : OpenClaim := { program := "ytgfpkhihdahjlaa", sum := "82034f1f387f9885a660649822664d9a90a6dd655b85212accddabefdabc690d", func := "switchboard/switchboardlaw16.ChunkSizes", spec := "chunkSizes", inPlace := ["internal/abi.NoEscape", "internal/bytealg.MakeNoZero"], unfollowed := true, recurses := true, apart := false }
def ChunkSizesSaid : Prop := chunkSizesRow.holds Try.pinned (OpenSpec.ofChange chunkSizesSpec)

/-- ITS FALSE NEIGHBOUR: 'it returns false'. Refute it at one input. -/
def chunkSizesWrong : ChangeSpec := { name := "chunkSizes", fn := fun _ => fun
  | [d1, d2, d3] => { results := [.lit (.bool false)], args := [d1, d2, d3] }
  | _ => none }
def ChunkSizesWrongFalsely : Prop := chunkSizesRow.holds Try.pinned (OpenSpec.ofChange chunkSizesWrong)

/-- 'switchboardlaw05.ShareExact': WHATEVER THE INPUT: true; the input reads as it did. -/
def shareExactSpec : ChangeSpec := { name := "shareExact", fn := fun _ => fun
  | [d1, d2] => { results := [.lit (.bool true)], args := [d1, d2] }
  | _ => none }
def shareExactRow : OpenClaim := { program := "ytgfpkhihdahjlaa", sum := "82034f1f387f9885a660649822664d9a90a6dd655b85212accddabefdabc690d", func := "switchboard/switchboardlaw05.ShareExact", spec := "shareExact", apart := false }
def ShareExactSaid : Prop := shareExactRow.holds Try.pinned (OpenSpec.ofChange shareExactSpec)

/-- ITS FALSE NEIGHBOUR: 'it returns false'. Refute it at one input. -/
def shareExactWrong : ChangeSpec := { name := "shareExact", fn := fun _ => fun
  | [d1, d2] => { results := [.lit (.bool false)], args := [d1, d2] }
  | _ => none }
def ShareExactWrongFalsely : Prop := shareExactRow.holds Try.pinned (OpenSpec.ofChange shareExactWrong)

/-- 'switchboardlaw05.ShareFair': WHATEVER THE INPUT: true; the input reads as it did. -/
def shareFairSpec : ChangeSpec := { name := "shareFair", fn := fun _ => fun
  | [d1, d2] => { results := [.lit (.bool true)], args := [d1, d2] }
  | _ => none }
def shareFairRow : OpenClaim := { program := "ytgfpkhihdahjlaa", sum := "82034f1f387f9885a660649822664d9a90a6dd655b85212accddabefdabc690d", func := "switchboard/switchboardlaw05.ShareFair", spec := "shareFair", apart := false }
def ShareFairSaid : Prop := shareFairRow.holds Try.pinned (OpenSpec.ofChange shareFairSpec)

/-- ITS FALSE NEIGHBOUR: 'it returns false'. Refute it at one input. -/
def shareFairWrong : ChangeSpec := { name := "shareFair", fn := fun _ => fun
  | [d1, d2] => { results := [.lit (.bool false)], args := [d1, d2] }
  | _ => none }
def ShareFairWrongFalsely : Prop := shareFairRow.holds Try.pinned (OpenSpec.ofChange shareFairWrong)

/-- 'switchboardlaw16.ChunkTwice': WHATEVER THE INPUT: true; the input reads as it did. -/
def chunkTwiceSpec : ChangeSpec := { name := "chunkTwice", fn := fun _ => fun
  | [d1, d2, d3] => { results := [.lit (.bool true)], args := [d1, d2, d3] }
  | _ => none }
def chunkTwiceRow : OpenClaim := { program := "ytgfpkhihdahjlaa", sum := "82034f1f387f9885a660649822664d9a90a6dd655b85212accddabefdabc690d", func := "switchboard/switchboardlaw16.ChunkTwice", spec := "chunkTwice", inPlace := ["internal/abi.NoEscape", "internal/bytealg.MakeNoZero"], unfollowed := true, recurses := true, apart := false }
def ChunkTwiceSaid : Prop := chunkTwiceRow.holds Try.pinned (OpenSpec.ofChange chunkTwiceSpec)

/-- ITS FALSE NEIGHBOUR: 'it returns false'. Refute it at one input. -/
def chunkTwiceWrong : ChangeSpec := { name := "chunkTwice", fn := fun _ => fun
  | [d1, d2, d3] => { results := [.lit (.bool false)], args := [d1, d2, d3] }
  | _ => none }
def ChunkTwiceWrongFalsely : Prop := chunkTwiceRow.holds Try.pinned (OpenSpec.ofChange chunkTwiceWrong)

/-- 'switchboardlaw05.ShareGrows': WHATEVER THE INPUT: true; the input reads as it did. -/
def shareGrowsSpec : ChangeSpec := { name := "shareGrows", fn := fun _ => fun
  | [d1, d2, d3] => { results := [.lit (.bool true)], args := [d1, d2, d3] }
  | _ => none }
def shareGrowsRow : OpenClaim := { program := "ytgfpkhihdahjlaa", sum := "82034f1f387f9885a660649822664d9a90a6dd655b85212accddabefdabc690d", func := "switchboard/switchboardlaw05.ShareGrows", spec := "shareGrows", apart := false }
def ShareGrowsSaid : Prop := shareGrowsRow.holds Try.pinned (OpenSpec.ofChange shareGrowsSpec)

/-- ITS FALSE NEIGHBOUR: 'it returns false'. Refute it at one input. -/
def shareGrowsWrong : ChangeSpec := { name := "shareGrows", fn := fun _ => fun
  | [d1, d2, d3] => { results := [.lit (.bool false)], args := [d1, d2, d3] }
  | _ => none }
def ShareGrowsWrongFalsely : Prop := shareGrowsRow.holds Try.pinned (OpenSpec.ofChange shareGrowsWrong)

/-- 'switchboardlaw05.ShareTen': WHATEVER THE INPUT: true; the input reads as it did. -/
def shareTenSpec : ChangeSpec := { name := "shareTen", fn := fun _ => fun
  | [d] => { results := [.lit (.bool true)], args := [d] }
  | _ => none }
def shareTenRow : OpenClaim := { program := "ytgfpkhihdahjlaa", sum := "82034f1f387f9885a660649822664d9a90a6dd655b85212accddabefdabc690d", func := "switchboard/switchboardlaw05.ShareTen", spec := "shareTen", apart := false }
def ShareTenSaid : Prop := shareTenRow.holds Try.pinned (OpenSpec.ofChange shareTenSpec)

/-- ITS FALSE NEIGHBOUR: 'it returns false'. Refute it at one input. -/
def shareTenWrong : ChangeSpec := { name := "shareTen", fn := fun _ => fun
  | [d] => { results := [.lit (.bool false)], args := [d] }
  | _ => none }
def ShareTenWrongFalsely : Prop := shareTenRow.holds Try.pinned (OpenSpec.ofChange shareTenWrong)

/- THE SECOND FORM. 'bulk': how many values and letters a reading holds, each counted each time it is reached (what is shared counts as often as it is met; a slice's spare places count too). A statement '..UptoSaid' is the law's where the arguments, and the package variables that the reading takes, are together of bulk at most 1048576: NARROWER than '..Said'. Prove '..Said' where nothing that the law and all that it calls make is longer than what came in: it says more and counts as full. Else prove '..UptoSaid'. A law counts once. -/
mutual
def uptoBulk {H : Type} : DataW H → Nat
  | .lit (.string bytes) => bytes.length + 1
  | .lit _ => 1
  | .nil => 1
  | .ptr d => uptoBulk d + 1
  | .slice elems spare => uptoBulkAll elems + uptoBulkAll spare + 1
  | .agg parts => uptoBulkAll parts + 1
  | .iface _ d => uptoBulk d + 1
  | .map entries => uptoBulkEntries entries + 1
  | .held _ => 1
def uptoBulkAll {H : Type} : List (DataW H) → Nat
  | [] => 0
  | d :: r => uptoBulk d + uptoBulkAll r
def uptoBulkEntries {H : Type} : List (Lit × DataW H) → Nat
  | [] => 0
  | x :: r => uptoBulkEntry x + uptoBulkEntries r
def uptoBulkEntry {H : Type} : Lit × DataW H → Nat
  | (.string bytes, d) => bytes.length + uptoBulk d + 1
  | (_, d) => uptoBulk d + 1
 end
def uptoSmall : (H : Type) → List (DataW H) → Bool := fun _ ds => decide (uptoBulkAll ds ≤ 1048576)
def OpenSpec.upto (s : _root_.Go.ChangeSpec) : _root_.Go.OpenSpec := { _root_.Go.OpenSpec.ofChange s with cond := some uptoSmall }

/-- 'switchboardlaw01.FixExact', WHERE WHAT IT READS IS OF BULK AT MOST 1048576: true; the input reads as it did. -/
def fixExactUptoRow : OpenClaim := { program := "ytgfpkhihdahjlaa", sum := "82034f1f387f9885a660649822664d9a90a6dd655b85212accddabefdabc690d", func := "switchboard/switchboardlaw01.FixExact", spec := "fixExact", apart := false, narrowed := true }
def FixExactUptoSaid : Prop := fixExactUptoRow.holds Try.pinned (OpenSpec.upto fixExactSpec)

/-- 'switchboardlaw01.FixLaws', WHERE WHAT IT READS IS OF BULK AT MOST 1048576: true; the input reads as it did. -/
def fixLawsUptoRow : OpenClaim := { program := "ytgfpkhihdahjlaa", sum := "82034f1f387f9885a660649822664d9a90a6dd655b85212accddabefdabc690d", func := "switchboard/switchboardlaw01.FixLaws", spec := "fixLaws", apart := false, narrowed := true }
def FixLawsUptoSaid : Prop := fixLawsUptoRow.holds Try.pinned (OpenSpec.upto fixLawsSpec)

/-- 'switchboardlaw01.FixOrder', WHERE WHAT IT READS IS OF BULK AT MOST 1048576: true; the input reads as it did. -/
def fixOrderUptoRow : OpenClaim := { program := "ytgfpkhihdahjlaa", sum := "82034f1f387f9885a660649822664d9a90a6dd655b85212accddabefdabc690d", func := "switchboard/switchboardlaw01.FixOrder", spec := "fixOrder", apart := false, narrowed := true }
def FixOrderUptoSaid : Prop := fixOrderUptoRow.holds Try.pinned (OpenSpec.upto fixOrderSpec)

/-- 'switchboardlaw01.FixBack', WHERE WHAT IT READS IS OF BULK AT MOST 1048576: true; the input reads as it did. -/
def fixBackUptoRow : OpenClaim := { program := "ytgfpkhihdahjlaa", sum := "82034f1f387f9885a660649822664d9a90a6dd655b85212accddabefdabc690d", func := "switchboard/switchboardlaw01.FixBack", spec := "fixBack", apart := false, narrowed := true }
def FixBackUptoSaid : Prop := fixBackUptoRow.holds Try.pinned (OpenSpec.upto fixBackSpec)

/-- 'switchboardlaw01.FixHeld', WHERE WHAT IT READS IS OF BULK AT MOST 1048576: true; the input reads as it did. -/
def fixHeldUptoRow : OpenClaim := { program := "ytgfpkhihdahjlaa", sum := "82034f1f387f9885a660649822664d9a90a6dd655b85212accddabefdabc690d", func := "switchboard/switchboardlaw01.FixHeld", spec := "fixHeld", apart := false, narrowed := true }
def FixHeldUptoSaid : Prop := fixHeldUptoRow.holds Try.pinned (OpenSpec.upto fixHeldSpec)

/-- 'switchboardlaw01.FixHalves', WHERE WHAT IT READS IS OF BULK AT MOST 1048576: true; the input reads as it did. -/
def fixHalvesUptoRow : OpenClaim := { program := "ytgfpkhihdahjlaa", sum := "82034f1f387f9885a660649822664d9a90a6dd655b85212accddabefdabc690d", func := "switchboard/switchboardlaw01.FixHalves", spec := "fixHalves", apart := false, narrowed := true }
def FixHalvesUptoSaid : Prop := fixHalvesUptoRow.holds Try.pinned (OpenSpec.upto fixHalvesSpec)

/-- 'switchboardlaw16.ChunkSizes', WHERE WHAT IT READS IS OF BULK AT MOST 1048576: true; the input reads as it did. -/
def chunkSizesUptoRow : OpenClaim := { program := "ytgfpkhihdahjlaa", sum := "82034f1f387f9885a660649822664d9a90a6dd655b85212accddabefdabc690d", func := "switchboard/switchboardlaw16.ChunkSizes", spec := "chunkSizes", inPlace := ["internal/abi.NoEscape", "internal/bytealg.MakeNoZero"], unfollowed := true, recurses := true, apart := false, narrowed := true }
def ChunkSizesUptoSaid : Prop := chunkSizesUptoRow.holds Try.pinned (OpenSpec.upto chunkSizesSpec)

/-- 'switchboardlaw05.ShareExact', WHERE WHAT IT READS IS OF BULK AT MOST 1048576: true; the input reads as it did. -/
def shareExactUptoRow : OpenClaim := { program := "ytgfpkhihdahjlaa", sum := "82034f1f387f9885a660649822664d9a90a6dd655b85212accddabefdabc690d", func := "switchboard/switchboardlaw05.ShareExact", spec := "shareExact", apart := false, narrowed := true }
def ShareExactUptoSaid : Prop := shareExactUptoRow.holds Try.pinned (OpenSpec.upto shareExactSpec)

/-- 'switchboardlaw05.ShareFair', WHERE WHAT IT READS IS OF BULK AT MOST 1048576: true; the input reads as it did. -/
def shareFairUptoRow : OpenClaim := { program := "ytgfpkhihdahjlaa", sum := "82034f1f387f9885a660649822664d9a90a6dd655b85212accddabefdabc690d", func := "switchboard/switchboardlaw05.ShareFair", spec := "shareFair", apart := false, narrowed := true }
def ShareFairUptoSaid : Prop := shareFairUptoRow.holds Try.pinned (OpenSpec.upto shareFairSpec)

/-- 'switchboardlaw16.ChunkTwice', WHERE WHAT IT READS IS OF BULK AT MOST 1048576: true; the input reads as it did. -/
def chunkTwiceUptoRow : OpenClaim := { program := "ytgfpkhihdahjlaa", sum := "82034f1f387f9885a660649822664d9a90a6dd655b85212accddabefdabc690d", func := "switchboard/switchboardlaw16.ChunkTwice", spec := "chunkTwice", inPlace := ["internal/abi.NoEscape", "internal/bytealg.MakeNoZero"], unfollowed := true, recurses := true, apart := false, narrowed := true }
def ChunkTwiceUptoSaid : Prop := chunkTwiceUptoRow.holds Try.pinned (OpenSpec.upto chunkTwiceSpec)

/-- 'switchboardlaw05.ShareGrows', WHERE WHAT IT READS IS OF BULK AT MOST 1048576: true; the input reads as it did. -/
def shareGrowsUptoRow : OpenClaim := { program := "ytgfpkhihdahjlaa", sum := "82034f1f387f9885a660649822664d9a90a6dd655b85212accddabefdabc690d", func := "switchboard/switchboardlaw05.ShareGrows", spec := "shareGrows", apart := false, narrowed := true }
def ShareGrowsUptoSaid : Prop := shareGrowsUptoRow.holds Try.pinned (OpenSpec.upto shareGrowsSpec)

/-- 'switchboardlaw05.ShareTen', WHERE WHAT IT READS IS OF BULK AT MOST 1048576: true; the input reads as it did. -/
def shareTenUptoRow : OpenClaim := { program := "ytgfpkhihdahjlaa", sum := "82034f1f387f9885a660649822664d9a90a6dd655b85212accddabefdabc690d", func := "switchboard/switchboardlaw05.ShareTen", spec := "shareTen", apart := false, narrowed := true }
def ShareTenUptoSaid : Prop := shareTenUptoRow.holds Try.pinned (OpenSpec.upto shareTenSpec)

end Rows
end Go.Proofs.Ytgfpkhihdahjlaa
