/-
  No cell of these rows narrows 'for every input' (looked for: loops, veiled, ifaces, maps, wideKeys, modest, calm, conditions, laid).
  DERIVED. THE GIVEN ROWS OF THIS SEAT. 12 by the template 'for every input the law returns true; each argument reads behind the call as it read before'; 0 by the template 'total and deterministic' (their statements: YtgfpkhihdahjlabTotals.lean).
  GIVEN WITH THE SEED: the statements are not yours to turn. If you find one false, say at which input.
  Laid BY PROGRAM, IN A SANDBOX (cutbox-rows.mjs): the forced cells as the released guide's own fill.sh prints them over the translation 3ea832b1b2d09bc4… (all of the seat's roots in one cut). By AI agents, Wed Nov 11 2026. No macro, syntax, notation, axiom, sorry.
-/
import Derived.Test.YtgfpkhihdahjlabChecked
import GoSem.Claim
import GoSem.ClaimJoined
import GoSem.ClaimMapViews
import Derived.JoinedTies
import Derived.KernelRfl
namespace Go.Proofs.Ytgfpkhihdahjlab
/- THE CELL 'sum', in the pinned program and in every row, IS THE sha256 OF THE DUMP (.gsa) THAT YtgfpkhihdahjlabProg.lean LOADS. Nothing in Lean hashes anything: it is a label: what it is worth is what the hold of that sum in a sandbox is worth. -/
noncomputable def Try.pinned : Pinned := { name := "ytgfpkhihdahjlab", sum := "3ea832b1b2d09bc4c0aa2ff52eea50c5c2731109cfa929bc6bdf6d1c9f7df0b2", checked := Try.checked }
namespace Rows
def none {H : Type} : Left H := { results := [], args := [] }

/-- 'switchboardlaw06.CrcExact': WHATEVER THE INPUT: true; the input reads as it did. -/
def crcExactSpec : ChangeSpec := { name := "crcExact", fn := fun _ => fun
  | [d] => { results := [.lit (.bool true)], args := [d] }
  | _ => none }
def crcExactRow : OpenClaim := { program := "ytgfpkhihdahjlab", sum := "3ea832b1b2d09bc4c0aa2ff52eea50c5c2731109cfa929bc6bdf6d1c9f7df0b2", func := "switchboard/switchboardlaw06.CrcExact", spec := "crcExact", apart := false }
def CrcExactSaid : Prop := crcExactRow.holds Try.pinned (OpenSpec.ofChange crcExactSpec)

/-- ITS FALSE NEIGHBOUR: 'it returns false'. Refute it at one input. -/
def crcExactWrong : ChangeSpec := { name := "crcExact", fn := fun _ => fun
  | [d] => { results := [.lit (.bool false)], args := [d] }
  | _ => none }
def CrcExactWrongFalsely : Prop := crcExactRow.holds Try.pinned (OpenSpec.ofChange crcExactWrong)

/-- 'switchboardlaw06.CrcBit': WHATEVER THE INPUT: true; the input reads as it did. -/
def crcBitSpec : ChangeSpec := { name := "crcBit", fn := fun _ => fun
  | [d1, d2, d3] => { results := [.lit (.bool true)], args := [d1, d2, d3] }
  | _ => none }
def crcBitRow : OpenClaim := { program := "ytgfpkhihdahjlab", sum := "3ea832b1b2d09bc4c0aa2ff52eea50c5c2731109cfa929bc6bdf6d1c9f7df0b2", func := "switchboard/switchboardlaw06.CrcBit", spec := "crcBit", apart := false }
def CrcBitSaid : Prop := crcBitRow.holds Try.pinned (OpenSpec.ofChange crcBitSpec)

/-- ITS FALSE NEIGHBOUR: 'it returns false'. Refute it at one input. -/
def crcBitWrong : ChangeSpec := { name := "crcBit", fn := fun _ => fun
  | [d1, d2, d3] => { results := [.lit (.bool false)], args := [d1, d2, d3] }
  | _ => none }
def CrcBitWrongFalsely : Prop := crcBitRow.holds Try.pinned (OpenSpec.ofChange crcBitWrong)

/-- 'switchboardlaw06.CrcTwo': WHATEVER THE INPUT: true; the input reads as it did. -/
def crcTwoSpec : ChangeSpec := { name := "crcTwo", fn := fun _ => fun
  | [d1, d2, d3, d4] => { results := [.lit (.bool true)], args := [d1, d2, d3, d4] }
  | _ => none }
def crcTwoRow : OpenClaim := { program := "ytgfpkhihdahjlab", sum := "3ea832b1b2d09bc4c0aa2ff52eea50c5c2731109cfa929bc6bdf6d1c9f7df0b2", func := "switchboard/switchboardlaw06.CrcTwo", spec := "crcTwo", apart := false }
def CrcTwoSaid : Prop := crcTwoRow.holds Try.pinned (OpenSpec.ofChange crcTwoSpec)

/-- ITS FALSE NEIGHBOUR: 'it returns false'. Refute it at one input. -/
def crcTwoWrong : ChangeSpec := { name := "crcTwo", fn := fun _ => fun
  | [d1, d2, d3, d4] => { results := [.lit (.bool false)], args := [d1, d2, d3, d4] }
  | _ => none }
def CrcTwoWrongFalsely : Prop := crcTwoRow.holds Try.pinned (OpenSpec.ofChange crcTwoWrong)

/-- 'switchboardlaw06.CrcBytes': WHATEVER THE INPUT: true; the input reads as it did. -/
def crcBytesSpec : ChangeSpec := { name := "crcBytes", fn := fun _ => fun
  | [d1, d2, d3] => { results := [.lit (.bool true)], args := [d1, d2, d3] }
  | _ => none }
def crcBytesRow : OpenClaim := { program := "ytgfpkhihdahjlab", sum := "3ea832b1b2d09bc4c0aa2ff52eea50c5c2731109cfa929bc6bdf6d1c9f7df0b2", func := "switchboard/switchboardlaw06.CrcBytes", spec := "crcBytes", apart := false }
def CrcBytesSaid : Prop := crcBytesRow.holds Try.pinned (OpenSpec.ofChange crcBytesSpec)

/-- ITS FALSE NEIGHBOUR: 'it returns false'. Refute it at one input. -/
def crcBytesWrong : ChangeSpec := { name := "crcBytes", fn := fun _ => fun
  | [d1, d2, d3] => { results := [.lit (.bool false)], args := [d1, d2, d3] }
  | _ => none }
def CrcBytesWrongFalsely : Prop := crcBytesRow.holds Try.pinned (OpenSpec.ofChange crcBytesWrong)

/-- 'switchboardlaw07.WirePuts': WHATEVER THE INPUT: true; the input reads as it did. -/
def wirePutsSpec : ChangeSpec := { name := "wirePuts", fn := fun _ => fun
  | [d] => { results := [.lit (.bool true)], args := [d] }
  | _ => none }
def wirePutsRow : OpenClaim := { program := "ytgfpkhihdahjlab", sum := "3ea832b1b2d09bc4c0aa2ff52eea50c5c2731109cfa929bc6bdf6d1c9f7df0b2", func := "switchboard/switchboardlaw07.WirePuts", spec := "wirePuts", apart := false }
def WirePutsSaid : Prop := wirePutsRow.holds Try.pinned (OpenSpec.ofChange wirePutsSpec)

/-- ITS FALSE NEIGHBOUR: 'it returns false'. Refute it at one input. -/
def wirePutsWrong : ChangeSpec := { name := "wirePuts", fn := fun _ => fun
  | [d] => { results := [.lit (.bool false)], args := [d] }
  | _ => none }
def WirePutsWrongFalsely : Prop := wirePutsRow.holds Try.pinned (OpenSpec.ofChange wirePutsWrong)

/-- 'switchboardlaw07.WireTakes': WHATEVER THE INPUT: true; the input reads as it did. -/
def wireTakesSpec : ChangeSpec := { name := "wireTakes", fn := fun _ => fun
  | [d] => { results := [.lit (.bool true)], args := [d] }
  | _ => none }
def wireTakesRow : OpenClaim := { program := "ytgfpkhihdahjlab", sum := "3ea832b1b2d09bc4c0aa2ff52eea50c5c2731109cfa929bc6bdf6d1c9f7df0b2", func := "switchboard/switchboardlaw07.WireTakes", spec := "wireTakes", apart := false }
def WireTakesSaid : Prop := wireTakesRow.holds Try.pinned (OpenSpec.ofChange wireTakesSpec)

/-- ITS FALSE NEIGHBOUR: 'it returns false'. Refute it at one input. -/
def wireTakesWrong : ChangeSpec := { name := "wireTakes", fn := fun _ => fun
  | [d] => { results := [.lit (.bool false)], args := [d] }
  | _ => none }
def WireTakesWrongFalsely : Prop := wireTakesRow.holds Try.pinned (OpenSpec.ofChange wireTakesWrong)

/-- 'switchboardlaw07.WireBit': WHATEVER THE INPUT: true; the input reads as it did. -/
def wireBitSpec : ChangeSpec := { name := "wireBit", fn := fun _ => fun
  | [d1, d2, d3] => { results := [.lit (.bool true)], args := [d1, d2, d3] }
  | _ => none }
def wireBitRow : OpenClaim := { program := "ytgfpkhihdahjlab", sum := "3ea832b1b2d09bc4c0aa2ff52eea50c5c2731109cfa929bc6bdf6d1c9f7df0b2", func := "switchboard/switchboardlaw07.WireBit", spec := "wireBit", apart := false }
def WireBitSaid : Prop := wireBitRow.holds Try.pinned (OpenSpec.ofChange wireBitSpec)

/-- ITS FALSE NEIGHBOUR: 'it returns false'. Refute it at one input. -/
def wireBitWrong : ChangeSpec := { name := "wireBit", fn := fun _ => fun
  | [d1, d2, d3] => { results := [.lit (.bool false)], args := [d1, d2, d3] }
  | _ => none }
def WireBitWrongFalsely : Prop := wireBitRow.holds Try.pinned (OpenSpec.ofChange wireBitWrong)

/-- 'switchboardlaw07.WireSizes': WHATEVER THE INPUT: true; the input reads as it did. -/
def wireSizesSpec : ChangeSpec := { name := "wireSizes", fn := fun _ => fun
  | [d1, d2, d3] => { results := [.lit (.bool true)], args := [d1, d2, d3] }
  | _ => none }
def wireSizesRow : OpenClaim := { program := "ytgfpkhihdahjlab", sum := "3ea832b1b2d09bc4c0aa2ff52eea50c5c2731109cfa929bc6bdf6d1c9f7df0b2", func := "switchboard/switchboardlaw07.WireSizes", spec := "wireSizes", apart := false }
def WireSizesSaid : Prop := wireSizesRow.holds Try.pinned (OpenSpec.ofChange wireSizesSpec)

/-- ITS FALSE NEIGHBOUR: 'it returns false'. Refute it at one input. -/
def wireSizesWrong : ChangeSpec := { name := "wireSizes", fn := fun _ => fun
  | [d1, d2, d3] => { results := [.lit (.bool false)], args := [d1, d2, d3] }
  | _ => none }
def WireSizesWrongFalsely : Prop := wireSizesRow.holds Try.pinned (OpenSpec.ofChange wireSizesWrong)

/-- 'switchboardlaw07.WireUnlike': WHATEVER THE INPUT: true; the input reads as it did. -/
def wireUnlikeSpec : ChangeSpec := { name := "wireUnlike", fn := fun _ => fun
  | [d1, d2] => { results := [.lit (.bool true)], args := [d1, d2] }
  | _ => none }
def wireUnlikeRow : OpenClaim := { program := "ytgfpkhihdahjlab", sum := "3ea832b1b2d09bc4c0aa2ff52eea50c5c2731109cfa929bc6bdf6d1c9f7df0b2", func := "switchboard/switchboardlaw07.WireUnlike", spec := "wireUnlike", apart := false }
def WireUnlikeSaid : Prop := wireUnlikeRow.holds Try.pinned (OpenSpec.ofChange wireUnlikeSpec)

/-- ITS FALSE NEIGHBOUR: 'it returns false'. Refute it at one input. -/
def wireUnlikeWrong : ChangeSpec := { name := "wireUnlike", fn := fun _ => fun
  | [d1, d2] => { results := [.lit (.bool false)], args := [d1, d2] }
  | _ => none }
def WireUnlikeWrongFalsely : Prop := wireUnlikeRow.holds Try.pinned (OpenSpec.ofChange wireUnlikeWrong)

/-- 'switchboardlaw07.WireFields': WHATEVER THE INPUT: true; the input reads as it did. -/
def wireFieldsSpec : ChangeSpec := { name := "wireFields", fn := fun _ => fun
  | [d] => { results := [.lit (.bool true)], args := [d] }
  | _ => none }
def wireFieldsRow : OpenClaim := { program := "ytgfpkhihdahjlab", sum := "3ea832b1b2d09bc4c0aa2ff52eea50c5c2731109cfa929bc6bdf6d1c9f7df0b2", func := "switchboard/switchboardlaw07.WireFields", spec := "wireFields", apart := false }
def WireFieldsSaid : Prop := wireFieldsRow.holds Try.pinned (OpenSpec.ofChange wireFieldsSpec)

/-- ITS FALSE NEIGHBOUR: 'it returns false'. Refute it at one input. -/
def wireFieldsWrong : ChangeSpec := { name := "wireFields", fn := fun _ => fun
  | [d] => { results := [.lit (.bool false)], args := [d] }
  | _ => none }
def WireFieldsWrongFalsely : Prop := wireFieldsRow.holds Try.pinned (OpenSpec.ofChange wireFieldsWrong)

/-- 'switchboardlaw16.ChunkExports': WHATEVER THE INPUT: true; the input reads as it did. -/
def chunkExportsSpec : ChangeSpec := { name := "chunkExports", fn := fun _ => fun
  | [d1, d2, d3] => { results := [.lit (.bool true)], args := [d1, d2, d3] }
  | _ => none }
def chunkExportsRow : OpenClaim := { program := "ytgfpkhihdahjlab", sum := "3ea832b1b2d09bc4c0aa2ff52eea50c5c2731109cfa929bc6bdf6d1c9f7df0b2", func := "switchboard/switchboardlaw16.ChunkExports", spec := "chunkExports", inPlace := ["internal/abi.NoEscape", "internal/bytealg.MakeNoZero"], unfollowed := true, recurses := true, apart := false }
def ChunkExportsSaid : Prop := chunkExportsRow.holds Try.pinned (OpenSpec.ofChange chunkExportsSpec)

/-- ITS FALSE NEIGHBOUR: 'it returns false'. Refute it at one input. -/
def chunkExportsWrong : ChangeSpec := { name := "chunkExports", fn := fun _ => fun
  | [d1, d2, d3] => { results := [.lit (.bool false)], args := [d1, d2, d3] }
  | _ => none }
def ChunkExportsWrongFalsely : Prop := chunkExportsRow.holds Try.pinned (OpenSpec.ofChange chunkExportsWrong)

/-- 'switchboardlaw16.ChunkImports': WHATEVER THE INPUT: true; the input reads as it did. -/
def chunkImportsSpec : ChangeSpec := { name := "chunkImports", fn := fun _ => fun
  | [d] => { results := [.lit (.bool true)], args := [d] }
  | _ => none }
def chunkImportsRow : OpenClaim := { program := "ytgfpkhihdahjlab", sum := "3ea832b1b2d09bc4c0aa2ff52eea50c5c2731109cfa929bc6bdf6d1c9f7df0b2", func := "switchboard/switchboardlaw16.ChunkImports", spec := "chunkImports", inPlace := ["internal/abi.NoEscape", "internal/bytealg.MakeNoZero"], unfollowed := true, recurses := true, apart := false }
def ChunkImportsSaid : Prop := chunkImportsRow.holds Try.pinned (OpenSpec.ofChange chunkImportsSpec)

/-- ITS FALSE NEIGHBOUR: 'it returns false'. Refute it at one input. -/
def chunkImportsWrong : ChangeSpec := { name := "chunkImports", fn := fun _ => fun
  | [d] => { results := [.lit (.bool false)], args := [d] }
  | _ => none }
def ChunkImportsWrongFalsely : Prop := chunkImportsRow.holds Try.pinned (OpenSpec.ofChange chunkImportsWrong)

/- THE SECOND FORM. 'bulk': how many values and letters a reading holds, each counted each time it is reached (what is shared counts as often as it is met; a slice's spare places count too). A statement '..UptoSaid' is the law's where the arguments, and the package variables that the reading takes, are together of bulk at most 1048576: NARROWER than '..Said'. Prove '..Said' where nothing that the law and all that it calls make is longer than what came in: it says more and counts as full. Else prove '..UptoSaid'. A law counts once. -/
mutual
def uptoBulk {H : Type} : DataW H → Nat
  | .lit (.string bytes) => bytes.length + 1
  | .lit _ => 1
  | .nil => 1
  | .ptr d => uptoBulk d + 1
  | .slice elems spare => uptoBulkAll elems + uptoBulkAll spare + 1
  | .agg parts => uptoBulkAll parts + 1
  | .iface _ d => uptoBulk d + 1
  | .map entries => uptoBulkEntries entries + 1
  | .held _ => 1
def uptoBulkAll {H : Type} : List (DataW H) → Nat
  | [] => 0
  | d :: r => uptoBulk d + uptoBulkAll r
def uptoBulkEntries {H : Type} : List (Lit × DataW H) → Nat
  | [] => 0
  | x :: r => uptoBulkEntry x + uptoBulkEntries r
def uptoBulkEntry {H : Type} : Lit × DataW H → Nat
  | (.string bytes, d) => bytes.length + uptoBulk d + 1
  | (_, d) => uptoBulk d + 1
 end
def uptoSmall : (H : Type) → List (DataW H) → Bool := fun _ ds => decide (uptoBulkAll ds ≤ 1048576)
def OpenSpec.upto (s : _root_.Go.ChangeSpec) : _root_.Go.OpenSpec := { _root_.Go.OpenSpec.ofChange s with cond := some uptoSmall }

/-- 'switchboardlaw06.CrcExact', WHERE WHAT IT READS IS OF BULK AT MOST 1048576: true; the input reads as it did. -/
def crcExactUptoRow : OpenClaim := { program := "ytgfpkhihdahjlab", sum := "3ea832b1b2d09bc4c0aa2ff52eea50c5c2731109cfa929bc6bdf6d1c9f7df0b2", func := "switchboard/switchboardlaw06.CrcExact", spec := "crcExact", apart := false, narrowed := true }
def CrcExactUptoSaid : Prop := crcExactUptoRow.holds Try.pinned (OpenSpec.upto crcExactSpec)

/-- 'switchboardlaw06.CrcBit', WHERE WHAT IT READS IS OF BULK AT MOST 1048576: true; the input reads as it did. -/
def crcBitUptoRow : OpenClaim := { program := "ytgfpkhihdahjlab", sum := "3ea832b1b2d09bc4c0aa2ff52eea50c5c2731109cfa929bc6bdf6d1c9f7df0b2", func := "switchboard/switchboardlaw06.CrcBit", spec := "crcBit", apart := false, narrowed := true }
def CrcBitUptoSaid : Prop := crcBitUptoRow.holds Try.pinned (OpenSpec.upto crcBitSpec)

/-- 'switchboardlaw06.CrcTwo', WHERE WHAT IT READS IS OF BULK AT MOST 1048576: true; the input reads as it did. -/
def crcTwoUptoRow : OpenClaim := { program := "ytgfpkhihdahjlab", sum := "3ea832b1b2d09bc4c0aa2ff52eea50c5c2731109cfa929bc6bdf6d1c9f7df0b2", func := "switchboard/switchboardlaw06.CrcTwo", spec := "crcTwo", apart := false, narrowed := true }
def CrcTwoUptoSaid : Prop := crcTwoUptoRow.holds Try.pinned (OpenSpec.upto crcTwoSpec)

/-- 'switchboardlaw06.CrcBytes', WHERE WHAT IT READS IS OF BULK AT MOST 1048576: true; the input reads as it did. -/
def crcBytesUptoRow : OpenClaim := { program := "ytgfpkhihdahjlab", sum := "3ea832b1b2d09bc4c0aa2ff52eea50c5c2731109cfa929bc6bdf6d1c9f7df0b2", func := "switchboard/switchboardlaw06.CrcBytes", spec := "crcBytes", apart := false, narrowed := true }
def CrcBytesUptoSaid : Prop := crcBytesUptoRow.holds Try.pinned (OpenSpec.upto crcBytesSpec)

/-- 'switchboardlaw07.WirePuts', WHERE WHAT IT READS IS OF BULK AT MOST 1048576: true; the input reads as it did. -/
def wirePutsUptoRow : OpenClaim := { program := "ytgfpkhihdahjlab", sum := "3ea832b1b2d09bc4c0aa2ff52eea50c5c2731109cfa929bc6bdf6d1c9f7df0b2", func := "switchboard/switchboardlaw07.WirePuts", spec := "wirePuts", apart := false, narrowed := true }
def WirePutsUptoSaid : Prop := wirePutsUptoRow.holds Try.pinned (OpenSpec.upto wirePutsSpec)

/-- 'switchboardlaw07.WireTakes', WHERE WHAT IT READS IS OF BULK AT MOST 1048576: true; the input reads as it did. -/
def wireTakesUptoRow : OpenClaim := { program := "ytgfpkhihdahjlab", sum := "3ea832b1b2d09bc4c0aa2ff52eea50c5c2731109cfa929bc6bdf6d1c9f7df0b2", func := "switchboard/switchboardlaw07.WireTakes", spec := "wireTakes", apart := false, narrowed := true }
def WireTakesUptoSaid : Prop := wireTakesUptoRow.holds Try.pinned (OpenSpec.upto wireTakesSpec)

/-- 'switchboardlaw07.WireBit', WHERE WHAT IT READS IS OF BULK AT MOST 1048576: true; the input reads as it did. -/
def wireBitUptoRow : OpenClaim := { program := "ytgfpkhihdahjlab", sum := "3ea832b1b2d09bc4c0aa2ff52eea50c5c2731109cfa929bc6bdf6d1c9f7df0b2", func := "switchboard/switchboardlaw07.WireBit", spec := "wireBit", apart := false, narrowed := true }
def WireBitUptoSaid : Prop := wireBitUptoRow.holds Try.pinned (OpenSpec.upto wireBitSpec)

/-- 'switchboardlaw07.WireSizes', WHERE WHAT IT READS IS OF BULK AT MOST 1048576: true; the input reads as it did. -/
def wireSizesUptoRow : OpenClaim := { program := "ytgfpkhihdahjlab", sum := "3ea832b1b2d09bc4c0aa2ff52eea50c5c2731109cfa929bc6bdf6d1c9f7df0b2", func := "switchboard/switchboardlaw07.WireSizes", spec := "wireSizes", apart := false, narrowed := true }
def WireSizesUptoSaid : Prop := wireSizesUptoRow.holds Try.pinned (OpenSpec.upto wireSizesSpec)

/-- 'switchboardlaw07.WireUnlike', WHERE WHAT IT READS IS OF BULK AT MOST 1048576: true; the input reads as it did. -/
def wireUnlikeUptoRow : OpenClaim := { program := "ytgfpkhihdahjlab", sum := "3ea832b1b2d09bc4c0aa2ff52eea50c5c2731109cfa929bc6bdf6d1c9f7df0b2", func := "switchboard/switchboardlaw07.WireUnlike", spec := "wireUnlike", apart := false, narrowed := true }
def WireUnlikeUptoSaid : Prop := wireUnlikeUptoRow.holds Try.pinned (OpenSpec.upto wireUnlikeSpec)

/-- 'switchboardlaw07.WireFields', WHERE WHAT IT READS IS OF BULK AT MOST 1048576: true; the input reads as it did. -/
def wireFieldsUptoRow : OpenClaim := { program := "ytgfpkhihdahjlab", sum := "3ea832b1b2d09bc4c0aa2ff52eea50c5c2731109cfa929bc6bdf6d1c9f7df0b2", func := "switchboard/switchboardlaw07.WireFields", spec := "wireFields", apart := false, narrowed := true }
def WireFieldsUptoSaid : Prop := wireFieldsUptoRow.holds Try.pinned (OpenSpec.upto wireFieldsSpec)

/-- 'switchboardlaw16.ChunkExports', WHERE WHAT IT READS IS OF BULK AT MOST 1048576: true; the input reads as it did. -/
def chunkExportsUptoRow : OpenClaim := { program := "ytgfpkhihdahjlab", sum := "3ea832b1b2d09bc4c0aa2ff52eea50c5c2731109cfa929bc6bdf6d1c9f7df0b2", func := "switchboard/switchboardlaw16.ChunkExports", spec := "chunkExports", inPlace := ["internal/abi.NoEscape", "internal/bytealg.MakeNoZero"], unfollowed := true, recurses := true, apart := false, narrowed := true }
def ChunkExportsUptoSaid : Prop := chunkExportsUptoRow.holds Try.pinned (OpenSpec.upto chunkExportsSpec)

/-- 'switchboardlaw16.ChunkImports', WHERE WHAT IT READS IS OF BULK AT MOST 1048576: true; the input reads as it did. -/
def chunkImportsUptoRow : OpenClaim := { program := "ytgfpkhihdahjlab", sum := "3ea832b1b2d09bc4c0aa2ff52eea50c5c2731109cfa929bc6bdf6d1c9f7df0b2", func := "switchboard/switchboardlaw16.ChunkImports", spec := "chunkImports", inPlace := ["internal/abi.NoEscape", "internal/bytealg.MakeNoZero"], unfollowed := true, recurses := true, apart := false, narrowed := true }
def ChunkImportsUptoSaid : Prop := chunkImportsUptoRow.holds Try.pinned (OpenSpec.upto chunkImportsSpec)

end Rows
end Go.Proofs.Ytgfpkhihdahjlab
