/-
  No cell of these rows narrows 'for every input' (looked for: loops, veiled, ifaces, maps, wideKeys, modest, calm, conditions, laid).
  DERIVED. THE GIVEN ROWS OF THIS SEAT. 11 by the template 'for every input the law returns true; each argument reads behind the call as it read before'; 0 by the template 'total and deterministic' (their statements: YtbnmcdnkeipdhaaTotals.lean).
  GIVEN WITH THE SEED: the statements are not yours to turn. If you find one false, say at which input.
  Laid BY PROGRAM, IN A SANDBOX (cutbox-rows.mjs): the forced cells as the released guide's own fill.sh prints them over the translation c00656a8fbe1b45b… (all of the seat's roots in one cut). By AI agents, Wed Nov 11 2026. No macro, syntax, notation, axiom, sorry.
-/
import Derived.Test.YtbnmcdnkeipdhaaChecked
import GoSem.Claim
import GoSem.ClaimJoined
import GoSem.ClaimMapViews
import Derived.JoinedTies
import Derived.KernelRfl
namespace Go.Proofs.Ytbnmcdnkeipdhaa
/- THE CELL 'sum', in the pinned program and in every row, IS THE sha256 OF THE DUMP (.gsa) THAT YtbnmcdnkeipdhaaProg.lean LOADS. Nothing in Lean hashes anything: it is a label: what it is worth is what the hold of that sum in a sandbox is worth. -/
noncomputable def Try.pinned : Pinned := { name := "ytbnmcdnkeipdhaa", sum := "c00656a8fbe1b45b795bfa3b3f16a144512d840d67bfdafd8ce9598942582b80", checked := Try.checked }
namespace Rows
def none {H : Type} : Left H := { results := [], args := [] }

/-- 'leakresponselaw12.DeltaMakes': WHATEVER THE INPUT: true; the input reads as it did. -/
def deltaMakesSpec : ChangeSpec := { name := "deltaMakes", fn := fun _ => fun
  | [d1, d2, d3] => { results := [.lit (.bool true)], args := [d1, d2, d3] }
  | _ => none }
def deltaMakesRow : OpenClaim := { program := "ytbnmcdnkeipdhaa", sum := "c00656a8fbe1b45b795bfa3b3f16a144512d840d67bfdafd8ce9598942582b80", func := "leakresponse/leakresponselaw12.DeltaMakes", spec := "deltaMakes", unfollowed := true, recurses := true, apart := false }
def DeltaMakesSaid : Prop := deltaMakesRow.holds Try.pinned (OpenSpec.ofChange deltaMakesSpec)

/-- ITS FALSE NEIGHBOUR: 'it returns false'. Refute it at one input. -/
def deltaMakesWrong : ChangeSpec := { name := "deltaMakes", fn := fun _ => fun
  | [d1, d2, d3] => { results := [.lit (.bool false)], args := [d1, d2, d3] }
  | _ => none }
def DeltaMakesWrongFalsely : Prop := deltaMakesRow.holds Try.pinned (OpenSpec.ofChange deltaMakesWrong)

/-- 'leakresponselaw12.DeltaChains': WHATEVER THE INPUT: true; the input reads as it did. -/
def deltaChainsSpec : ChangeSpec := { name := "deltaChains", fn := fun _ => fun
  | [d] => { results := [.lit (.bool true)], args := [d] }
  | _ => none }
def deltaChainsRow : OpenClaim := { program := "ytbnmcdnkeipdhaa", sum := "c00656a8fbe1b45b795bfa3b3f16a144512d840d67bfdafd8ce9598942582b80", func := "leakresponse/leakresponselaw12.DeltaChains", spec := "deltaChains", unfollowed := true, recurses := true, apart := false }
def DeltaChainsSaid : Prop := deltaChainsRow.holds Try.pinned (OpenSpec.ofChange deltaChainsSpec)

/-- ITS FALSE NEIGHBOUR: 'it returns false'. Refute it at one input. -/
def deltaChainsWrong : ChangeSpec := { name := "deltaChains", fn := fun _ => fun
  | [d] => { results := [.lit (.bool false)], args := [d] }
  | _ => none }
def DeltaChainsWrongFalsely : Prop := deltaChainsRow.holds Try.pinned (OpenSpec.ofChange deltaChainsWrong)

/-- 'leakresponselaw12.DeltaFormats': WHATEVER THE INPUT: true; the input reads as it did. -/
def deltaFormatsSpec : ChangeSpec := { name := "deltaFormats", fn := fun _ => fun
  | [d1, d2] => { results := [.lit (.bool true)], args := [d1, d2] }
  | _ => none }
def deltaFormatsRow : OpenClaim := { program := "ytbnmcdnkeipdhaa", sum := "c00656a8fbe1b45b795bfa3b3f16a144512d840d67bfdafd8ce9598942582b80", func := "leakresponse/leakresponselaw12.DeltaFormats", spec := "deltaFormats", unfollowed := true, recurses := true, apart := false }
def DeltaFormatsSaid : Prop := deltaFormatsRow.holds Try.pinned (OpenSpec.ofChange deltaFormatsSpec)

/-- ITS FALSE NEIGHBOUR: 'it returns false'. Refute it at one input. -/
def deltaFormatsWrong : ChangeSpec := { name := "deltaFormats", fn := fun _ => fun
  | [d1, d2] => { results := [.lit (.bool false)], args := [d1, d2] }
  | _ => none }
def DeltaFormatsWrongFalsely : Prop := deltaFormatsRow.holds Try.pinned (OpenSpec.ofChange deltaFormatsWrong)

/-- 'leakresponselaw12.DeltaParses': WHATEVER THE INPUT: true; the input reads as it did. -/
def deltaParsesSpec : ChangeSpec := { name := "deltaParses", fn := fun _ => fun
  | [d1, d2, d3, d4] => { results := [.lit (.bool true)], args := [d1, d2, d3, d4] }
  | _ => none }
def deltaParsesRow : OpenClaim := { program := "ytbnmcdnkeipdhaa", sum := "c00656a8fbe1b45b795bfa3b3f16a144512d840d67bfdafd8ce9598942582b80", func := "leakresponse/leakresponselaw12.DeltaParses", spec := "deltaParses", unfollowed := true, recurses := true, apart := false }
def DeltaParsesSaid : Prop := deltaParsesRow.holds Try.pinned (OpenSpec.ofChange deltaParsesSpec)

/-- ITS FALSE NEIGHBOUR: 'it returns false'. Refute it at one input. -/
def deltaParsesWrong : ChangeSpec := { name := "deltaParses", fn := fun _ => fun
  | [d1, d2, d3, d4] => { results := [.lit (.bool false)], args := [d1, d2, d3, d4] }
  | _ => none }
def DeltaParsesWrongFalsely : Prop := deltaParsesRow.holds Try.pinned (OpenSpec.ofChange deltaParsesWrong)

/-- 'leakresponselaw12.DeltaBack': WHATEVER THE INPUT: true; the input reads as it did. -/
def deltaBackSpec : ChangeSpec := { name := "deltaBack", fn := fun _ => fun
  | [d] => { results := [.lit (.bool true)], args := [d] }
  | _ => none }
def deltaBackRow : OpenClaim := { program := "ytbnmcdnkeipdhaa", sum := "c00656a8fbe1b45b795bfa3b3f16a144512d840d67bfdafd8ce9598942582b80", func := "leakresponse/leakresponselaw12.DeltaBack", spec := "deltaBack", unfollowed := true, recurses := true, apart := false }
def DeltaBackSaid : Prop := deltaBackRow.holds Try.pinned (OpenSpec.ofChange deltaBackSpec)

/-- ITS FALSE NEIGHBOUR: 'it returns false'. Refute it at one input. -/
def deltaBackWrong : ChangeSpec := { name := "deltaBack", fn := fun _ => fun
  | [d] => { results := [.lit (.bool false)], args := [d] }
  | _ => none }
def DeltaBackWrongFalsely : Prop := deltaBackRow.holds Try.pinned (OpenSpec.ofChange deltaBackWrong)

/-- 'leakresponselaw11.ArchiveFormats': WHATEVER THE INPUT: true; the input reads as it did. -/
def archiveFormatsSpec : ChangeSpec := { name := "archiveFormats", fn := fun _ => fun
  | [d1, d2] => { results := [.lit (.bool true)], args := [d1, d2] }
  | _ => none }
def archiveFormatsRow : OpenClaim := { program := "ytbnmcdnkeipdhaa", sum := "c00656a8fbe1b45b795bfa3b3f16a144512d840d67bfdafd8ce9598942582b80", func := "leakresponse/leakresponselaw11.ArchiveFormats", spec := "archiveFormats", unfollowed := true, recurses := true, apart := false }
def ArchiveFormatsSaid : Prop := archiveFormatsRow.holds Try.pinned (OpenSpec.ofChange archiveFormatsSpec)

/-- ITS FALSE NEIGHBOUR: 'it returns false'. Refute it at one input. -/
def archiveFormatsWrong : ChangeSpec := { name := "archiveFormats", fn := fun _ => fun
  | [d1, d2] => { results := [.lit (.bool false)], args := [d1, d2] }
  | _ => none }
def ArchiveFormatsWrongFalsely : Prop := archiveFormatsRow.holds Try.pinned (OpenSpec.ofChange archiveFormatsWrong)

/-- 'leakresponselaw11.ArchiveBack': WHATEVER THE INPUT: true; the input reads as it did. -/
def archiveBackSpec : ChangeSpec := { name := "archiveBack", fn := fun _ => fun
  | [d1, d2] => { results := [.lit (.bool true)], args := [d1, d2] }
  | _ => none }
def archiveBackRow : OpenClaim := { program := "ytbnmcdnkeipdhaa", sum := "c00656a8fbe1b45b795bfa3b3f16a144512d840d67bfdafd8ce9598942582b80", func := "leakresponse/leakresponselaw11.ArchiveBack", spec := "archiveBack", unfollowed := true, recurses := true, apart := false }
def ArchiveBackSaid : Prop := archiveBackRow.holds Try.pinned (OpenSpec.ofChange archiveBackSpec)

/-- ITS FALSE NEIGHBOUR: 'it returns false'. Refute it at one input. -/
def archiveBackWrong : ChangeSpec := { name := "archiveBack", fn := fun _ => fun
  | [d1, d2] => { results := [.lit (.bool false)], args := [d1, d2] }
  | _ => none }
def ArchiveBackWrongFalsely : Prop := archiveBackRow.holds Try.pinned (OpenSpec.ofChange archiveBackWrong)

/-- 'leakresponselaw11.ArchiveShort': WHATEVER THE INPUT: true; the input reads as it did. -/
def archiveShortSpec : ChangeSpec := { name := "archiveShort", fn := fun _ => fun
  | [d] => { results := [.lit (.bool true)], args := [d] }
  | _ => none }
def archiveShortRow : OpenClaim := { program := "ytbnmcdnkeipdhaa", sum := "c00656a8fbe1b45b795bfa3b3f16a144512d840d67bfdafd8ce9598942582b80", func := "leakresponse/leakresponselaw11.ArchiveShort", spec := "archiveShort", unfollowed := true, recurses := true, apart := false }
def ArchiveShortSaid : Prop := archiveShortRow.holds Try.pinned (OpenSpec.ofChange archiveShortSpec)

/-- ITS FALSE NEIGHBOUR: 'it returns false'. Refute it at one input. -/
def archiveShortWrong : ChangeSpec := { name := "archiveShort", fn := fun _ => fun
  | [d] => { results := [.lit (.bool false)], args := [d] }
  | _ => none }
def ArchiveShortWrongFalsely : Prop := archiveShortRow.holds Try.pinned (OpenSpec.ofChange archiveShortWrong)

/-- 'leakresponselaw11.ArchiveForms': WHATEVER THE INPUT: true; the input reads as it did. -/
def archiveFormsSpec : ChangeSpec := { name := "archiveForms", fn := fun _ => fun
  | [d1, d2] => { results := [.lit (.bool true)], args := [d1, d2] }
  | _ => none }
def archiveFormsRow : OpenClaim := { program := "ytbnmcdnkeipdhaa", sum := "c00656a8fbe1b45b795bfa3b3f16a144512d840d67bfdafd8ce9598942582b80", func := "leakresponse/leakresponselaw11.ArchiveForms", spec := "archiveForms", unfollowed := true, recurses := true, apart := false }
def ArchiveFormsSaid : Prop := archiveFormsRow.holds Try.pinned (OpenSpec.ofChange archiveFormsSpec)

/-- ITS FALSE NEIGHBOUR: 'it returns false'. Refute it at one input. -/
def archiveFormsWrong : ChangeSpec := { name := "archiveForms", fn := fun _ => fun
  | [d1, d2] => { results := [.lit (.bool false)], args := [d1, d2] }
  | _ => none }
def ArchiveFormsWrongFalsely : Prop := archiveFormsRow.holds Try.pinned (OpenSpec.ofChange archiveFormsWrong)

/-- 'leakresponselaw11.ArchiveWalks': WHATEVER THE INPUT: true; the input reads as it did. -/
def archiveWalksSpec : ChangeSpec := { name := "archiveWalks", fn := fun _ => fun
  | [d1, d2] => { results := [.lit (.bool true)], args := [d1, d2] }
  | _ => none }
def archiveWalksRow : OpenClaim := { program := "ytbnmcdnkeipdhaa", sum := "c00656a8fbe1b45b795bfa3b3f16a144512d840d67bfdafd8ce9598942582b80", func := "leakresponse/leakresponselaw11.ArchiveWalks", spec := "archiveWalks", inPlace := ["internal/abi.NoEscape", "internal/bytealg.MakeNoZero"], unfollowed := true, recurses := true, apart := false }
def ArchiveWalksSaid : Prop := archiveWalksRow.holds Try.pinned (OpenSpec.ofChange archiveWalksSpec)

/-- ITS FALSE NEIGHBOUR: 'it returns false'. Refute it at one input. -/
def archiveWalksWrong : ChangeSpec := { name := "archiveWalks", fn := fun _ => fun
  | [d1, d2] => { results := [.lit (.bool false)], args := [d1, d2] }
  | _ => none }
def ArchiveWalksWrongFalsely : Prop := archiveWalksRow.holds Try.pinned (OpenSpec.ofChange archiveWalksWrong)

/-- 'leakresponselaw11.ArchiveReads': WHATEVER THE INPUT: true; the input reads as it did. -/
def archiveReadsSpec : ChangeSpec := { name := "archiveReads", fn := fun _ => fun
  | [d1, d2, d3, d4] => { results := [.lit (.bool true)], args := [d1, d2, d3, d4] }
  | _ => none }
def archiveReadsRow : OpenClaim := { program := "ytbnmcdnkeipdhaa", sum := "c00656a8fbe1b45b795bfa3b3f16a144512d840d67bfdafd8ce9598942582b80", func := "leakresponse/leakresponselaw11.ArchiveReads", spec := "archiveReads", inPlace := ["internal/abi.NoEscape", "internal/bytealg.MakeNoZero"], unfollowed := true, recurses := true, apart := false }
def ArchiveReadsSaid : Prop := archiveReadsRow.holds Try.pinned (OpenSpec.ofChange archiveReadsSpec)

/-- ITS FALSE NEIGHBOUR: 'it returns false'. Refute it at one input. -/
def archiveReadsWrong : ChangeSpec := { name := "archiveReads", fn := fun _ => fun
  | [d1, d2, d3, d4] => { results := [.lit (.bool false)], args := [d1, d2, d3, d4] }
  | _ => none }
def ArchiveReadsWrongFalsely : Prop := archiveReadsRow.holds Try.pinned (OpenSpec.ofChange archiveReadsWrong)

/- THE SECOND FORM. 'bulk': how many values and letters a reading holds, each counted each time it is reached (what is shared counts as often as it is met; a slice's spare places count too). A statement '..UptoSaid' is the law's where the arguments, and the package variables that the reading takes, are together of bulk at most 1048576: NARROWER than '..Said'. Prove '..Said' where nothing that the law and all that it calls make is longer than what came in: it says more and counts as full. Else prove '..UptoSaid'. A law counts once. -/
mutual
def uptoBulk {H : Type} : DataW H → Nat
  | .lit (.string bytes) => bytes.length + 1
  | .lit _ => 1
  | .nil => 1
  | .ptr d => uptoBulk d + 1
  | .slice elems spare => uptoBulkAll elems + uptoBulkAll spare + 1
  | .agg parts => uptoBulkAll parts + 1
  | .iface _ d => uptoBulk d + 1
  | .map entries => uptoBulkEntries entries + 1
  | .held _ => 1
def uptoBulkAll {H : Type} : List (DataW H) → Nat
  | [] => 0
  | d :: r => uptoBulk d + uptoBulkAll r
def uptoBulkEntries {H : Type} : List (Lit × DataW H) → Nat
  | [] => 0
  | x :: r => uptoBulkEntry x + uptoBulkEntries r
def uptoBulkEntry {H : Type} : Lit × DataW H → Nat
  | (.string bytes, d) => bytes.length + uptoBulk d + 1
  | (_, d) => uptoBulk d + 1
 end
def uptoSmall : (H : Type) → List (DataW H) → Bool := fun _ ds => decide (uptoBulkAll ds ≤ 1048576)
def OpenSpec.upto (s : _root_.Go.ChangeSpec) : _root_.Go.OpenSpec := { _root_.Go.OpenSpec.ofChange s with cond := some uptoSmall }

/-- 'leakresponselaw12.DeltaMakes', WHERE WHAT IT READS IS OF BULK AT MOST 1048576: true; the input reads as it did. -/
def deltaMakesUptoRow : OpenClaim := { program := "ytbnmcdnkeipdhaa", sum := "c00656a8fbe1b45b795bfa3b3f16a144512d840d67bfdafd8ce9598942582b80", func := "leakresponse/leakresponselaw12.DeltaMakes", spec := "deltaMakes", unfollowed := true, recurses := true, apart := false, narrowed := true }
def DeltaMakesUptoSaid : Prop := deltaMakesUptoRow.holds Try.pinned (OpenSpec.upto deltaMakesSpec)

/-- 'leakresponselaw12.DeltaChains', WHERE WHAT IT READS IS OF BULK AT MOST 1048576: true; the input reads as it did. -/
def deltaChainsUptoRow : OpenClaim := { program := "ytbnmcdnkeipdhaa", sum := "c00656a8fbe1b45b795bfa3b3f16a144512d840d67bfdafd8ce9598942582b80", func := "leakresponse/leakresponselaw12.DeltaChains", spec := "deltaChains", unfollowed := true, recurses := true, apart := false, narrowed := true }
def DeltaChainsUptoSaid : Prop := deltaChainsUptoRow.holds Try.pinned (OpenSpec.upto deltaChainsSpec)

/-- 'leakresponselaw12.DeltaFormats', WHERE WHAT IT READS IS OF BULK AT MOST 1048576: true; the input reads as it did. -/
def deltaFormatsUptoRow : OpenClaim := { program := "ytbnmcdnkeipdhaa", sum := "c00656a8fbe1b45b795bfa3b3f16a144512d840d67bfdafd8ce9598942582b80", func := "leakresponse/leakresponselaw12.DeltaFormats", spec := "deltaFormats", unfollowed := true, recurses := true, apart := false, narrowed := true }
def DeltaFormatsUptoSaid : Prop := deltaFormatsUptoRow.holds Try.pinned (OpenSpec.upto deltaFormatsSpec)

/-- 'leakresponselaw12.DeltaParses', WHERE WHAT IT READS IS OF BULK AT MOST 1048576: true; the input reads as it did. -/
def deltaParsesUptoRow : OpenClaim := { program := "ytbnmcdnkeipdhaa", sum := "c00656a8fbe1b45b795bfa3b3f16a144512d840d67bfdafd8ce9598942582b80", func := "leakresponse/leakresponselaw12.DeltaParses", spec := "deltaParses", unfollowed := true, recurses := true, apart := false, narrowed := true }
def DeltaParsesUptoSaid : Prop := deltaParsesUptoRow.holds Try.pinned (OpenSpec.upto deltaParsesSpec)

/-- 'leakresponselaw12.DeltaBack', WHERE WHAT IT READS IS OF BULK AT MOST 1048576: true; the input reads as it did. -/
def deltaBackUptoRow : OpenClaim := { program := "ytbnmcdnkeipdhaa", sum := "c00656a8fbe1b45b795bfa3b3f16a144512d840d67bfdafd8ce9598942582b80", func := "leakresponse/leakresponselaw12.DeltaBack", spec := "deltaBack", unfollowed := true, recurses := true, apart := false, narrowed := true }
def DeltaBackUptoSaid : Prop := deltaBackUptoRow.holds Try.pinned (OpenSpec.upto deltaBackSpec)

/-- 'leakresponselaw11.ArchiveFormats', WHERE WHAT IT READS IS OF BULK AT MOST 1048576: true; the input reads as it did. -/
def archiveFormatsUptoRow : OpenClaim := { program := "ytbnmcdnkeipdhaa", sum := "c00656a8fbe1b45b795bfa3b3f16a144512d840d67bfdafd8ce9598942582b80", func := "leakresponse/leakresponselaw11.ArchiveFormats", spec := "archiveFormats", unfollowed := true, recurses := true, apart := false, narrowed := true }
def ArchiveFormatsUptoSaid : Prop := archiveFormatsUptoRow.holds Try.pinned (OpenSpec.upto archiveFormatsSpec)

/-- 'leakresponselaw11.ArchiveBack', WHERE WHAT IT READS IS OF BULK AT MOST 1048576: true; the input reads as it did. -/
def archiveBackUptoRow : OpenClaim := { program := "ytbnmcdnkeipdhaa", sum := "c00656a8fbe1b45b795bfa3b3f16a144512d840d67bfdafd8ce9598942582b80", func := "leakresponse/leakresponselaw11.ArchiveBack", spec := "archiveBack", unfollowed := true, recurses := true, apart := false, narrowed := true }
def ArchiveBackUptoSaid : Prop := archiveBackUptoRow.holds Try.pinned (OpenSpec.upto archiveBackSpec)

/-- 'leakresponselaw11.ArchiveShort', WHERE WHAT IT READS IS OF BULK AT MOST 1048576: true; the input reads as it did. -/
def archiveShortUptoRow : OpenClaim := { program := "ytbnmcdnkeipdhaa", sum := "c00656a8fbe1b45b795bfa3b3f16a144512d840d67bfdafd8ce9598942582b80", func := "leakresponse/leakresponselaw11.ArchiveShort", spec := "archiveShort", unfollowed := true, recurses := true, apart := false, narrowed := true }
def ArchiveShortUptoSaid : Prop := archiveShortUptoRow.holds Try.pinned (OpenSpec.upto archiveShortSpec)

/-- 'leakresponselaw11.ArchiveForms', WHERE WHAT IT READS IS OF BULK AT MOST 1048576: true; the input reads as it did. -/
def archiveFormsUptoRow : OpenClaim := { program := "ytbnmcdnkeipdhaa", sum := "c00656a8fbe1b45b795bfa3b3f16a144512d840d67bfdafd8ce9598942582b80", func := "leakresponse/leakresponselaw11.ArchiveForms", spec := "archiveForms", unfollowed := true, recurses := true, apart := false, narrowed := true }
def ArchiveFormsUptoSaid : Prop := archiveFormsUptoRow.holds Try.pinned (OpenSpec.upto archiveFormsSpec)

/-- 'leakresponselaw11.ArchiveWalks', WHERE WHAT IT READS IS OF BULK AT MOST 1048576: true; the input reads as it did. -/
def archiveWalksUptoRow : OpenClaim := { program := "ytbnmcdnkeipdhaa", sum := "c00656a8fbe1b45b795bfa3b3f16a144512d840d67bfdafd8ce9598942582b80", func := "leakresponse/leakresponselaw11.ArchiveWalks", spec := "archiveWalks", inPlace := ["internal/abi.NoEscape", "internal/bytealg.MakeNoZero"], unfollowed := true, recurses := true, apart := false, narrowed := true }
def ArchiveWalksUptoSaid : Prop := archiveWalksUptoRow.holds Try.pinned (OpenSpec.upto archiveWalksSpec)

/-- 'leakresponselaw11.ArchiveReads', WHERE WHAT IT READS IS OF BULK AT MOST 1048576: true; the input reads as it did. -/
def archiveReadsUptoRow : OpenClaim := { program := "ytbnmcdnkeipdhaa", sum := "c00656a8fbe1b45b795bfa3b3f16a144512d840d67bfdafd8ce9598942582b80", func := "leakresponse/leakresponselaw11.ArchiveReads", spec := "archiveReads", inPlace := ["internal/abi.NoEscape", "internal/bytealg.MakeNoZero"], unfollowed := true, recurses := true, apart := false, narrowed := true }
def ArchiveReadsUptoSaid : Prop := archiveReadsUptoRow.holds Try.pinned (OpenSpec.upto archiveReadsSpec)

end Rows
end Go.Proofs.Ytbnmcdnkeipdhaa
