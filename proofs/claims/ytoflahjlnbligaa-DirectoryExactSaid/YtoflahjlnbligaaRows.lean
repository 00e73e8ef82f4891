/-
  No cell of these rows narrows 'for every input' (looked for: loops, veiled, ifaces, maps, wideKeys, modest, calm, conditions, laid).
  DERIVED. THE GIVEN ROWS OF THIS SEAT. 12 by the template 'for every input the law returns true; each argument reads behind the call as it read before'; 0 by the template 'total and deterministic' (their statements: YtoflahjlnbligaaTotals.lean).
  GIVEN WITH THE SEED: the statements are not yours to turn. If you find one false, say at which input.
  Laid BY PROGRAM, IN A SANDBOX (cutbox-rows.mjs): the forced cells as the released guide's own fill.sh prints them over the translation 7c8ec8597b1ed414… (all of the seat's roots in one cut). By AI agents, Wed Nov 11 2026. No macro, syntax, notation, axiom, sorry.
-/
import Derived.Test.YtoflahjlnbligaaChecked
import GoSem.Claim
import GoSem.ClaimJoined
import GoSem.ClaimMapViews
import Derived.JoinedTies
import Derived.KernelRfl
namespace Go.Proofs.Ytoflahjlnbligaa
/- THE CELL 'sum', in the pinned program and in every row, IS THE sha256 OF THE DUMP (.gsa) THAT YtoflahjlnbligaaProg.lean LOADS. Nothing in Lean hashes anything: it is a label: what it is worth is what the hold of that sum in a sandbox is worth. -/
noncomputable def Try.pinned : Pinned := { name := "ytoflahjlnbligaa", sum := "7c8ec8597b1ed414a6dfee10d4f89015e8d7af1379a83b22afe3cd58b3aff1df", checked := Try.checked }
namespace Rows
def none {H : Type} : Left H := { results := [], args := [] }

/-- 'leakresponselaw29.CopiesStays': WHATEVER THE INPUT: true; the input reads as it did. -/
def copiesStaysSpec : ChangeSpec := { name := "copiesStays", fn := fun _ => fun
  | [d] => { results := [.lit (.bool true)], args := [d] }
  | _ => none }
def copiesStaysRow : OpenClaim := { program := "ytoflahjlnbligaa", sum := "7c8ec8597b1ed414a6dfee10d4f89015e8d7af1379a83b22afe3cd58b3aff1df", func := "leakresponse/leakresponselaw29.CopiesStays", spec := "copiesStays", apart := false }
def CopiesStaysSaid : Prop := copiesStaysRow.holds Try.pinned (OpenSpec.ofChange copiesStaysSpec)

/-- ITS FALSE NEIGHBOUR: 'it returns false'. Refute it at one input. -/
def copiesStaysWrong : ChangeSpec := { name := "copiesStays", fn := fun _ => fun
  | [d] => { results := [.lit (.bool false)], args := [d] }
  | _ => none }
def CopiesStaysWrongFalsely : Prop := copiesStaysRow.holds Try.pinned (OpenSpec.ofChange copiesStaysWrong)

/-- 'leakresponselaw29.CopiesCut': WHATEVER THE INPUT: true; the input reads as it did. -/
def copiesCutSpec : ChangeSpec := { name := "copiesCut", fn := fun _ => fun
  | [d] => { results := [.lit (.bool true)], args := [d] }
  | _ => none }
def copiesCutRow : OpenClaim := { program := "ytoflahjlnbligaa", sum := "7c8ec8597b1ed414a6dfee10d4f89015e8d7af1379a83b22afe3cd58b3aff1df", func := "leakresponse/leakresponselaw29.CopiesCut", spec := "copiesCut", apart := false }
def CopiesCutSaid : Prop := copiesCutRow.holds Try.pinned (OpenSpec.ofChange copiesCutSpec)

/-- ITS FALSE NEIGHBOUR: 'it returns false'. Refute it at one input. -/
def copiesCutWrong : ChangeSpec := { name := "copiesCut", fn := fun _ => fun
  | [d] => { results := [.lit (.bool false)], args := [d] }
  | _ => none }
def CopiesCutWrongFalsely : Prop := copiesCutRow.holds Try.pinned (OpenSpec.ofChange copiesCutWrong)

/-- 'leakresponselaw29.CopiesCopy': WHATEVER THE INPUT: true; the input reads as it did. -/
def copiesCopySpec : ChangeSpec := { name := "copiesCopy", fn := fun _ => fun
  | [d] => { results := [.lit (.bool true)], args := [d] }
  | _ => none }
def copiesCopyRow : OpenClaim := { program := "ytoflahjlnbligaa", sum := "7c8ec8597b1ed414a6dfee10d4f89015e8d7af1379a83b22afe3cd58b3aff1df", func := "leakresponse/leakresponselaw29.CopiesCopy", spec := "copiesCopy", apart := false }
def CopiesCopySaid : Prop := copiesCopyRow.holds Try.pinned (OpenSpec.ofChange copiesCopySpec)

/-- ITS FALSE NEIGHBOUR: 'it returns false'. Refute it at one input. -/
def copiesCopyWrong : ChangeSpec := { name := "copiesCopy", fn := fun _ => fun
  | [d] => { results := [.lit (.bool false)], args := [d] }
  | _ => none }
def CopiesCopyWrongFalsely : Prop := copiesCopyRow.holds Try.pinned (OpenSpec.ofChange copiesCopyWrong)

/-- 'leakresponselaw29.CopiesExact': WHATEVER THE INPUT: true; the input reads as it did. -/
def copiesExactSpec : ChangeSpec := { name := "copiesExact", fn := fun _ => fun
  | [d1, d2, d3, d4, d5, d6] => { results := [.lit (.bool true)], args := [d1, d2, d3, d4, d5, d6] }
  | _ => none }
def copiesExactRow : OpenClaim := { program := "ytoflahjlnbligaa", sum := "7c8ec8597b1ed414a6dfee10d4f89015e8d7af1379a83b22afe3cd58b3aff1df", func := "leakresponse/leakresponselaw29.CopiesExact", spec := "copiesExact", unfollowed := true, recurses := true, apart := false }
def CopiesExactSaid : Prop := copiesExactRow.holds Try.pinned (OpenSpec.ofChange copiesExactSpec)

/-- ITS FALSE NEIGHBOUR: 'it returns false'. Refute it at one input. -/
def copiesExactWrong : ChangeSpec := { name := "copiesExact", fn := fun _ => fun
  | [d1, d2, d3, d4, d5, d6] => { results := [.lit (.bool false)], args := [d1, d2, d3, d4, d5, d6] }
  | _ => none }
def CopiesExactWrongFalsely : Prop := copiesExactRow.holds Try.pinned (OpenSpec.ofChange copiesExactWrong)

/-- 'leakresponselaw29.CopiesWays': WHATEVER THE INPUT: true; the input reads as it did. -/
def copiesWaysSpec : ChangeSpec := { name := "copiesWays", fn := fun _ => fun
  | [d] => { results := [.lit (.bool true)], args := [d] }
  | _ => none }
def copiesWaysRow : OpenClaim := { program := "ytoflahjlnbligaa", sum := "7c8ec8597b1ed414a6dfee10d4f89015e8d7af1379a83b22afe3cd58b3aff1df", func := "leakresponse/leakresponselaw29.CopiesWays", spec := "copiesWays", unfollowed := true, recurses := true, apart := false }
def CopiesWaysSaid : Prop := copiesWaysRow.holds Try.pinned (OpenSpec.ofChange copiesWaysSpec)

/-- ITS FALSE NEIGHBOUR: 'it returns false'. Refute it at one input. -/
def copiesWaysWrong : ChangeSpec := { name := "copiesWays", fn := fun _ => fun
  | [d] => { results := [.lit (.bool false)], args := [d] }
  | _ => none }
def CopiesWaysWrongFalsely : Prop := copiesWaysRow.holds Try.pinned (OpenSpec.ofChange copiesWaysWrong)

/-- 'leakresponselaw23.DirectoryLeaves': WHATEVER THE INPUT: true; the input reads as it did. -/
def directoryLeavesSpec : ChangeSpec := { name := "directoryLeaves", fn := fun _ => fun
  | [d] => { results := [.lit (.bool true)], args := [d] }
  | _ => none }
def directoryLeavesRow : OpenClaim := { program := "ytoflahjlnbligaa", sum := "7c8ec8597b1ed414a6dfee10d4f89015e8d7af1379a83b22afe3cd58b3aff1df", func := "leakresponse/leakresponselaw23.DirectoryLeaves", spec := "directoryLeaves", inPlace := ["slices.overlaps[int]"], unfollowed := true, recurses := true, apart := false }
def DirectoryLeavesSaid : Prop := directoryLeavesRow.holds Try.pinned (OpenSpec.ofChange directoryLeavesSpec)

/-- ITS FALSE NEIGHBOUR: 'it returns false'. Refute it at one input. -/
def directoryLeavesWrong : ChangeSpec := { name := "directoryLeaves", fn := fun _ => fun
  | [d] => { results := [.lit (.bool false)], args := [d] }
  | _ => none }
def DirectoryLeavesWrongFalsely : Prop := directoryLeavesRow.holds Try.pinned (OpenSpec.ofChange directoryLeavesWrong)

/-- 'leakresponselaw23.DirectoryLater': WHATEVER THE INPUT: true; the input reads as it did. -/
def directoryLaterSpec : ChangeSpec := { name := "directoryLater", fn := fun _ => fun
  | [d] => { results := [.lit (.bool true)], args := [d] }
  | _ => none }
def directoryLaterRow : OpenClaim := { program := "ytoflahjlnbligaa", sum := "7c8ec8597b1ed414a6dfee10d4f89015e8d7af1379a83b22afe3cd58b3aff1df", func := "leakresponse/leakresponselaw23.DirectoryLater", spec := "directoryLater", inPlace := ["slices.overlaps[int]"], unfollowed := true, recurses := true, apart := false }
def DirectoryLaterSaid : Prop := directoryLaterRow.holds Try.pinned (OpenSpec.ofChange directoryLaterSpec)

/-- ITS FALSE NEIGHBOUR: 'it returns false'. Refute it at one input. -/
def directoryLaterWrong : ChangeSpec := { name := "directoryLater", fn := fun _ => fun
  | [d] => { results := [.lit (.bool false)], args := [d] }
  | _ => none }
def DirectoryLaterWrongFalsely : Prop := directoryLaterRow.holds Try.pinned (OpenSpec.ofChange directoryLaterWrong)

/-- 'leakresponselaw23.DirectoryKinds': WHATEVER THE INPUT: true; the input reads as it did. -/
def directoryKindsSpec : ChangeSpec := { name := "directoryKinds", fn := fun _ => fun
  | [d] => { results := [.lit (.bool true)], args := [d] }
  | _ => none }
def directoryKindsRow : OpenClaim := { program := "ytoflahjlnbligaa", sum := "7c8ec8597b1ed414a6dfee10d4f89015e8d7af1379a83b22afe3cd58b3aff1df", func := "leakresponse/leakresponselaw23.DirectoryKinds", spec := "directoryKinds", inPlace := ["slices.overlaps[int]"], unfollowed := true, recurses := true, apart := false }
def DirectoryKindsSaid : Prop := directoryKindsRow.holds Try.pinned (OpenSpec.ofChange directoryKindsSpec)

/-- ITS FALSE NEIGHBOUR: 'it returns false'. Refute it at one input. -/
def directoryKindsWrong : ChangeSpec := { name := "directoryKinds", fn := fun _ => fun
  | [d] => { results := [.lit (.bool false)], args := [d] }
  | _ => none }
def DirectoryKindsWrongFalsely : Prop := directoryKindsRow.holds Try.pinned (OpenSpec.ofChange directoryKindsWrong)

/-- 'leakresponselaw23.DirectoryLeast': WHATEVER THE INPUT: true; the input reads as it did. -/
def directoryLeastSpec : ChangeSpec := { name := "directoryLeast", fn := fun _ => fun
  | [d] => { results := [.lit (.bool true)], args := [d] }
  | _ => none }
def directoryLeastRow : OpenClaim := { program := "ytoflahjlnbligaa", sum := "7c8ec8597b1ed414a6dfee10d4f89015e8d7af1379a83b22afe3cd58b3aff1df", func := "leakresponse/leakresponselaw23.DirectoryLeast", spec := "directoryLeast", inPlace := ["slices.overlaps[int]"], unfollowed := true, recurses := true, apart := false }
def DirectoryLeastSaid : Prop := directoryLeastRow.holds Try.pinned (OpenSpec.ofChange directoryLeastSpec)

/-- ITS FALSE NEIGHBOUR: 'it returns false'. Refute it at one input. -/
def directoryLeastWrong : ChangeSpec := { name := "directoryLeast", fn := fun _ => fun
  | [d] => { results := [.lit (.bool false)], args := [d] }
  | _ => none }
def DirectoryLeastWrongFalsely : Prop := directoryLeastRow.holds Try.pinned (OpenSpec.ofChange directoryLeastWrong)

/-- 'leakresponselaw23.DirectoryUnions': WHATEVER THE INPUT: true; the input reads as it did. -/
def directoryUnionsSpec : ChangeSpec := { name := "directoryUnions", fn := fun _ => fun
  | [d] => { results := [.lit (.bool true)], args := [d] }
  | _ => none }
def directoryUnionsRow : OpenClaim := { program := "ytoflahjlnbligaa", sum := "7c8ec8597b1ed414a6dfee10d4f89015e8d7af1379a83b22afe3cd58b3aff1df", func := "leakresponse/leakresponselaw23.DirectoryUnions", spec := "directoryUnions", inPlace := ["slices.overlaps[int]"], unfollowed := true, recurses := true, apart := false }
def DirectoryUnionsSaid : Prop := directoryUnionsRow.holds Try.pinned (OpenSpec.ofChange directoryUnionsSpec)

/-- ITS FALSE NEIGHBOUR: 'it returns false'. Refute it at one input. -/
def directoryUnionsWrong : ChangeSpec := { name := "directoryUnions", fn := fun _ => fun
  | [d] => { results := [.lit (.bool false)], args := [d] }
  | _ => none }
def DirectoryUnionsWrongFalsely : Prop := directoryUnionsRow.holds Try.pinned (OpenSpec.ofChange directoryUnionsWrong)

/-- 'leakresponselaw23.DirectoryProofs': WHATEVER THE INPUT: true; the input reads as it did. -/
def directoryProofsSpec : ChangeSpec := { name := "directoryProofs", fn := fun _ => fun
  | [d] => { results := [.lit (.bool true)], args := [d] }
  | _ => none }
def directoryProofsRow : OpenClaim := { program := "ytoflahjlnbligaa", sum := "7c8ec8597b1ed414a6dfee10d4f89015e8d7af1379a83b22afe3cd58b3aff1df", func := "leakresponse/leakresponselaw23.DirectoryProofs", spec := "directoryProofs", inPlace := ["slices.overlaps[int]"], unfollowed := true, recurses := true, apart := false }
def DirectoryProofsSaid : Prop := directoryProofsRow.holds Try.pinned (OpenSpec.ofChange directoryProofsSpec)

/-- ITS FALSE NEIGHBOUR: 'it returns false'. Refute it at one input. -/
def directoryProofsWrong : ChangeSpec := { name := "directoryProofs", fn := fun _ => fun
  | [d] => { results := [.lit (.bool false)], args := [d] }
  | _ => none }
def DirectoryProofsWrongFalsely : Prop := directoryProofsRow.holds Try.pinned (OpenSpec.ofChange directoryProofsWrong)

/-- 'leakresponselaw23.DirectoryExact': WHATEVER THE INPUT: true; the input reads as it did. -/
def directoryExactSpec : ChangeSpec := { name := "directoryExact", fn := fun _ => fun
  | [d1, d2, d3, d4, d5, d6] => { results := [.lit (.bool true)], args := [d1, d2, d3, d4, d5, d6] }
  | _ => none }
def directoryExactRow : OpenClaim := { program := "ytoflahjlnbligaa", sum := "7c8ec8597b1ed414a6dfee10d4f89015e8d7af1379a83b22afe3cd58b3aff1df", func := "leakresponse/leakresponselaw23.DirectoryExact", spec := "directoryExact", inPlace := ["slices.overlaps[int]"], unfollowed := true, recurses := true, apart := false }
def DirectoryExactSaid : Prop := directoryExactRow.holds Try.pinned (OpenSpec.ofChange directoryExactSpec)

/-- ITS FALSE NEIGHBOUR: 'it returns false'. Refute it at one input. -/
def directoryExactWrong : ChangeSpec := { name := "directoryExact", fn := fun _ => fun
  | [d1, d2, d3, d4, d5, d6] => { results := [.lit (.bool false)], args := [d1, d2, d3, d4, d5, d6] }
  | _ => none }
def DirectoryExactWrongFalsely : Prop := directoryExactRow.holds Try.pinned (OpenSpec.ofChange directoryExactWrong)

/- THE SECOND FORM. 'bulk': how many values and letters a reading holds, each counted each time it is reached (what is shared counts as often as it is met; a slice's spare places count too). A statement '..UptoSaid' is the law's where the arguments, and the package variables that the reading takes, are together of bulk at most 1048576: NARROWER than '..Said'. Prove '..Said' where nothing that the law and all that it calls make is longer than what came in: it says more and counts as full. Else prove '..UptoSaid'. A law counts once. -/
mutual
def uptoBulk {H : Type} : DataW H → Nat
  | .lit (.string bytes) => bytes.length + 1
  | .lit _ => 1
  | .nil => 1
  | .ptr d => uptoBulk d + 1
  | .slice elems spare => uptoBulkAll elems + uptoBulkAll spare + 1
  | .agg parts => uptoBulkAll parts + 1
  | .iface _ d => uptoBulk d + 1
  | .map entries => uptoBulkEntries entries + 1
  | .held _ => 1
def uptoBulkAll {H : Type} : List (DataW H) → Nat
  | [] => 0
  | d :: r => uptoBulk d + uptoBulkAll r
def uptoBulkEntries {H : Type} : List (Lit × DataW H) → Nat
  | [] => 0
  | x :: r => uptoBulkEntry x + uptoBulkEntries r
def uptoBulkEntry {H : Type} : Lit × DataW H → Nat
  | (.string bytes, d) => bytes.length + uptoBulk d + 1
  | (_, d) => uptoBulk d + 1
 end
def uptoSmall : (H : Type) → List (DataW H) → Bool := fun _ ds => decide (uptoBulkAll ds ≤ 1048576)
def OpenSpec.upto (s : _root_.Go.ChangeSpec) : _root_.Go.OpenSpec := { _root_.Go.OpenSpec.ofChange s with cond := some uptoSmall }

/-- 'leakresponselaw29.CopiesStays', WHERE WHAT IT READS IS OF BULK AT MOST 1048576: true; the input reads as it did. -/
def copiesStaysUptoRow : OpenClaim := { program := "ytoflahjlnbligaa", sum := "7c8ec8597b1ed414a6dfee10d4f89015e8d7af1379a83b22afe3cd58b3aff1df", func := "leakresponse/leakresponselaw29.CopiesStays", spec := "copiesStays", apart := false, narrowed := true }
def CopiesStaysUptoSaid : Prop := copiesStaysUptoRow.holds Try.pinned (OpenSpec.upto copiesStaysSpec)

/-- 'leakresponselaw29.CopiesCut', WHERE WHAT IT READS IS OF BULK AT MOST 1048576: true; the input reads as it did. -/
def copiesCutUptoRow : OpenClaim := { program := "ytoflahjlnbligaa", sum := "7c8ec8597b1ed414a6dfee10d4f89015e8d7af1379a83b22afe3cd58b3aff1df", func := "leakresponse/leakresponselaw29.CopiesCut", spec := "copiesCut", apart := false, narrowed := true }
def CopiesCutUptoSaid : Prop := copiesCutUptoRow.holds Try.pinned (OpenSpec.upto copiesCutSpec)

/-- 'leakresponselaw29.CopiesCopy', WHERE WHAT IT READS IS OF BULK AT MOST 1048576: true; the input reads as it did. -/
def copiesCopyUptoRow : OpenClaim := { program := "ytoflahjlnbligaa", sum := "7c8ec8597b1ed414a6dfee10d4f89015e8d7af1379a83b22afe3cd58b3aff1df", func := "leakresponse/leakresponselaw29.CopiesCopy", spec := "copiesCopy", apart := false, narrowed := true }
def CopiesCopyUptoSaid : Prop := copiesCopyUptoRow.holds Try.pinned (OpenSpec.upto copiesCopySpec)

/-- 'leakresponselaw29.CopiesExact', WHERE WHAT IT READS IS OF BULK AT MOST 1048576: true; the input reads as it did. -/
def copiesExactUptoRow : OpenClaim := { program := "ytoflahjlnbligaa", sum := "7c8ec8597b1ed414a6dfee10d4f89015e8d7af1379a83b22afe3cd58b3aff1df", func := "leakresponse/leakresponselaw29.CopiesExact", spec := "copiesExact", unfollowed := true, recurses := true, apart := false, narrowed := true }
def CopiesExactUptoSaid : Prop := copiesExactUptoRow.holds Try.pinned (OpenSpec.upto copiesExactSpec)

/-- 'leakresponselaw29.CopiesWays', WHERE WHAT IT READS IS OF BULK AT MOST 1048576: true; the input reads as it did. -/
def copiesWaysUptoRow : OpenClaim := { program := "ytoflahjlnbligaa", sum := "7c8ec8597b1ed414a6dfee10d4f89015e8d7af1379a83b22afe3cd58b3aff1df", func := "leakresponse/leakresponselaw29.CopiesWays", spec := "copiesWays", unfollowed := true, recurses := true, apart := false, narrowed := true }
def CopiesWaysUptoSaid : Prop := copiesWaysUptoRow.holds Try.pinned (OpenSpec.upto copiesWaysSpec)

/-- 'leakresponselaw23.DirectoryLeaves', WHERE WHAT IT READS IS OF BULK AT MOST 1048576: true; the input reads as it did. -/
def directoryLeavesUptoRow : OpenClaim := { program := "ytoflahjlnbligaa", sum := "7c8ec8597b1ed414a6dfee10d4f89015e8d7af1379a83b22afe3cd58b3aff1df", func := "leakresponse/leakresponselaw23.DirectoryLeaves", spec := "directoryLeaves", inPlace := ["slices.overlaps[int]"], unfollowed := true, recurses := true, apart := false, narrowed := true }
def DirectoryLeavesUptoSaid : Prop := directoryLeavesUptoRow.holds Try.pinned (OpenSpec.upto directoryLeavesSpec)

/-- 'leakresponselaw23.DirectoryLater', WHERE WHAT IT READS IS OF BULK AT MOST 1048576: true; the input reads as it did. -/
def directoryLaterUptoRow : OpenClaim := { program := "ytoflahjlnbligaa", sum := "7c8ec8597b1ed414a6dfee10d4f89015e8d7af1379a83b22afe3cd58b3aff1df", func := "leakresponse/leakresponselaw23.DirectoryLater", spec := "directoryLater", inPlace := ["slices.overlaps[int]"], unfollowed := true, recurses := true, apart := false, narrowed := true }
def DirectoryLaterUptoSaid : Prop := directoryLaterUptoRow.holds Try.pinned (OpenSpec.upto directoryLaterSpec)

/-- 'leakresponselaw23.DirectoryKinds', WHERE WHAT IT READS IS OF BULK AT MOST 1048576: true; the input reads as it did. -/
def directoryKindsUptoRow : OpenClaim := { program := "ytoflahjlnbligaa", sum := "7c8ec8597b1ed414a6dfee10d4f89015e8d7af1379a83b22afe3cd58b3aff1df", func := "leakresponse/leakresponselaw23.DirectoryKinds", spec := "directoryKinds", inPlace := ["slices.overlaps[int]"], unfollowed := true, recurses := true, apart := false, narrowed := true }
def DirectoryKindsUptoSaid : Prop := directoryKindsUptoRow.holds Try.pinned (OpenSpec.upto directoryKindsSpec)

/-- 'leakresponselaw23.DirectoryLeast', WHERE WHAT IT READS IS OF BULK AT MOST 1048576: true; the input reads as it did. -/
def directoryLeastUptoRow : OpenClaim := { program := "ytoflahjlnbligaa", sum := "7c8ec8597b1ed414a6dfee10d4f89015e8d7af1379a83b22afe3cd58b3aff1df", func := "leakresponse/leakresponselaw23.DirectoryLeast", spec := "directoryLeast", inPlace := ["slices.overlaps[int]"], unfollowed := true, recurses := true, apart := false, narrowed := true }
def DirectoryLeastUptoSaid : Prop := directoryLeastUptoRow.holds Try.pinned (OpenSpec.upto directoryLeastSpec)

/-- 'leakresponselaw23.DirectoryUnions', WHERE WHAT IT READS IS OF BULK AT MOST 1048576: true; the input reads as it did. -/
def directoryUnionsUptoRow : OpenClaim := { program := "ytoflahjlnbligaa", sum := "7c8ec8597b1ed414a6dfee10d4f89015e8d7af1379a83b22afe3cd58b3aff1df", func := "leakresponse/leakresponselaw23.DirectoryUnions", spec := "directoryUnions", inPlace := ["slices.overlaps[int]"], unfollowed := true, recurses := true, apart := false, narrowed := true }
def DirectoryUnionsUptoSaid : Prop := directoryUnionsUptoRow.holds Try.pinned (OpenSpec.upto directoryUnionsSpec)

/-- 'leakresponselaw23.DirectoryProofs', WHERE WHAT IT READS IS OF BULK AT MOST 1048576: true; the input reads as it did. -/
def directoryProofsUptoRow : OpenClaim := { program := "ytoflahjlnbligaa", sum := "7c8ec8597b1ed414a6dfee10d4f89015e8d7af1379a83b22afe3cd58b3aff1df", func := "leakresponse/leakresponselaw23.DirectoryProofs", spec := "directoryProofs", inPlace := ["slices.overlaps[int]"], unfollowed := true, recurses := true, apart := false, narrowed := true }
def DirectoryProofsUptoSaid : Prop := directoryProofsUptoRow.holds Try.pinned (OpenSpec.upto directoryProofsSpec)

/-- 'leakresponselaw23.DirectoryExact', WHERE WHAT IT READS IS OF BULK AT MOST 1048576: true; the input reads as it did. -/
def directoryExactUptoRow : OpenClaim := { program := "ytoflahjlnbligaa", sum := "7c8ec8597b1ed414a6dfee10d4f89015e8d7af1379a83b22afe3cd58b3aff1df", func := "leakresponse/leakresponselaw23.DirectoryExact", spec := "directoryExact", inPlace := ["slices.overlaps[int]"], unfollowed := true, recurses := true, apart := false, narrowed := true }
def DirectoryExactUptoSaid : Prop := directoryExactUptoRow.holds Try.pinned (OpenSpec.upto directoryExactSpec)

end Rows
end Go.Proofs.Ytoflahjlnbligaa
