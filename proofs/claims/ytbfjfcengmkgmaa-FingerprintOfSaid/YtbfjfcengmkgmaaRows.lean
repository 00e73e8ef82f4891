/-
  No cell of these rows narrows 'for every input' (looked for: loops, veiled, ifaces, maps, wideKeys, modest, calm, conditions, laid).
  DERIVED. THE GIVEN ROWS OF THIS SEAT. 5 by the template 'for every input the law returns true; each argument reads behind the call as it read before'; 0 by the template 'total and deterministic' (their statements: YtbfjfcengmkgmaaTotals.lean).
  GIVEN WITH THE SEED: the statements are not yours to turn. If you find one false, say at which input.
  Laid BY PROGRAM, IN A SANDBOX (cutbox-rows.mjs): the forced cells as the released guide's own fill.sh prints them over the translation e527ae9552949333… (all of the seat's roots in one cut). By AI agents, Wed Nov 11 2026. No macro, syntax, notation, axiom, sorry.
-/
import Derived.Test.YtbfjfcengmkgmaaChecked
import GoSem.Claim
import GoSem.ClaimJoined
import GoSem.ClaimMapViews
import Derived.JoinedTies
import Derived.KernelRfl
namespace Go.Proofs.Ytbfjfcengmkgmaa
/- THE CELL 'sum', in the pinned program and in every row, IS THE sha256 OF THE DUMP (.gsa) THAT YtbfjfcengmkgmaaProg.lean LOADS. Nothing in Lean hashes anything: it is a label: what it is worth is what the hold of that sum in a sandbox is worth. -/
noncomputable def Try.pinned : Pinned := { name := "ytbfjfcengmkgmaa", sum := "e527ae95529493337d66d2ced6a0e951f6a7eadd5abf0c4c7256be64520b3fd2", checked := Try.checked }
namespace Rows
def none {H : Type} : Left H := { results := [], args := [] }

/-- 'leakresponselaw04.FingerprintOf': WHATEVER THE INPUT: true; the input reads as it did. -/
def fingerprintOfSpec : ChangeSpec := { name := "fingerprintOf", fn := fun _ => fun
  | [d1, d2, d3, d4] => { results := [.lit (.bool true)], args := [d1, d2, d3, d4] }
  | _ => none }
def fingerprintOfRow : OpenClaim := { program := "ytbfjfcengmkgmaa", sum := "e527ae95529493337d66d2ced6a0e951f6a7eadd5abf0c4c7256be64520b3fd2", func := "leakresponse/leakresponselaw04.FingerprintOf", spec := "fingerprintOf", unfollowed := true, recurses := true, apart := false }
def FingerprintOfSaid : Prop := fingerprintOfRow.holds Try.pinned (OpenSpec.ofChange fingerprintOfSpec)

/-- ITS FALSE NEIGHBOUR: 'it returns false'. Refute it at one input. -/
def fingerprintOfWrong : ChangeSpec := { name := "fingerprintOf", fn := fun _ => fun
  | [d1, d2, d3, d4] => { results := [.lit (.bool false)], args := [d1, d2, d3, d4] }
  | _ => none }
def FingerprintOfWrongFalsely : Prop := fingerprintOfRow.holds Try.pinned (OpenSpec.ofChange fingerprintOfWrong)

/-- 'leakresponselaw04.FingerprintMixes': WHATEVER THE INPUT: true; the input reads as it did. -/
def fingerprintMixesSpec : ChangeSpec := { name := "fingerprintMixes", fn := fun _ => fun
  | [d1, d2, d3] => { results := [.lit (.bool true)], args := [d1, d2, d3] }
  | _ => none }
def fingerprintMixesRow : OpenClaim := { program := "ytbfjfcengmkgmaa", sum := "e527ae95529493337d66d2ced6a0e951f6a7eadd5abf0c4c7256be64520b3fd2", func := "leakresponse/leakresponselaw04.FingerprintMixes", spec := "fingerprintMixes", unfollowed := true, recurses := true, apart := false }
def FingerprintMixesSaid : Prop := fingerprintMixesRow.holds Try.pinned (OpenSpec.ofChange fingerprintMixesSpec)

/-- ITS FALSE NEIGHBOUR: 'it returns false'. Refute it at one input. -/
def fingerprintMixesWrong : ChangeSpec := { name := "fingerprintMixes", fn := fun _ => fun
  | [d1, d2, d3] => { results := [.lit (.bool false)], args := [d1, d2, d3] }
  | _ => none }
def FingerprintMixesWrongFalsely : Prop := fingerprintMixesRow.holds Try.pinned (OpenSpec.ofChange fingerprintMixesWrong)

/-- 'leakresponselaw04.FingerprintLength': WHATEVER THE INPUT: true; the input reads as it did. -/
def fingerprintLengthSpec : ChangeSpec := { name := "fingerprintLength", fn := fun _ => fun
  | [d1, d2, d3] => { results := [.lit (.bool true)], args := [d1, d2, d3] }
  | _ => none }
def fingerprintLengthRow : OpenClaim := { program := "ytbfjfcengmkgmaa", sum := "e527ae95529493337d66d2ced6a0e951f6a7eadd5abf0c4c7256be64520b3fd2", func := "leakresponse/leakresponselaw04.FingerprintLength", spec := "fingerprintLength", unfollowed := true, recurses := true, apart := false }
def FingerprintLengthSaid : Prop := fingerprintLengthRow.holds Try.pinned (OpenSpec.ofChange fingerprintLengthSpec)

/-- ITS FALSE NEIGHBOUR: 'it returns false'. Refute it at one input. -/
def fingerprintLengthWrong : ChangeSpec := { name := "fingerprintLength", fn := fun _ => fun
  | [d1, d2, d3] => { results := [.lit (.bool false)], args := [d1, d2, d3] }
  | _ => none }
def FingerprintLengthWrongFalsely : Prop := fingerprintLengthRow.holds Try.pinned (OpenSpec.ofChange fingerprintLengthWrong)

/-- 'leakresponselaw04.FingerprintSame': WHATEVER THE INPUT: true; the input reads as it did. -/
def fingerprintSameSpec : ChangeSpec := { name := "fingerprintSame", fn := fun _ => fun
  | [d1, d2, d3, d4, d5] => { results := [.lit (.bool true)], args := [d1, d2, d3, d4, d5] }
  | _ => none }
def fingerprintSameRow : OpenClaim := { program := "ytbfjfcengmkgmaa", sum := "e527ae95529493337d66d2ced6a0e951f6a7eadd5abf0c4c7256be64520b3fd2", func := "leakresponse/leakresponselaw04.FingerprintSame", spec := "fingerprintSame", unfollowed := true, recurses := true, apart := false }
def FingerprintSameSaid : Prop := fingerprintSameRow.holds Try.pinned (OpenSpec.ofChange fingerprintSameSpec)

/-- ITS FALSE NEIGHBOUR: 'it returns false'. Refute it at one input. -/
def fingerprintSameWrong : ChangeSpec := { name := "fingerprintSame", fn := fun _ => fun
  | [d1, d2, d3, d4, d5] => { results := [.lit (.bool false)], args := [d1, d2, d3, d4, d5] }
  | _ => none }
def FingerprintSameWrongFalsely : Prop := fingerprintSameRow.holds Try.pinned (OpenSpec.ofChange fingerprintSameWrong)

/-- 'leakresponselaw04.FingerprintApart': WHATEVER THE INPUT: true; the input reads as it did. -/
def fingerprintApartSpec : ChangeSpec := { name := "fingerprintApart", fn := fun _ => fun
  | [d1, d2, d3, d4] => { results := [.lit (.bool true)], args := [d1, d2, d3, d4] }
  | _ => none }
def fingerprintApartRow : OpenClaim := { program := "ytbfjfcengmkgmaa", sum := "e527ae95529493337d66d2ced6a0e951f6a7eadd5abf0c4c7256be64520b3fd2", func := "leakresponse/leakresponselaw04.FingerprintApart", spec := "fingerprintApart", unfollowed := true, recurses := true, apart := false }
def FingerprintApartSaid : Prop := fingerprintApartRow.holds Try.pinned (OpenSpec.ofChange fingerprintApartSpec)

/-- ITS FALSE NEIGHBOUR: 'it returns false'. Refute it at one input. -/
def fingerprintApartWrong : ChangeSpec := { name := "fingerprintApart", fn := fun _ => fun
  | [d1, d2, d3, d4] => { results := [.lit (.bool false)], args := [d1, d2, d3, d4] }
  | _ => none }
def FingerprintApartWrongFalsely : Prop := fingerprintApartRow.holds Try.pinned (OpenSpec.ofChange fingerprintApartWrong)

/- THE SECOND FORM. 'bulk': how many values and letters a reading holds, each counted each time it is reached (what is shared counts as often as it is met; a slice's spare places count too). A statement '..UptoSaid' is the law's where the arguments, and the package variables that the reading takes, are together of bulk at most 1048576: NARROWER than '..Said'. Prove '..Said' where nothing that the law and all that it calls make is longer than what came in: it says more and counts as full. Else prove '..UptoSaid'. A law counts once. -/
mutual
def uptoBulk {H : Type} : DataW H → Nat
  | .lit (.string bytes) => bytes.length + 1
  | .lit _ => 1
  | .nil => 1
  | .ptr d => uptoBulk d + 1
  | .slice elems spare => uptoBulkAll elems + uptoBulkAll spare + 1
  | .agg parts => uptoBulkAll parts + 1
  | .iface _ d => uptoBulk d + 1
  | .map entries => uptoBulkEntries entries + 1
  | .held _ => 1
def uptoBulkAll {H : Type} : List (DataW H) → Nat
  | [] => 0
  | d :: r => uptoBulk d + uptoBulkAll r
def uptoBulkEntries {H : Type} : List (Lit × DataW H) → Nat
  | [] => 0
  | x :: r => uptoBulkEntry x + uptoBulkEntries r
def uptoBulkEntry {H : Type} : Lit × DataW H → Nat
  | (.string bytes, d) => bytes.length + uptoBulk d + 1
  | (_, d) => uptoBulk d + 1
 end
def uptoSmall : (H : Type) → List (DataW H) → Bool := fun _ ds => decide (uptoBulkAll ds ≤ 1048576)
def OpenSpec.upto (s : _root_.Go.ChangeSpec) : _root_.Go.OpenSpec := { _root_.Go.OpenSpec.ofChange s with cond := some uptoSmall }

/-- 'leakresponselaw04.FingerprintOf', WHERE WHAT IT READS IS OF BULK AT MOST 1048576: true; the input reads as it did. -/
def fingerprintOfUptoRow : OpenClaim := { program := "ytbfjfcengmkgmaa", sum := "e527ae95529493337d66d2ced6a0e951f6a7eadd5abf0c4c7256be64520b3fd2", func := "leakresponse/leakresponselaw04.FingerprintOf", spec := "fingerprintOf", unfollowed := true, recurses := true, apart := false, narrowed := true }
def FingerprintOfUptoSaid : Prop := fingerprintOfUptoRow.holds Try.pinned (OpenSpec.upto fingerprintOfSpec)

/-- 'leakresponselaw04.FingerprintMixes', WHERE WHAT IT READS IS OF BULK AT MOST 1048576: true; the input reads as it did. -/
def fingerprintMixesUptoRow : OpenClaim := { program := "ytbfjfcengmkgmaa", sum := "e527ae95529493337d66d2ced6a0e951f6a7eadd5abf0c4c7256be64520b3fd2", func := "leakresponse/leakresponselaw04.FingerprintMixes", spec := "fingerprintMixes", unfollowed := true, recurses := true, apart := false, narrowed := true }
def FingerprintMixesUptoSaid : Prop := fingerprintMixesUptoRow.holds Try.pinned (OpenSpec.upto fingerprintMixesSpec)

/-- 'leakresponselaw04.FingerprintLength', WHERE WHAT IT READS IS OF BULK AT MOST 1048576: true; the input reads as it did. -/
def fingerprintLengthUptoRow : OpenClaim := { program := "ytbfjfcengmkgmaa", sum := "e527ae95529493337d66d2ced6a0e951f6a7eadd5abf0c4c7256be64520b3fd2", func := "leakresponse/leakresponselaw04.FingerprintLength", spec := "fingerprintLength", unfollowed := true, recurses := true, apart := false, narrowed := true }
def FingerprintLengthUptoSaid : Prop := fingerprintLengthUptoRow.holds Try.pinned (OpenSpec.upto fingerprintLengthSpec)

/-- 'leakresponselaw04.FingerprintSame', WHERE WHAT IT READS IS OF BULK AT MOST 1048576: true; the input reads as it did. -/
def fingerprintSameUptoRow : OpenClaim := { program := "ytbfjfcengmkgmaa", sum := "e527ae95529493337d66d2ced6a0e951f6a7eadd5abf0c4c7256be64520b3fd2", func := "leakresponse/leakresponselaw04.FingerprintSame", spec := "fingerprintSame", unfollowed := true, recurses := true, apart := false, narrowed := true }
def FingerprintSameUptoSaid : Prop := fingerprintSameUptoRow.holds Try.pinned (OpenSpec.upto fingerprintSameSpec)

/-- 'leakresponselaw04.FingerprintApart', WHERE WHAT IT READS IS OF BULK AT MOST 1048576: true; the input reads as it did. -/
def fingerprintApartUptoRow : OpenClaim := { program := "ytbfjfcengmkgmaa", sum := "e527ae95529493337d66d2ced6a0e951f6a7eadd5abf0c4c7256be64520b3fd2", func := "leakresponse/leakresponselaw04.FingerprintApart", spec := "fingerprintApart", unfollowed := true, recurses := true, apart := false, narrowed := true }
def FingerprintApartUptoSaid : Prop := fingerprintApartUptoRow.holds Try.pinned (OpenSpec.upto fingerprintApartSpec)

end Rows
end Go.Proofs.Ytbfjfcengmkgmaa
