/-
  No cell of these rows narrows 'for every input' (looked for: loops, veiled, ifaces, maps, wideKeys, modest, calm, conditions, laid).
  DERIVED. THE GIVEN ROWS OF THIS SEAT. 6 by the template 'for every input the law returns true; each argument reads behind the call as it read before'; 0 by the template 'total and deterministic' (their statements: YtcbppkfnfbdkhaaTotals.lean).
  GIVEN WITH THE SEED: the statements are not yours to turn. If you find one false, say at which input.
  Laid BY PROGRAM, IN A SANDBOX (cutbox-rows.mjs): the forced cells as the released guide's own fill.sh prints them over the translation 2e50858dbffdc3a8… (all of the seat's roots in one cut). By AI agents, Wed Nov 11 2026. No macro, syntax, notation, axiom, sorry.
-/
import Derived.Test.YtcbppkfnfbdkhaaChecked
import GoSem.Claim
import GoSem.ClaimJoined
import GoSem.ClaimMapViews
import Derived.JoinedTies
import Derived.KernelRfl
namespace Go.Proofs.Ytcbppkfnfbdkhaa
/- THE CELL 'sum', in the pinned program and in every row, IS THE sha256 OF THE DUMP (.gsa) THAT YtcbppkfnfbdkhaaProg.lean LOADS. Nothing in Lean hashes anything: it is a label: what it is worth is what the hold of that sum in a sandbox is worth. -/
noncomputable def Try.pinned : Pinned := { name := "ytcbppkfnfbdkhaa", sum := "2e50858dbffdc3a88e1cb612d403297d94f68722ac74f7b2757e1eb79160af1c", checked := Try.checked }
namespace Rows
def none {H : Type} : Left H := { results := [], args := [] }

/-- 'leakresponselaw22.RegressBack': WHATEVER THE INPUT: true; the input reads as it did. -/
def regressBackSpec : ChangeSpec := { name := "regressBack", fn := fun _ => fun
  | [d] => { results := [.lit (.bool true)], args := [d] }
  | _ => none }
def regressBackRow : OpenClaim := { program := "ytcbppkfnfbdkhaa", sum := "2e50858dbffdc3a88e1cb612d403297d94f68722ac74f7b2757e1eb79160af1c", func := "leakresponse/leakresponselaw22.RegressBack", spec := "regressBack", unfollowed := true, recurses := true, apart := false }
def RegressBackSaid : Prop := regressBackRow.holds Try.pinned (OpenSpec.ofChange regressBackSpec)

/-- ITS FALSE NEIGHBOUR: 'it returns false'. Refute it at one input. -/
def regressBackWrong : ChangeSpec := { name := "regressBack", fn := fun _ => fun
  | [d] => { results := [.lit (.bool false)], args := [d] }
  | _ => none }
def RegressBackWrongFalsely : Prop := regressBackRow.holds Try.pinned (OpenSpec.ofChange regressBackWrong)

/-- 'leakresponselaw22.RegressOpens': WHATEVER THE INPUT: true; the input reads as it did. -/
def regressOpensSpec : ChangeSpec := { name := "regressOpens", fn := fun _ => fun
  | [d] => { results := [.lit (.bool true)], args := [d] }
  | _ => none }
def regressOpensRow : OpenClaim := { program := "ytcbppkfnfbdkhaa", sum := "2e50858dbffdc3a88e1cb612d403297d94f68722ac74f7b2757e1eb79160af1c", func := "leakresponse/leakresponselaw22.RegressOpens", spec := "regressOpens", unfollowed := true, recurses := true, apart := false }
def RegressOpensSaid : Prop := regressOpensRow.holds Try.pinned (OpenSpec.ofChange regressOpensSpec)

/-- ITS FALSE NEIGHBOUR: 'it returns false'. Refute it at one input. -/
def regressOpensWrong : ChangeSpec := { name := "regressOpens", fn := fun _ => fun
  | [d] => { results := [.lit (.bool false)], args := [d] }
  | _ => none }
def RegressOpensWrongFalsely : Prop := regressOpensRow.holds Try.pinned (OpenSpec.ofChange regressOpensWrong)

/-- 'leakresponselaw22.RegressInserts': WHATEVER THE INPUT: true; the input reads as it did. -/
def regressInsertsSpec : ChangeSpec := { name := "regressInserts", fn := fun _ => fun
  | [d1, d2] => { results := [.lit (.bool true)], args := [d1, d2] }
  | _ => none }
def regressInsertsRow : OpenClaim := { program := "ytcbppkfnfbdkhaa", sum := "2e50858dbffdc3a88e1cb612d403297d94f68722ac74f7b2757e1eb79160af1c", func := "leakresponse/leakresponselaw22.RegressInserts", spec := "regressInserts", inPlace := ["slices.overlaps[leakresponse/api.Rule]"], unfollowed := true, recurses := true, apart := false }
def RegressInsertsSaid : Prop := regressInsertsRow.holds Try.pinned (OpenSpec.ofChange regressInsertsSpec)

/-- ITS FALSE NEIGHBOUR: 'it returns false'. Refute it at one input. -/
def regressInsertsWrong : ChangeSpec := { name := "regressInserts", fn := fun _ => fun
  | [d1, d2] => { results := [.lit (.bool false)], args := [d1, d2] }
  | _ => none }
def RegressInsertsWrongFalsely : Prop := regressInsertsRow.holds Try.pinned (OpenSpec.ofChange regressInsertsWrong)

/-- 'leakresponselaw22.RegressAll': WHATEVER THE INPUT: true; the input reads as it did. -/
def regressAllSpec : ChangeSpec := { name := "regressAll", fn := fun _ => fun
  | [d1, d2] => { results := [.lit (.bool true)], args := [d1, d2] }
  | _ => none }
def regressAllRow : OpenClaim := { program := "ytcbppkfnfbdkhaa", sum := "2e50858dbffdc3a88e1cb612d403297d94f68722ac74f7b2757e1eb79160af1c", func := "leakresponse/leakresponselaw22.RegressAll", spec := "regressAll", inPlace := ["slices.overlaps[leakresponse/api.Rule]"], unfollowed := true, recurses := true, apart := false }
def RegressAllSaid : Prop := regressAllRow.holds Try.pinned (OpenSpec.ofChange regressAllSpec)

/-- ITS FALSE NEIGHBOUR: 'it returns false'. Refute it at one input. -/
def regressAllWrong : ChangeSpec := { name := "regressAll", fn := fun _ => fun
  | [d1, d2] => { results := [.lit (.bool false)], args := [d1, d2] }
  | _ => none }
def RegressAllWrongFalsely : Prop := regressAllRow.holds Try.pinned (OpenSpec.ofChange regressAllWrong)

/-- 'leakresponsetop.TopClosed': WHATEVER THE INPUT: true; the input reads as it did. -/
def topClosedSpec : ChangeSpec := { name := "topClosed", fn := fun _ => fun
  | [d] => { results := [.lit (.bool true)], args := [d] }
  | _ => none }
def topClosedRow : OpenClaim := { program := "ytcbppkfnfbdkhaa", sum := "2e50858dbffdc3a88e1cb612d403297d94f68722ac74f7b2757e1eb79160af1c", func := "leakresponse/leakresponsetop.TopClosed", spec := "topClosed", unfollowed := true, recurses := true, apart := false }
def TopClosedSaid : Prop := topClosedRow.holds Try.pinned (OpenSpec.ofChange topClosedSpec)

/-- ITS FALSE NEIGHBOUR: 'it returns false'. Refute it at one input. -/
def topClosedWrong : ChangeSpec := { name := "topClosed", fn := fun _ => fun
  | [d] => { results := [.lit (.bool false)], args := [d] }
  | _ => none }
def TopClosedWrongFalsely : Prop := topClosedRow.holds Try.pinned (OpenSpec.ofChange topClosedWrong)

/-- 'leakresponsetop.TopBroken': WHATEVER THE INPUT: true; the input reads as it did. -/
def topBrokenSpec : ChangeSpec := { name := "topBroken", fn := fun _ => fun
  | [d] => { results := [.lit (.bool true)], args := [d] }
  | _ => none }
def topBrokenRow : OpenClaim := { program := "ytcbppkfnfbdkhaa", sum := "2e50858dbffdc3a88e1cb612d403297d94f68722ac74f7b2757e1eb79160af1c", func := "leakresponse/leakresponsetop.TopBroken", spec := "topBroken", unfollowed := true, recurses := true, apart := false }
def TopBrokenSaid : Prop := topBrokenRow.holds Try.pinned (OpenSpec.ofChange topBrokenSpec)

/-- ITS FALSE NEIGHBOUR: 'it returns false'. Refute it at one input. -/
def topBrokenWrong : ChangeSpec := { name := "topBroken", fn := fun _ => fun
  | [d] => { results := [.lit (.bool false)], args := [d] }
  | _ => none }
def TopBrokenWrongFalsely : Prop := topBrokenRow.holds Try.pinned (OpenSpec.ofChange topBrokenWrong)

/- THE SECOND FORM. 'bulk': how many values and letters a reading holds, each counted each time it is reached (what is shared counts as often as it is met; a slice's spare places count too). A statement '..UptoSaid' is the law's where the arguments, and the package variables that the reading takes, are together of bulk at most 1048576: NARROWER than '..Said'. Prove '..Said' where nothing that the law and all that it calls make is longer than what came in: it says more and counts as full. Else prove '..UptoSaid'. A law counts once. -/
mutual
def uptoBulk {H : Type} : DataW H → Nat
  | .lit (.string bytes) => bytes.length + 1
  | .lit _ => 1
  | .nil => 1
  | .ptr d => uptoBulk d + 1
  | .slice elems spare => uptoBulkAll elems + uptoBulkAll spare + 1
  | .agg parts => uptoBulkAll parts + 1
  | .iface _ d => uptoBulk d + 1
  | .map entries => uptoBulkEntries entries + 1
  | .held _ => 1
def uptoBulkAll {H : Type} : List (DataW H) → Nat
  | [] => 0
  | d :: r => uptoBulk d + uptoBulkAll r
def uptoBulkEntries {H : Type} : List (Lit × DataW H) → Nat
  | [] => 0
  | x :: r => uptoBulkEntry x + uptoBulkEntries r
def uptoBulkEntry {H : Type} : Lit × DataW H → Nat
  | (.string bytes, d) => bytes.length + uptoBulk d + 1
  | (_, d) => uptoBulk d + 1
 end
def uptoSmall : (H : Type) → List (DataW H) → Bool := fun _ ds => decide (uptoBulkAll ds ≤ 1048576)
def OpenSpec.upto (s : _root_.Go.ChangeSpec) : _root_.Go.OpenSpec := { _root_.Go.OpenSpec.ofChange s with cond := some uptoSmall }

/-- 'leakresponselaw22.RegressBack', WHERE WHAT IT READS IS OF BULK AT MOST 1048576: true; the input reads as it did. -/
def regressBackUptoRow : OpenClaim := { program := "ytcbppkfnfbdkhaa", sum := "2e50858dbffdc3a88e1cb612d403297d94f68722ac74f7b2757e1eb79160af1c", func := "leakresponse/leakresponselaw22.RegressBack", spec := "regressBack", unfollowed := true, recurses := true, apart := false, narrowed := true }
def RegressBackUptoSaid : Prop := regressBackUptoRow.holds Try.pinned (OpenSpec.upto regressBackSpec)

/-- 'leakresponselaw22.RegressOpens', WHERE WHAT IT READS IS OF BULK AT MOST 1048576: true; the input reads as it did. -/
def regressOpensUptoRow : OpenClaim := { program := "ytcbppkfnfbdkhaa", sum := "2e50858dbffdc3a88e1cb612d403297d94f68722ac74f7b2757e1eb79160af1c", func := "leakresponse/leakresponselaw22.RegressOpens", spec := "regressOpens", unfollowed := true, recurses := true, apart := false, narrowed := true }
def RegressOpensUptoSaid : Prop := regressOpensUptoRow.holds Try.pinned (OpenSpec.upto regressOpensSpec)

/-- 'leakresponselaw22.RegressInserts', WHERE WHAT IT READS IS OF BULK AT MOST 1048576: true; the input reads as it did. -/
def regressInsertsUptoRow : OpenClaim := { program := "ytcbppkfnfbdkhaa", sum := "2e50858dbffdc3a88e1cb612d403297d94f68722ac74f7b2757e1eb79160af1c", func := "leakresponse/leakresponselaw22.RegressInserts", spec := "regressInserts", inPlace := ["slices.overlaps[leakresponse/api.Rule]"], unfollowed := true, recurses := true, apart := false, narrowed := true }
def RegressInsertsUptoSaid : Prop := regressInsertsUptoRow.holds Try.pinned (OpenSpec.upto regressInsertsSpec)

/-- 'leakresponselaw22.RegressAll', WHERE WHAT IT READS IS OF BULK AT MOST 1048576: true; the input reads as it did. -/
def regressAllUptoRow : OpenClaim := { program := "ytcbppkfnfbdkhaa", sum := "2e50858dbffdc3a88e1cb612d403297d94f68722ac74f7b2757e1eb79160af1c", func := "leakresponse/leakresponselaw22.RegressAll", spec := "regressAll", inPlace := ["slices.overlaps[leakresponse/api.Rule]"], unfollowed := true, recurses := true, apart := false, narrowed := true }
def RegressAllUptoSaid : Prop := regressAllUptoRow.holds Try.pinned (OpenSpec.upto regressAllSpec)

/-- 'leakresponsetop.TopClosed', WHERE WHAT IT READS IS OF BULK AT MOST 1048576: true; the input reads as it did. -/
def topClosedUptoRow : OpenClaim := { program := "ytcbppkfnfbdkhaa", sum := "2e50858dbffdc3a88e1cb612d403297d94f68722ac74f7b2757e1eb79160af1c", func := "leakresponse/leakresponsetop.TopClosed", spec := "topClosed", unfollowed := true, recurses := true, apart := false, narrowed := true }
def TopClosedUptoSaid : Prop := topClosedUptoRow.holds Try.pinned (OpenSpec.upto topClosedSpec)

/-- 'leakresponsetop.TopBroken', WHERE WHAT IT READS IS OF BULK AT MOST 1048576: true; the input reads as it did. -/
def topBrokenUptoRow : OpenClaim := { program := "ytcbppkfnfbdkhaa", sum := "2e50858dbffdc3a88e1cb612d403297d94f68722ac74f7b2757e1eb79160af1c", func := "leakresponse/leakresponsetop.TopBroken", spec := "topBroken", unfollowed := true, recurses := true, apart := false, narrowed := true }
def TopBrokenUptoSaid : Prop := topBrokenUptoRow.holds Try.pinned (OpenSpec.upto topBrokenSpec)

end Rows
end Go.Proofs.Ytcbppkfnfbdkhaa
