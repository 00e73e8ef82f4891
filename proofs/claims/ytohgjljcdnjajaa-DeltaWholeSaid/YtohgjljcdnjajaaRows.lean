/-
  No cell of these rows narrows 'for every input' (looked for: loops, veiled, ifaces, maps, wideKeys, modest, calm, conditions, laid).
  DERIVED. THE GIVEN ROWS OF THIS SEAT. 7 by the template 'for every input the law returns true; each argument reads behind the call as it read before'; 0 by the template 'total and deterministic' (their statements: YtohgjljcdnjajaaTotals.lean).
  GIVEN WITH THE SEED: the statements are not yours to turn. If you find one false, say at which input.
  Laid BY PROGRAM, IN A SANDBOX (cutbox-rows.mjs): the forced cells as the released guide's own fill.sh prints them over the translation 814cc5a58300ca47… (all of the seat's roots in one cut). By AI agents, Wed Nov 11 2026. No macro, syntax, notation, axiom, sorry.
-/
import Derived.Test.YtohgjljcdnjajaaChecked
import GoSem.Claim
import GoSem.ClaimJoined
import GoSem.ClaimMapViews
import Derived.JoinedTies
import Derived.KernelRfl
namespace Go.Proofs.Ytohgjljcdnjajaa
/- THE CELL 'sum', in the pinned program and in every row, IS THE sha256 OF THE DUMP (.gsa) THAT YtohgjljcdnjajaaProg.lean LOADS. Nothing in Lean hashes anything: it is a label: what it is worth is what the hold of that sum in a sandbox is worth. -/
noncomputable def Try.pinned : Pinned := { name := "ytohgjljcdnjajaa", sum := "814cc5a58300ca47098e56364f52785f8512aa6d17dba90e5c67219f2b509809", checked := Try.checked }
namespace Rows
def none {H : Type} : Left H := { results := [], args := [] }

/-- 'leakresponselaw12.DeltaApplies': WHATEVER THE INPUT: true; the input reads as it did. -/
def deltaAppliesSpec : ChangeSpec := { name := "deltaApplies", fn := fun _ => fun
  | [d1, d2, d3] => { results := [.lit (.bool true)], args := [d1, d2, d3] }
  | _ => none }
def deltaAppliesRow : OpenClaim := { program := "ytohgjljcdnjajaa", sum := "814cc5a58300ca47098e56364f52785f8512aa6d17dba90e5c67219f2b509809", func := "leakresponse/leakresponselaw12.DeltaApplies", spec := "deltaApplies", unfollowed := true, recurses := true, apart := false }
def DeltaAppliesSaid : Prop := deltaAppliesRow.holds Try.pinned (OpenSpec.ofChange deltaAppliesSpec)

/-- ITS FALSE NEIGHBOUR: 'it returns false'. Refute it at one input. -/
def deltaAppliesWrong : ChangeSpec := { name := "deltaApplies", fn := fun _ => fun
  | [d1, d2, d3] => { results := [.lit (.bool false)], args := [d1, d2, d3] }
  | _ => none }
def DeltaAppliesWrongFalsely : Prop := deltaAppliesRow.holds Try.pinned (OpenSpec.ofChange deltaAppliesWrong)

/-- 'leakresponselaw12.DeltaWhole': WHATEVER THE INPUT: true; the input reads as it did. -/
def deltaWholeSpec : ChangeSpec := { name := "deltaWhole", fn := fun _ => fun
  | [d] => { results := [.lit (.bool true)], args := [d] }
  | _ => none }
def deltaWholeRow : OpenClaim := { program := "ytohgjljcdnjajaa", sum := "814cc5a58300ca47098e56364f52785f8512aa6d17dba90e5c67219f2b509809", func := "leakresponse/leakresponselaw12.DeltaWhole", spec := "deltaWhole", unfollowed := true, recurses := true, apart := false }
def DeltaWholeSaid : Prop := deltaWholeRow.holds Try.pinned (OpenSpec.ofChange deltaWholeSpec)

/-- ITS FALSE NEIGHBOUR: 'it returns false'. Refute it at one input. -/
def deltaWholeWrong : ChangeSpec := { name := "deltaWhole", fn := fun _ => fun
  | [d] => { results := [.lit (.bool false)], args := [d] }
  | _ => none }
def DeltaWholeWrongFalsely : Prop := deltaWholeRow.holds Try.pinned (OpenSpec.ofChange deltaWholeWrong)

/-- 'leakresponselaw12.DeltaMakes': WHATEVER THE INPUT: true; the input reads as it did. -/
def deltaMakesSpec : ChangeSpec := { name := "deltaMakes", fn := fun _ => fun
  | [d1, d2, d3] => { results := [.lit (.bool true)], args := [d1, d2, d3] }
  | _ => none }
def deltaMakesRow : OpenClaim := { program := "ytohgjljcdnjajaa", sum := "814cc5a58300ca47098e56364f52785f8512aa6d17dba90e5c67219f2b509809", func := "leakresponse/leakresponselaw12.DeltaMakes", spec := "deltaMakes", unfollowed := true, recurses := true, apart := false }
def DeltaMakesSaid : Prop := deltaMakesRow.holds Try.pinned (OpenSpec.ofChange deltaMakesSpec)

/-- ITS FALSE NEIGHBOUR: 'it returns false'. Refute it at one input. -/
def deltaMakesWrong : ChangeSpec := { name := "deltaMakes", fn := fun _ => fun
  | [d1, d2, d3] => { results := [.lit (.bool false)], args := [d1, d2, d3] }
  | _ => none }
def DeltaMakesWrongFalsely : Prop := deltaMakesRow.holds Try.pinned (OpenSpec.ofChange deltaMakesWrong)

/-- 'leakresponselaw12.DeltaChains': WHATEVER THE INPUT: true; the input reads as it did. -/
def deltaChainsSpec : ChangeSpec := { name := "deltaChains", fn := fun _ => fun
  | [d] => { results := [.lit (.bool true)], args := [d] }
  | _ => none }
def deltaChainsRow : OpenClaim := { program := "ytohgjljcdnjajaa", sum := "814cc5a58300ca47098e56364f52785f8512aa6d17dba90e5c67219f2b509809", func := "leakresponse/leakresponselaw12.DeltaChains", spec := "deltaChains", unfollowed := true, recurses := true, apart := false }
def DeltaChainsSaid : Prop := deltaChainsRow.holds Try.pinned (OpenSpec.ofChange deltaChainsSpec)

/-- ITS FALSE NEIGHBOUR: 'it returns false'. Refute it at one input. -/
def deltaChainsWrong : ChangeSpec := { name := "deltaChains", fn := fun _ => fun
  | [d] => { results := [.lit (.bool false)], args := [d] }
  | _ => none }
def DeltaChainsWrongFalsely : Prop := deltaChainsRow.holds Try.pinned (OpenSpec.ofChange deltaChainsWrong)

/-- 'leakresponselaw12.DeltaFormats': WHATEVER THE INPUT: true; the input reads as it did. -/
def deltaFormatsSpec : ChangeSpec := { name := "deltaFormats", fn := fun _ => fun
  | [d1, d2] => { results := [.lit (.bool true)], args := [d1, d2] }
  | _ => none }
def deltaFormatsRow : OpenClaim := { program := "ytohgjljcdnjajaa", sum := "814cc5a58300ca47098e56364f52785f8512aa6d17dba90e5c67219f2b509809", func := "leakresponse/leakresponselaw12.DeltaFormats", spec := "deltaFormats", unfollowed := true, recurses := true, apart := false }
def DeltaFormatsSaid : Prop := deltaFormatsRow.holds Try.pinned (OpenSpec.ofChange deltaFormatsSpec)

/-- ITS FALSE NEIGHBOUR: 'it returns false'. Refute it at one input. -/
def deltaFormatsWrong : ChangeSpec := { name := "deltaFormats", fn := fun _ => fun
  | [d1, d2] => { results := [.lit (.bool false)], args := [d1, d2] }
  | _ => none }
def DeltaFormatsWrongFalsely : Prop := deltaFormatsRow.holds Try.pinned (OpenSpec.ofChange deltaFormatsWrong)

/-- 'leakresponselaw12.DeltaParses': WHATEVER THE INPUT: true; the input reads as it did. -/
def deltaParsesSpec : ChangeSpec := { name := "deltaParses", fn := fun _ => fun
  | [d1, d2, d3, d4] => { results := [.lit (.bool true)], args := [d1, d2, d3, d4] }
  | _ => none }
def deltaParsesRow : OpenClaim := { program := "ytohgjljcdnjajaa", sum := "814cc5a58300ca47098e56364f52785f8512aa6d17dba90e5c67219f2b509809", func := "leakresponse/leakresponselaw12.DeltaParses", spec := "deltaParses", unfollowed := true, recurses := true, apart := false }
def DeltaParsesSaid : Prop := deltaParsesRow.holds Try.pinned (OpenSpec.ofChange deltaParsesSpec)

/-- ITS FALSE NEIGHBOUR: 'it returns false'. Refute it at one input. -/
def deltaParsesWrong : ChangeSpec := { name := "deltaParses", fn := fun _ => fun
  | [d1, d2, d3, d4] => { results := [.lit (.bool false)], args := [d1, d2, d3, d4] }
  | _ => none }
def DeltaParsesWrongFalsely : Prop := deltaParsesRow.holds Try.pinned (OpenSpec.ofChange deltaParsesWrong)

/-- 'leakresponselaw12.DeltaBack': WHATEVER THE INPUT: true; the input reads as it did. -/
def deltaBackSpec : ChangeSpec := { name := "deltaBack", fn := fun _ => fun
  | [d] => { results := [.lit (.bool true)], args := [d] }
  | _ => none }
def deltaBackRow : OpenClaim := { program := "ytohgjljcdnjajaa", sum := "814cc5a58300ca47098e56364f52785f8512aa6d17dba90e5c67219f2b509809", func := "leakresponse/leakresponselaw12.DeltaBack", spec := "deltaBack", unfollowed := true, recurses := true, apart := false }
def DeltaBackSaid : Prop := deltaBackRow.holds Try.pinned (OpenSpec.ofChange deltaBackSpec)

/-- ITS FALSE NEIGHBOUR: 'it returns false'. Refute it at one input. -/
def deltaBackWrong : ChangeSpec := { name := "deltaBack", fn := fun _ => fun
  | [d] => { results := [.lit (.bool false)], args := [d] }
  | _ => none }
def DeltaBackWrongFalsely : Prop := deltaBackRow.holds Try.pinned (OpenSpec.ofChange deltaBackWrong)

/- THE SECOND FORM. 'bulk': how many values and letters a reading holds, each counted each time it is reached (what is shared counts as often as it is met; a slice's spare places count too). A statement '..UptoSaid' is the law's where the arguments, and the package variables that the reading takes, are together of bulk at most 1048576: NARROWER than '..Said'. Prove '..Said' where nothing that the law and all that it calls make is longer than what came in: it says more and counts as full. Else prove '..UptoSaid'. A law counts once. -/
mutual
def uptoBulk {H : Type} : DataW H → Nat
  | .lit (.string bytes) => bytes.length + 1
  | .lit _ => 1
  | .nil => 1
  | .ptr d => uptoBulk d + 1
  | .slice elems spare => uptoBulkAll elems + uptoBulkAll spare + 1
  | .agg parts => uptoBulkAll parts + 1
  | .iface _ d => uptoBulk d + 1
  | .map entries => uptoBulkEntries entries + 1
  | .held _ => 1
def uptoBulkAll {H : Type} : List (DataW H) → Nat
  | [] => 0
  | d :: r => uptoBulk d + uptoBulkAll r
def uptoBulkEntries {H : Type} : List (Lit × DataW H) → Nat
  | [] => 0
  | x :: r => uptoBulkEntry x + uptoBulkEntries r
def uptoBulkEntry {H : Type} : Lit × DataW H → Nat
  | (.string bytes, d) => bytes.length + uptoBulk d + 1
  | (_, d) => uptoBulk d + 1
 end
def uptoSmall : (H : Type) → List (DataW H) → Bool := fun _ ds => decide (uptoBulkAll ds ≤ 1048576)
def OpenSpec.upto (s : _root_.Go.ChangeSpec) : _root_.Go.OpenSpec := { _root_.Go.OpenSpec.ofChange s with cond := some uptoSmall }

/-- 'leakresponselaw12.DeltaApplies', WHERE WHAT IT READS IS OF BULK AT MOST 1048576: true; the input reads as it did. -/
def deltaAppliesUptoRow : OpenClaim := { program := "ytohgjljcdnjajaa", sum := "814cc5a58300ca47098e56364f52785f8512aa6d17dba90e5c67219f2b509809", func := "leakresponse/leakresponselaw12.DeltaApplies", spec := "deltaApplies", unfollowed := true, recurses := true, apart := false, narrowed := true }
def DeltaAppliesUptoSaid : Prop := deltaAppliesUptoRow.holds Try.pinned (OpenSpec.upto deltaAppliesSpec)

/-- 'leakresponselaw12.DeltaWhole', WHERE WHAT IT READS IS OF BULK AT MOST 1048576: true; the input reads as it did. -/
def deltaWholeUptoRow : OpenClaim := { program := "ytohgjljcdnjajaa", sum := "814cc5a58300ca47098e56364f52785f8512aa6d17dba90e5c67219f2b509809", func := "leakresponse/leakresponselaw12.DeltaWhole", spec := "deltaWhole", unfollowed := true, recurses := true, apart := false, narrowed := true }
def DeltaWholeUptoSaid : Prop := deltaWholeUptoRow.holds Try.pinned (OpenSpec.upto deltaWholeSpec)

/-- 'leakresponselaw12.DeltaMakes', WHERE WHAT IT READS IS OF BULK AT MOST 1048576: true; the input reads as it did. -/
def deltaMakesUptoRow : OpenClaim := { program := "ytohgjljcdnjajaa", sum := "814cc5a58300ca47098e56364f52785f8512aa6d17dba90e5c67219f2b509809", func := "leakresponse/leakresponselaw12.DeltaMakes", spec := "deltaMakes", unfollowed := true, recurses := true, apart := false, narrowed := true }
def DeltaMakesUptoSaid : Prop := deltaMakesUptoRow.holds Try.pinned (OpenSpec.upto deltaMakesSpec)

/-- 'leakresponselaw12.DeltaChains', WHERE WHAT IT READS IS OF BULK AT MOST 1048576: true; the input reads as it did. -/
def deltaChainsUptoRow : OpenClaim := { program := "ytohgjljcdnjajaa", sum := "814cc5a58300ca47098e56364f52785f8512aa6d17dba90e5c67219f2b509809", func := "leakresponse/leakresponselaw12.DeltaChains", spec := "deltaChains", unfollowed := true, recurses := true, apart := false, narrowed := true }
def DeltaChainsUptoSaid : Prop := deltaChainsUptoRow.holds Try.pinned (OpenSpec.upto deltaChainsSpec)

/-- 'leakresponselaw12.DeltaFormats', WHERE WHAT IT READS IS OF BULK AT MOST 1048576: true; the input reads as it did. -/
def deltaFormatsUptoRow : OpenClaim := { program := "ytohgjljcdnjajaa", sum := "814cc5a58300ca47098e56364f52785f8512aa6d17dba90e5c67219f2b509809", func := "leakresponse/leakresponselaw12.DeltaFormats", spec := "deltaFormats", unfollowed := true, recurses := true, apart := false, narrowed := true }
def DeltaFormatsUptoSaid : Prop := deltaFormatsUptoRow.holds Try.pinned (OpenSpec.upto deltaFormatsSpec)

/-- 'leakresponselaw12.DeltaParses', WHERE WHAT IT READS IS OF BULK AT MOST 1048576: true; the input reads as it did. -/
def deltaParsesUptoRow : OpenClaim := { program := "ytohgjljcdnjajaa", sum := "814cc5a58300ca47098e56364f52785f8512aa6d17dba90e5c67219f2b509809", func := "leakresponse/leakresponselaw12.DeltaParses", spec := "deltaParses", unfollowed := true, recurses := true, apart := false, narrowed := true }
def DeltaParsesUptoSaid : Prop := deltaParsesUptoRow.holds Try.pinned (OpenSpec.upto deltaParsesSpec)

/-- 'leakresponselaw12.DeltaBack', WHERE WHAT IT READS IS OF BULK AT MOST 1048576: true; the input reads as it did. -/
def deltaBackUptoRow : OpenClaim := { program := "ytohgjljcdnjajaa", sum := "814cc5a58300ca47098e56364f52785f8512aa6d17dba90e5c67219f2b509809", func := "leakresponse/leakresponselaw12.DeltaBack", spec := "deltaBack", unfollowed := true, recurses := true, apart := false, narrowed := true }
def DeltaBackUptoSaid : Prop := deltaBackUptoRow.holds Try.pinned (OpenSpec.upto deltaBackSpec)

end Rows
end Go.Proofs.Ytohgjljcdnjajaa
