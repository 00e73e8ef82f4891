/-
  No cell of these rows narrows 'for every input' (looked for: loops, veiled, ifaces, maps, wideKeys, modest, calm, conditions, laid).
  DERIVED. THE GIVEN ROWS OF THIS SEAT. 5 by the template 'for every input the law returns true; each argument reads behind the call as it read before'; 0 by the template 'total and deterministic' (their statements: YtlbganfjbbnkoaaTotals.lean).
  GIVEN WITH THE SEED: the statements are not yours to turn. If you find one false, say at which input.
  Laid BY PROGRAM, IN A SANDBOX (cutbox-rows.mjs): the forced cells as the released guide's own fill.sh prints them over the translation b44969e78166f924… (all of the seat's roots in one cut). By AI agents, Wed Nov 11 2026. No macro, syntax, notation, axiom, sorry.
-/
import Derived.Test.YtlbganfjbbnkoaaChecked
import GoSem.Claim
import GoSem.ClaimJoined
import GoSem.ClaimMapViews
import Derived.JoinedTies
import Derived.KernelRfl
namespace Go.Proofs.Ytlbganfjbbnkoaa
/- THE CELL 'sum', in the pinned program and in every row, IS THE sha256 OF THE DUMP (.gsa) THAT YtlbganfjbbnkoaaProg.lean LOADS. Nothing in Lean hashes anything: it is a label: what it is worth is what the hold of that sum in a sandbox is worth. -/
noncomputable def Try.pinned : Pinned := { name := "ytlbganfjbbnkoaa", sum := "b44969e78166f924595a10b769b5d63038c6c992f0aacfa54150770246c1c35f", checked := Try.checked }
namespace Rows
def none {H : Type} : Left H := { results := [], args := [] }

/-- 'leakresponselaw38.ProbeProves': WHATEVER THE INPUT: true; the input reads as it did. -/
def probeProvesSpec : ChangeSpec := { name := "probeProves", fn := fun _ => fun
  | [d] => { results := [.lit (.bool true)], args := [d] }
  | _ => none }
def probeProvesRow : OpenClaim := { program := "ytlbganfjbbnkoaa", sum := "b44969e78166f924595a10b769b5d63038c6c992f0aacfa54150770246c1c35f", func := "leakresponse/leakresponselaw38.ProbeProves", spec := "probeProves", unfollowed := true, recurses := true, apart := false }
def ProbeProvesSaid : Prop := probeProvesRow.holds Try.pinned (OpenSpec.ofChange probeProvesSpec)

/-- ITS FALSE NEIGHBOUR: 'it returns false'. Refute it at one input. -/
def probeProvesWrong : ChangeSpec := { name := "probeProves", fn := fun _ => fun
  | [d] => { results := [.lit (.bool false)], args := [d] }
  | _ => none }
def ProbeProvesWrongFalsely : Prop := probeProvesRow.holds Try.pinned (OpenSpec.ofChange probeProvesWrong)

/-- 'leakresponselaw38.ProbeStays': WHATEVER THE INPUT: true; the input reads as it did. -/
def probeStaysSpec : ChangeSpec := { name := "probeStays", fn := fun _ => fun
  | [d] => { results := [.lit (.bool true)], args := [d] }
  | _ => none }
def probeStaysRow : OpenClaim := { program := "ytlbganfjbbnkoaa", sum := "b44969e78166f924595a10b769b5d63038c6c992f0aacfa54150770246c1c35f", func := "leakresponse/leakresponselaw38.ProbeStays", spec := "probeStays", unfollowed := true, recurses := true, apart := false }
def ProbeStaysSaid : Prop := probeStaysRow.holds Try.pinned (OpenSpec.ofChange probeStaysSpec)

/-- ITS FALSE NEIGHBOUR: 'it returns false'. Refute it at one input. -/
def probeStaysWrong : ChangeSpec := { name := "probeStays", fn := fun _ => fun
  | [d] => { results := [.lit (.bool false)], args := [d] }
  | _ => none }
def ProbeStaysWrongFalsely : Prop := probeStaysRow.holds Try.pinned (OpenSpec.ofChange probeStaysWrong)

/-- 'leakresponselaw38.ProbeMissing': WHATEVER THE INPUT: true; the input reads as it did. -/
def probeMissingSpec : ChangeSpec := { name := "probeMissing", fn := fun _ => fun
  | [d] => { results := [.lit (.bool true)], args := [d] }
  | _ => none }
def probeMissingRow : OpenClaim := { program := "ytlbganfjbbnkoaa", sum := "b44969e78166f924595a10b769b5d63038c6c992f0aacfa54150770246c1c35f", func := "leakresponse/leakresponselaw38.ProbeMissing", spec := "probeMissing", unfollowed := true, recurses := true, apart := false }
def ProbeMissingSaid : Prop := probeMissingRow.holds Try.pinned (OpenSpec.ofChange probeMissingSpec)

/-- ITS FALSE NEIGHBOUR: 'it returns false'. Refute it at one input. -/
def probeMissingWrong : ChangeSpec := { name := "probeMissing", fn := fun _ => fun
  | [d] => { results := [.lit (.bool false)], args := [d] }
  | _ => none }
def ProbeMissingWrongFalsely : Prop := probeMissingRow.holds Try.pinned (OpenSpec.ofChange probeMissingWrong)

/-- 'leakresponselaw38.ProbeExact': WHATEVER THE INPUT: true; the input reads as it did. -/
def probeExactSpec : ChangeSpec := { name := "probeExact", fn := fun _ => fun
  | [d1, d2, d3, d4, d5] => { results := [.lit (.bool true)], args := [d1, d2, d3, d4, d5] }
  | _ => none }
def probeExactRow : OpenClaim := { program := "ytlbganfjbbnkoaa", sum := "b44969e78166f924595a10b769b5d63038c6c992f0aacfa54150770246c1c35f", func := "leakresponse/leakresponselaw38.ProbeExact", spec := "probeExact", unfollowed := true, recurses := true, apart := false }
def ProbeExactSaid : Prop := probeExactRow.holds Try.pinned (OpenSpec.ofChange probeExactSpec)

/-- ITS FALSE NEIGHBOUR: 'it returns false'. Refute it at one input. -/
def probeExactWrong : ChangeSpec := { name := "probeExact", fn := fun _ => fun
  | [d1, d2, d3, d4, d5] => { results := [.lit (.bool false)], args := [d1, d2, d3, d4, d5] }
  | _ => none }
def ProbeExactWrongFalsely : Prop := probeExactRow.holds Try.pinned (OpenSpec.ofChange probeExactWrong)

/-- 'leakresponselaw38.ProbeAnswers': WHATEVER THE INPUT: true; the input reads as it did. -/
def probeAnswersSpec : ChangeSpec := { name := "probeAnswers", fn := fun _ => fun
  | [d] => { results := [.lit (.bool true)], args := [d] }
  | _ => none }
def probeAnswersRow : OpenClaim := { program := "ytlbganfjbbnkoaa", sum := "b44969e78166f924595a10b769b5d63038c6c992f0aacfa54150770246c1c35f", func := "leakresponse/leakresponselaw38.ProbeAnswers", spec := "probeAnswers", unfollowed := true, recurses := true, apart := false }
def ProbeAnswersSaid : Prop := probeAnswersRow.holds Try.pinned (OpenSpec.ofChange probeAnswersSpec)

/-- ITS FALSE NEIGHBOUR: 'it returns false'. Refute it at one input. -/
def probeAnswersWrong : ChangeSpec := { name := "probeAnswers", fn := fun _ => fun
  | [d] => { results := [.lit (.bool false)], args := [d] }
  | _ => none }
def ProbeAnswersWrongFalsely : Prop := probeAnswersRow.holds Try.pinned (OpenSpec.ofChange probeAnswersWrong)

/- THE SECOND FORM. 'bulk': how many values and letters a reading holds, each counted each time it is reached (what is shared counts as often as it is met; a slice's spare places count too). A statement '..UptoSaid' is the law's where the arguments, and the package variables that the reading takes, are together of bulk at most 1048576: NARROWER than '..Said'. Prove '..Said' where nothing that the law and all that it calls make is longer than what came in: it says more and counts as full. Else prove '..UptoSaid'. A law counts once. -/
mutual
def uptoBulk {H : Type} : DataW H → Nat
  | .lit (.string bytes) => bytes.length + 1
  | .lit _ => 1
  | .nil => 1
  | .ptr d => uptoBulk d + 1
  | .slice elems spare => uptoBulkAll elems + uptoBulkAll spare + 1
  | .agg parts => uptoBulkAll parts + 1
  | .iface _ d => uptoBulk d + 1
  | .map entries => uptoBulkEntries entries + 1
  | .held _ => 1
def uptoBulkAll {H : Type} : List (DataW H) → Nat
  | [] => 0
  | d :: r => uptoBulk d + uptoBulkAll r
def uptoBulkEntries {H : Type} : List (Lit × DataW H) → Nat
  | [] => 0
  | x :: r => uptoBulkEntry x + uptoBulkEntries r
def uptoBulkEntry {H : Type} : Lit × DataW H → Nat
  | (.string bytes, d) => bytes.length + uptoBulk d + 1
  | (_, d) => uptoBulk d + 1
 end
def uptoSmall : (H : Type) → List (DataW H) → Bool := fun _ ds => decide (uptoBulkAll ds ≤ 1048576)
def OpenSpec.upto (s : _root_.Go.ChangeSpec) : _root_.Go.OpenSpec := { _root_.Go.OpenSpec.ofChange s with cond := some uptoSmall }

/-- 'leakresponselaw38.ProbeProves', WHERE WHAT IT READS IS OF BULK AT MOST 1048576: true; the input reads as it did. -/
def probeProvesUptoRow : OpenClaim := { program := "ytlbganfjbbnkoaa", sum := "b44969e78166f924595a10b769b5d63038c6c992f0aacfa54150770246c1c35f", func := "leakresponse/leakresponselaw38.ProbeProves", spec := "probeProves", unfollowed := true, recurses := true, apart := false, narrowed := true }
def ProbeProvesUptoSaid : Prop := probeProvesUptoRow.holds Try.pinned (OpenSpec.upto probeProvesSpec)

/-- 'leakresponselaw38.ProbeStays', WHERE WHAT IT READS IS OF BULK AT MOST 1048576: true; the input reads as it did. -/
def probeStaysUptoRow : OpenClaim := { program := "ytlbganfjbbnkoaa", sum := "b44969e78166f924595a10b769b5d63038c6c992f0aacfa54150770246c1c35f", func := "leakresponse/leakresponselaw38.ProbeStays", spec := "probeStays", unfollowed := true, recurses := true, apart := false, narrowed := true }
def ProbeStaysUptoSaid : Prop := probeStaysUptoRow.holds Try.pinned (OpenSpec.upto probeStaysSpec)

/-- 'leakresponselaw38.ProbeMissing', WHERE WHAT IT READS IS OF BULK AT MOST 1048576: true; the input reads as it did. -/
def probeMissingUptoRow : OpenClaim := { program := "ytlbganfjbbnkoaa", sum := "b44969e78166f924595a10b769b5d63038c6c992f0aacfa54150770246c1c35f", func := "leakresponse/leakresponselaw38.ProbeMissing", spec := "probeMissing", unfollowed := true, recurses := true, apart := false, narrowed := true }
def ProbeMissingUptoSaid : Prop := probeMissingUptoRow.holds Try.pinned (OpenSpec.upto probeMissingSpec)

/-- 'leakresponselaw38.ProbeExact', WHERE WHAT IT READS IS OF BULK AT MOST 1048576: true; the input reads as it did. -/
def probeExactUptoRow : OpenClaim := { program := "ytlbganfjbbnkoaa", sum := "b44969e78166f924595a10b769b5d63038c6c992f0aacfa54150770246c1c35f", func := "leakresponse/leakresponselaw38.ProbeExact", spec := "probeExact", unfollowed := true, recurses := true, apart := false, narrowed := true }
def ProbeExactUptoSaid : Prop := probeExactUptoRow.holds Try.pinned (OpenSpec.upto probeExactSpec)

/-- 'leakresponselaw38.ProbeAnswers', WHERE WHAT IT READS IS OF BULK AT MOST 1048576: true; the input reads as it did. -/
def probeAnswersUptoRow : OpenClaim := { program := "ytlbganfjbbnkoaa", sum := "b44969e78166f924595a10b769b5d63038c6c992f0aacfa54150770246c1c35f", func := "leakresponse/leakresponselaw38.ProbeAnswers", spec := "probeAnswers", unfollowed := true, recurses := true, apart := false, narrowed := true }
def ProbeAnswersUptoSaid : Prop := probeAnswersUptoRow.holds Try.pinned (OpenSpec.upto probeAnswersSpec)

end Rows
end Go.Proofs.Ytlbganfjbbnkoaa
