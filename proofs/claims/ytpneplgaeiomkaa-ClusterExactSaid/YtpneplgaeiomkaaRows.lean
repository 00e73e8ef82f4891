/-
  No cell of these rows narrows 'for every input' (looked for: loops, veiled, ifaces, maps, wideKeys, modest, calm, conditions, laid).
  DERIVED. THE GIVEN ROWS OF THIS SEAT. 6 by the template 'for every input the law returns true; each argument reads behind the call as it read before'; 0 by the template 'total and deterministic' (their statements: YtpneplgaeiomkaaTotals.lean).
  GIVEN WITH THE SEED: the statements are not yours to turn. If you find one false, say at which input.
  Laid BY PROGRAM, IN A SANDBOX (cutbox-rows.mjs): the forced cells as the released guide's own fill.sh prints them over the translation d822b64ef84f7f65… (all of the seat's roots in one cut). By AI agents, Wed Nov 11 2026. No macro, syntax, notation, axiom, sorry.
-/
import Derived.Test.YtpneplgaeiomkaaChecked
import GoSem.Claim
import GoSem.ClaimJoined
import GoSem.ClaimMapViews
import Derived.JoinedTies
import Derived.KernelRfl
namespace Go.Proofs.Ytpneplgaeiomkaa
/- THE CELL 'sum', in the pinned program and in every row, IS THE sha256 OF THE DUMP (.gsa) THAT YtpneplgaeiomkaaProg.lean LOADS. Nothing in Lean hashes anything: it is a label: what it is worth is what the hold of that sum in a sandbox is worth. -/
noncomputable def Try.pinned : Pinned := { name := "ytpneplgaeiomkaa", sum := "d822b64ef84f7f65f16da492e0151119c77872b2c994a7dee9cf32dbc2e7a09b", checked := Try.checked }
namespace Rows
def none {H : Type} : Left H := { results := [], args := [] }

/-- 'leakresponselaw38.ProbeExact': WHATEVER THE INPUT: true; the input reads as it did. -/
def probeExactSpec : ChangeSpec := { name := "probeExact", fn := fun _ => fun
  | [d1, d2, d3, d4, d5] => { results := [.lit (.bool true)], args := [d1, d2, d3, d4, d5] }
  | _ => none }
def probeExactRow : OpenClaim := { program := "ytpneplgaeiomkaa", sum := "d822b64ef84f7f65f16da492e0151119c77872b2c994a7dee9cf32dbc2e7a09b", func := "leakresponse/leakresponselaw38.ProbeExact", spec := "probeExact", unfollowed := true, recurses := true, apart := false }
def ProbeExactSaid : Prop := probeExactRow.holds Try.pinned (OpenSpec.ofChange probeExactSpec)

/-- ITS FALSE NEIGHBOUR: 'it returns false'. Refute it at one input. -/
def probeExactWrong : ChangeSpec := { name := "probeExact", fn := fun _ => fun
  | [d1, d2, d3, d4, d5] => { results := [.lit (.bool false)], args := [d1, d2, d3, d4, d5] }
  | _ => none }
def ProbeExactWrongFalsely : Prop := probeExactRow.holds Try.pinned (OpenSpec.ofChange probeExactWrong)

/-- 'leakresponselaw36.ClusterSyncs': WHATEVER THE INPUT: true; the input reads as it did. -/
def clusterSyncsSpec : ChangeSpec := { name := "clusterSyncs", fn := fun _ => fun
  | [d] => { results := [.lit (.bool true)], args := [d] }
  | _ => none }
def clusterSyncsRow : OpenClaim := { program := "ytpneplgaeiomkaa", sum := "d822b64ef84f7f65f16da492e0151119c77872b2c994a7dee9cf32dbc2e7a09b", func := "leakresponse/leakresponselaw36.ClusterSyncs", spec := "clusterSyncs", unfollowed := true, recurses := true, apart := false }
def ClusterSyncsSaid : Prop := clusterSyncsRow.holds Try.pinned (OpenSpec.ofChange clusterSyncsSpec)

/-- ITS FALSE NEIGHBOUR: 'it returns false'. Refute it at one input. -/
def clusterSyncsWrong : ChangeSpec := { name := "clusterSyncs", fn := fun _ => fun
  | [d] => { results := [.lit (.bool false)], args := [d] }
  | _ => none }
def ClusterSyncsWrongFalsely : Prop := clusterSyncsRow.holds Try.pinned (OpenSpec.ofChange clusterSyncsWrong)

/-- 'leakresponselaw36.ClusterRuns': WHATEVER THE INPUT: true; the input reads as it did. -/
def clusterRunsSpec : ChangeSpec := { name := "clusterRuns", fn := fun _ => fun
  | [d] => { results := [.lit (.bool true)], args := [d] }
  | _ => none }
def clusterRunsRow : OpenClaim := { program := "ytpneplgaeiomkaa", sum := "d822b64ef84f7f65f16da492e0151119c77872b2c994a7dee9cf32dbc2e7a09b", func := "leakresponse/leakresponselaw36.ClusterRuns", spec := "clusterRuns", unfollowed := true, recurses := true, apart := false }
def ClusterRunsSaid : Prop := clusterRunsRow.holds Try.pinned (OpenSpec.ofChange clusterRunsSpec)

/-- ITS FALSE NEIGHBOUR: 'it returns false'. Refute it at one input. -/
def clusterRunsWrong : ChangeSpec := { name := "clusterRuns", fn := fun _ => fun
  | [d] => { results := [.lit (.bool false)], args := [d] }
  | _ => none }
def ClusterRunsWrongFalsely : Prop := clusterRunsRow.holds Try.pinned (OpenSpec.ofChange clusterRunsWrong)

/-- 'leakresponselaw36.ClusterExact': WHATEVER THE INPUT: true; the input reads as it did. -/
def clusterExactSpec : ChangeSpec := { name := "clusterExact", fn := fun _ => fun
  | [d1, d2, d3, d4, d5, d6, d7] => { results := [.lit (.bool true)], args := [d1, d2, d3, d4, d5, d6, d7] }
  | _ => none }
def clusterExactRow : OpenClaim := { program := "ytpneplgaeiomkaa", sum := "d822b64ef84f7f65f16da492e0151119c77872b2c994a7dee9cf32dbc2e7a09b", func := "leakresponse/leakresponselaw36.ClusterExact", spec := "clusterExact", unfollowed := true, recurses := true, apart := false }
def ClusterExactSaid : Prop := clusterExactRow.holds Try.pinned (OpenSpec.ofChange clusterExactSpec)

/-- ITS FALSE NEIGHBOUR: 'it returns false'. Refute it at one input. -/
def clusterExactWrong : ChangeSpec := { name := "clusterExact", fn := fun _ => fun
  | [d1, d2, d3, d4, d5, d6, d7] => { results := [.lit (.bool false)], args := [d1, d2, d3, d4, d5, d6, d7] }
  | _ => none }
def ClusterExactWrongFalsely : Prop := clusterExactRow.holds Try.pinned (OpenSpec.ofChange clusterExactWrong)

/-- 'leakresponselaw36.ClusterFence': WHATEVER THE INPUT: true; the input reads as it did. -/
def clusterFenceSpec : ChangeSpec := { name := "clusterFence", fn := fun _ => fun
  | [d] => { results := [.lit (.bool true)], args := [d] }
  | _ => none }
def clusterFenceRow : OpenClaim := { program := "ytpneplgaeiomkaa", sum := "d822b64ef84f7f65f16da492e0151119c77872b2c994a7dee9cf32dbc2e7a09b", func := "leakresponse/leakresponselaw36.ClusterFence", spec := "clusterFence", unfollowed := true, recurses := true, apart := false }
def ClusterFenceSaid : Prop := clusterFenceRow.holds Try.pinned (OpenSpec.ofChange clusterFenceSpec)

/-- ITS FALSE NEIGHBOUR: 'it returns false'. Refute it at one input. -/
def clusterFenceWrong : ChangeSpec := { name := "clusterFence", fn := fun _ => fun
  | [d] => { results := [.lit (.bool false)], args := [d] }
  | _ => none }
def ClusterFenceWrongFalsely : Prop := clusterFenceRow.holds Try.pinned (OpenSpec.ofChange clusterFenceWrong)

/-- 'leakresponselaw36.ClusterRevives': WHATEVER THE INPUT: true; the input reads as it did. -/
def clusterRevivesSpec : ChangeSpec := { name := "clusterRevives", fn := fun _ => fun
  | [d] => { results := [.lit (.bool true)], args := [d] }
  | _ => none }
def clusterRevivesRow : OpenClaim := { program := "ytpneplgaeiomkaa", sum := "d822b64ef84f7f65f16da492e0151119c77872b2c994a7dee9cf32dbc2e7a09b", func := "leakresponse/leakresponselaw36.ClusterRevives", spec := "clusterRevives", unfollowed := true, recurses := true, apart := false }
def ClusterRevivesSaid : Prop := clusterRevivesRow.holds Try.pinned (OpenSpec.ofChange clusterRevivesSpec)

/-- ITS FALSE NEIGHBOUR: 'it returns false'. Refute it at one input. -/
def clusterRevivesWrong : ChangeSpec := { name := "clusterRevives", fn := fun _ => fun
  | [d] => { results := [.lit (.bool false)], args := [d] }
  | _ => none }
def ClusterRevivesWrongFalsely : Prop := clusterRevivesRow.holds Try.pinned (OpenSpec.ofChange clusterRevivesWrong)

/- THE SECOND FORM. 'bulk': how many values and letters a reading holds, each counted each time it is reached (what is shared counts as often as it is met; a slice's spare places count too). A statement '..UptoSaid' is the law's where the arguments, and the package variables that the reading takes, are together of bulk at most 1048576: NARROWER than '..Said'. Prove '..Said' where nothing that the law and all that it calls make is longer than what came in: it says more and counts as full. Else prove '..UptoSaid'. A law counts once. -/
mutual
def uptoBulk {H : Type} : DataW H → Nat
  | .lit (.string bytes) => bytes.length + 1
  | .lit _ => 1
  | .nil => 1
  | .ptr d => uptoBulk d + 1
  | .slice elems spare => uptoBulkAll elems + uptoBulkAll spare + 1
  | .agg parts => uptoBulkAll parts + 1
  | .iface _ d => uptoBulk d + 1
  | .map entries => uptoBulkEntries entries + 1
  | .held _ => 1
def uptoBulkAll {H : Type} : List (DataW H) → Nat
  | [] => 0
  | d :: r => uptoBulk d + uptoBulkAll r
def uptoBulkEntries {H : Type} : List (Lit × DataW H) → Nat
  | [] => 0
  | x :: r => uptoBulkEntry x + uptoBulkEntries r
def uptoBulkEntry {H : Type} : Lit × DataW H → Nat
  | (.string bytes, d) => bytes.length + uptoBulk d + 1
  | (_, d) => uptoBulk d + 1
 end
def uptoSmall : (H : Type) → List (DataW H) → Bool := fun _ ds => decide (uptoBulkAll ds ≤ 1048576)
def OpenSpec.upto (s : _root_.Go.ChangeSpec) : _root_.Go.OpenSpec := { _root_.Go.OpenSpec.ofChange s with cond := some uptoSmall }

/-- 'leakresponselaw38.ProbeExact', WHERE WHAT IT READS IS OF BULK AT MOST 1048576: true; the input reads as it did. -/
def probeExactUptoRow : OpenClaim := { program := "ytpneplgaeiomkaa", sum := "d822b64ef84f7f65f16da492e0151119c77872b2c994a7dee9cf32dbc2e7a09b", func := "leakresponse/leakresponselaw38.ProbeExact", spec := "probeExact", unfollowed := true, recurses := true, apart := false, narrowed := true }
def ProbeExactUptoSaid : Prop := probeExactUptoRow.holds Try.pinned (OpenSpec.upto probeExactSpec)

/-- 'leakresponselaw36.ClusterSyncs', WHERE WHAT IT READS IS OF BULK AT MOST 1048576: true; the input reads as it did. -/
def clusterSyncsUptoRow : OpenClaim := { program := "ytpneplgaeiomkaa", sum := "d822b64ef84f7f65f16da492e0151119c77872b2c994a7dee9cf32dbc2e7a09b", func := "leakresponse/leakresponselaw36.ClusterSyncs", spec := "clusterSyncs", unfollowed := true, recurses := true, apart := false, narrowed := true }
def ClusterSyncsUptoSaid : Prop := clusterSyncsUptoRow.holds Try.pinned (OpenSpec.upto clusterSyncsSpec)

/-- 'leakresponselaw36.ClusterRuns', WHERE WHAT IT READS IS OF BULK AT MOST 1048576: true; the input reads as it did. -/
def clusterRunsUptoRow : OpenClaim := { program := "ytpneplgaeiomkaa", sum := "d822b64ef84f7f65f16da492e0151119c77872b2c994a7dee9cf32dbc2e7a09b", func := "leakresponse/leakresponselaw36.ClusterRuns", spec := "clusterRuns", unfollowed := true, recurses := true, apart := false, narrowed := true }
def ClusterRunsUptoSaid : Prop := clusterRunsUptoRow.holds Try.pinned (OpenSpec.upto clusterRunsSpec)

/-- 'leakresponselaw36.ClusterExact', WHERE WHAT IT READS IS OF BULK AT MOST 1048576: true; the input reads as it did. -/
def clusterExactUptoRow : OpenClaim := { program := "ytpneplgaeiomkaa", sum := "d822b64ef84f7f65f16da492e0151119c77872b2c994a7dee9cf32dbc2e7a09b", func := "leakresponse/leakresponselaw36.ClusterExact", spec := "clusterExact", unfollowed := true, recurses := true, apart := false, narrowed := true }
def ClusterExactUptoSaid : Prop := clusterExactUptoRow.holds Try.pinned (OpenSpec.upto clusterExactSpec)

/-- 'leakresponselaw36.ClusterFence', WHERE WHAT IT READS IS OF BULK AT MOST 1048576: true; the input reads as it did. -/
def clusterFenceUptoRow : OpenClaim := { program := "ytpneplgaeiomkaa", sum := "d822b64ef84f7f65f16da492e0151119c77872b2c994a7dee9cf32dbc2e7a09b", func := "leakresponse/leakresponselaw36.ClusterFence", spec := "clusterFence", unfollowed := true, recurses := true, apart := false, narrowed := true }
def ClusterFenceUptoSaid : Prop := clusterFenceUptoRow.holds Try.pinned (OpenSpec.upto clusterFenceSpec)

/-- 'leakresponselaw36.ClusterRevives', WHERE WHAT IT READS IS OF BULK AT MOST 1048576: true; the input reads as it did. -/
def clusterRevivesUptoRow : OpenClaim := { program := "ytpneplgaeiomkaa", sum := "d822b64ef84f7f65f16da492e0151119c77872b2c994a7dee9cf32dbc2e7a09b", func := "leakresponse/leakresponselaw36.ClusterRevives", spec := "clusterRevives", unfollowed := true, recurses := true, apart := false, narrowed := true }
def ClusterRevivesUptoSaid : Prop := clusterRevivesUptoRow.holds Try.pinned (OpenSpec.upto clusterRevivesSpec)

end Rows
end Go.Proofs.Ytpneplgaeiomkaa
