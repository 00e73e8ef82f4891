/-
  No cell of these rows narrows 'for every input' (looked for: loops, veiled, ifaces, maps, wideKeys, modest, calm, conditions, laid).
  DERIVED. THE GIVEN ROWS OF THIS SEAT. 11 by the template 'for every input the law returns true; each argument reads behind the call as it read before'; 0 by the template 'total and deterministic' (their statements: YtdpcfebfgejdmaaTotals.lean).
  GIVEN WITH THE SEED: the statements are not yours to turn. If you find one false, say at which input.
  Laid BY PROGRAM, IN A SANDBOX (cutbox-rows.mjs): the forced cells as the released guide's own fill.sh prints them over the translation db5ad2332ac69986… (all of the seat's roots in one cut). By AI agents, Wed Nov 11 2026. No macro, syntax, notation, axiom, sorry.
-/
import Derived.Test.YtdpcfebfgejdmaaChecked
import GoSem.Claim
import GoSem.ClaimJoined
import GoSem.ClaimMapViews
import Derived.JoinedTies
import Derived.KernelRfl
namespace Go.Proofs.Ytdpcfebfgejdmaa
/- THE CELL 'sum', in the pinned program and in every row, IS THE sha256 OF THE DUMP (.gsa) THAT YtdpcfebfgejdmaaProg.lean LOADS. Nothing in Lean hashes anything: it is a label: what it is worth is what the hold of that sum in a sandbox is worth. -/
noncomputable def Try.pinned : Pinned := { name := "ytdpcfebfgejdmaa", sum := "db5ad2332ac69986d4ac70d3cf2109b16cbd1a6a38a696f5414337dd755f1450", checked := Try.checked }
namespace Rows
def none {H : Type} : Left H := { results := [], args := [] }

/-- 'leakresponselaw24.RegistryOverlaps': WHATEVER THE INPUT: true; the input reads as it did. -/
def registryOverlapsSpec : ChangeSpec := { name := "registryOverlaps", fn := fun _ => fun
  | [d] => { results := [.lit (.bool true)], args := [d] }
  | _ => none }
def registryOverlapsRow : OpenClaim := { program := "ytdpcfebfgejdmaa", sum := "db5ad2332ac69986d4ac70d3cf2109b16cbd1a6a38a696f5414337dd755f1450", func := "leakresponse/leakresponselaw24.RegistryOverlaps", spec := "registryOverlaps", unfollowed := true, recurses := true, apart := false }
def RegistryOverlapsSaid : Prop := registryOverlapsRow.holds Try.pinned (OpenSpec.ofChange registryOverlapsSpec)

/-- ITS FALSE NEIGHBOUR: 'it returns false'. Refute it at one input. -/
def registryOverlapsWrong : ChangeSpec := { name := "registryOverlaps", fn := fun _ => fun
  | [d] => { results := [.lit (.bool false)], args := [d] }
  | _ => none }
def RegistryOverlapsWrongFalsely : Prop := registryOverlapsRow.holds Try.pinned (OpenSpec.ofChange registryOverlapsWrong)

/-- 'leakresponselaw24.RegistryFinds': WHATEVER THE INPUT: true; the input reads as it did. -/
def registryFindsSpec : ChangeSpec := { name := "registryFinds", fn := fun _ => fun
  | [d] => { results := [.lit (.bool true)], args := [d] }
  | _ => none }
def registryFindsRow : OpenClaim := { program := "ytdpcfebfgejdmaa", sum := "db5ad2332ac69986d4ac70d3cf2109b16cbd1a6a38a696f5414337dd755f1450", func := "leakresponse/leakresponselaw24.RegistryFinds", spec := "registryFinds", unfollowed := true, recurses := true, apart := false }
def RegistryFindsSaid : Prop := registryFindsRow.holds Try.pinned (OpenSpec.ofChange registryFindsSpec)

/-- ITS FALSE NEIGHBOUR: 'it returns false'. Refute it at one input. -/
def registryFindsWrong : ChangeSpec := { name := "registryFinds", fn := fun _ => fun
  | [d] => { results := [.lit (.bool false)], args := [d] }
  | _ => none }
def RegistryFindsWrongFalsely : Prop := registryFindsRow.holds Try.pinned (OpenSpec.ofChange registryFindsWrong)

/-- 'leakresponselaw24.RegistryRevokes': WHATEVER THE INPUT: true; the input reads as it did. -/
def registryRevokesSpec : ChangeSpec := { name := "registryRevokes", fn := fun _ => fun
  | [d] => { results := [.lit (.bool true)], args := [d] }
  | _ => none }
def registryRevokesRow : OpenClaim := { program := "ytdpcfebfgejdmaa", sum := "db5ad2332ac69986d4ac70d3cf2109b16cbd1a6a38a696f5414337dd755f1450", func := "leakresponse/leakresponselaw24.RegistryRevokes", spec := "registryRevokes", unfollowed := true, recurses := true, apart := false }
def RegistryRevokesSaid : Prop := registryRevokesRow.holds Try.pinned (OpenSpec.ofChange registryRevokesSpec)

/-- ITS FALSE NEIGHBOUR: 'it returns false'. Refute it at one input. -/
def registryRevokesWrong : ChangeSpec := { name := "registryRevokes", fn := fun _ => fun
  | [d] => { results := [.lit (.bool false)], args := [d] }
  | _ => none }
def RegistryRevokesWrongFalsely : Prop := registryRevokesRow.holds Try.pinned (OpenSpec.ofChange registryRevokesWrong)

/-- 'leakresponselaw24.RegistrySlots': WHATEVER THE INPUT: true; the input reads as it did. -/
def registrySlotsSpec : ChangeSpec := { name := "registrySlots", fn := fun _ => fun
  | [d] => { results := [.lit (.bool true)], args := [d] }
  | _ => none }
def registrySlotsRow : OpenClaim := { program := "ytdpcfebfgejdmaa", sum := "db5ad2332ac69986d4ac70d3cf2109b16cbd1a6a38a696f5414337dd755f1450", func := "leakresponse/leakresponselaw24.RegistrySlots", spec := "registrySlots", unfollowed := true, recurses := true, apart := false }
def RegistrySlotsSaid : Prop := registrySlotsRow.holds Try.pinned (OpenSpec.ofChange registrySlotsSpec)

/-- ITS FALSE NEIGHBOUR: 'it returns false'. Refute it at one input. -/
def registrySlotsWrong : ChangeSpec := { name := "registrySlots", fn := fun _ => fun
  | [d] => { results := [.lit (.bool false)], args := [d] }
  | _ => none }
def RegistrySlotsWrongFalsely : Prop := registrySlotsRow.holds Try.pinned (OpenSpec.ofChange registrySlotsWrong)

/-- 'leakresponselaw24.RegistryIssues': WHATEVER THE INPUT: true; the input reads as it did. -/
def registryIssuesSpec : ChangeSpec := { name := "registryIssues", fn := fun _ => fun
  | [d] => { results := [.lit (.bool true)], args := [d] }
  | _ => none }
def registryIssuesRow : OpenClaim := { program := "ytdpcfebfgejdmaa", sum := "db5ad2332ac69986d4ac70d3cf2109b16cbd1a6a38a696f5414337dd755f1450", func := "leakresponse/leakresponselaw24.RegistryIssues", spec := "registryIssues", unfollowed := true, recurses := true, apart := false }
def RegistryIssuesSaid : Prop := registryIssuesRow.holds Try.pinned (OpenSpec.ofChange registryIssuesSpec)

/-- ITS FALSE NEIGHBOUR: 'it returns false'. Refute it at one input. -/
def registryIssuesWrong : ChangeSpec := { name := "registryIssues", fn := fun _ => fun
  | [d] => { results := [.lit (.bool false)], args := [d] }
  | _ => none }
def RegistryIssuesWrongFalsely : Prop := registryIssuesRow.holds Try.pinned (OpenSpec.ofChange registryIssuesWrong)

/-- 'leakresponselaw26.OwnersOnce': WHATEVER THE INPUT: true; the input reads as it did. -/
def ownersOnceSpec : ChangeSpec := { name := "ownersOnce", fn := fun _ => fun
  | [d] => { results := [.lit (.bool true)], args := [d] }
  | _ => none }
def ownersOnceRow : OpenClaim := { program := "ytdpcfebfgejdmaa", sum := "db5ad2332ac69986d4ac70d3cf2109b16cbd1a6a38a696f5414337dd755f1450", func := "leakresponse/leakresponselaw26.OwnersOnce", spec := "ownersOnce", unfollowed := true, recurses := true, apart := false }
def OwnersOnceSaid : Prop := ownersOnceRow.holds Try.pinned (OpenSpec.ofChange ownersOnceSpec)

/-- ITS FALSE NEIGHBOUR: 'it returns false'. Refute it at one input. -/
def ownersOnceWrong : ChangeSpec := { name := "ownersOnce", fn := fun _ => fun
  | [d] => { results := [.lit (.bool false)], args := [d] }
  | _ => none }
def OwnersOnceWrongFalsely : Prop := ownersOnceRow.holds Try.pinned (OpenSpec.ofChange ownersOnceWrong)

/-- 'leakresponselaw26.OwnersWays': WHATEVER THE INPUT: true; the input reads as it did. -/
def ownersWaysSpec : ChangeSpec := { name := "ownersWays", fn := fun _ => fun
  | [d] => { results := [.lit (.bool true)], args := [d] }
  | _ => none }
def ownersWaysRow : OpenClaim := { program := "ytdpcfebfgejdmaa", sum := "db5ad2332ac69986d4ac70d3cf2109b16cbd1a6a38a696f5414337dd755f1450", func := "leakresponse/leakresponselaw26.OwnersWays", spec := "ownersWays", unfollowed := true, recurses := true, apart := false }
def OwnersWaysSaid : Prop := ownersWaysRow.holds Try.pinned (OpenSpec.ofChange ownersWaysSpec)

/-- ITS FALSE NEIGHBOUR: 'it returns false'. Refute it at one input. -/
def ownersWaysWrong : ChangeSpec := { name := "ownersWays", fn := fun _ => fun
  | [d] => { results := [.lit (.bool false)], args := [d] }
  | _ => none }
def OwnersWaysWrongFalsely : Prop := ownersWaysRow.holds Try.pinned (OpenSpec.ofChange ownersWaysWrong)

/-- 'leakresponselaw26.OwnersNew': WHATEVER THE INPUT: true; the input reads as it did. -/
def ownersNewSpec : ChangeSpec := { name := "ownersNew", fn := fun _ => fun
  | [d] => { results := [.lit (.bool true)], args := [d] }
  | _ => none }
def ownersNewRow : OpenClaim := { program := "ytdpcfebfgejdmaa", sum := "db5ad2332ac69986d4ac70d3cf2109b16cbd1a6a38a696f5414337dd755f1450", func := "leakresponse/leakresponselaw26.OwnersNew", spec := "ownersNew", unfollowed := true, recurses := true, apart := false }
def OwnersNewSaid : Prop := ownersNewRow.holds Try.pinned (OpenSpec.ofChange ownersNewSpec)

/-- ITS FALSE NEIGHBOUR: 'it returns false'. Refute it at one input. -/
def ownersNewWrong : ChangeSpec := { name := "ownersNew", fn := fun _ => fun
  | [d] => { results := [.lit (.bool false)], args := [d] }
  | _ => none }
def OwnersNewWrongFalsely : Prop := ownersNewRow.holds Try.pinned (OpenSpec.ofChange ownersNewWrong)

/-- 'leakresponselaw26.OwnersExact': WHATEVER THE INPUT: true; the input reads as it did. -/
def ownersExactSpec : ChangeSpec := { name := "ownersExact", fn := fun _ => fun
  | [d1, d2, d3, d4, d5] => { results := [.lit (.bool true)], args := [d1, d2, d3, d4, d5] }
  | _ => none }
def ownersExactRow : OpenClaim := { program := "ytdpcfebfgejdmaa", sum := "db5ad2332ac69986d4ac70d3cf2109b16cbd1a6a38a696f5414337dd755f1450", func := "leakresponse/leakresponselaw26.OwnersExact", spec := "ownersExact", unfollowed := true, recurses := true, apart := false }
def OwnersExactSaid : Prop := ownersExactRow.holds Try.pinned (OpenSpec.ofChange ownersExactSpec)

/-- ITS FALSE NEIGHBOUR: 'it returns false'. Refute it at one input. -/
def ownersExactWrong : ChangeSpec := { name := "ownersExact", fn := fun _ => fun
  | [d1, d2, d3, d4, d5] => { results := [.lit (.bool false)], args := [d1, d2, d3, d4, d5] }
  | _ => none }
def OwnersExactWrongFalsely : Prop := ownersExactRow.holds Try.pinned (OpenSpec.ofChange ownersExactWrong)

/-- 'leakresponselaw26.OwnersNobody': WHATEVER THE INPUT: true; the input reads as it did. -/
def ownersNobodySpec : ChangeSpec := { name := "ownersNobody", fn := fun _ => fun
  | [d] => { results := [.lit (.bool true)], args := [d] }
  | _ => none }
def ownersNobodyRow : OpenClaim := { program := "ytdpcfebfgejdmaa", sum := "db5ad2332ac69986d4ac70d3cf2109b16cbd1a6a38a696f5414337dd755f1450", func := "leakresponse/leakresponselaw26.OwnersNobody", spec := "ownersNobody", unfollowed := true, recurses := true, apart := false }
def OwnersNobodySaid : Prop := ownersNobodyRow.holds Try.pinned (OpenSpec.ofChange ownersNobodySpec)

/-- ITS FALSE NEIGHBOUR: 'it returns false'. Refute it at one input. -/
def ownersNobodyWrong : ChangeSpec := { name := "ownersNobody", fn := fun _ => fun
  | [d] => { results := [.lit (.bool false)], args := [d] }
  | _ => none }
def OwnersNobodyWrongFalsely : Prop := ownersNobodyRow.holds Try.pinned (OpenSpec.ofChange ownersNobodyWrong)

/-- 'leakresponselaw24.RegistryExact': WHATEVER THE INPUT: true; the input reads as it did. -/
def registryExactSpec : ChangeSpec := { name := "registryExact", fn := fun _ => fun
  | [d1, d2, d3, d4, d5, d6] => { results := [.lit (.bool true)], args := [d1, d2, d3, d4, d5, d6] }
  | _ => none }
def registryExactRow : OpenClaim := { program := "ytdpcfebfgejdmaa", sum := "db5ad2332ac69986d4ac70d3cf2109b16cbd1a6a38a696f5414337dd755f1450", func := "leakresponse/leakresponselaw24.RegistryExact", spec := "registryExact", unfollowed := true, recurses := true, apart := false }
def RegistryExactSaid : Prop := registryExactRow.holds Try.pinned (OpenSpec.ofChange registryExactSpec)

/-- ITS FALSE NEIGHBOUR: 'it returns false'. Refute it at one input. -/
def registryExactWrong : ChangeSpec := { name := "registryExact", fn := fun _ => fun
  | [d1, d2, d3, d4, d5, d6] => { results := [.lit (.bool false)], args := [d1, d2, d3, d4, d5, d6] }
  | _ => none }
def RegistryExactWrongFalsely : Prop := registryExactRow.holds Try.pinned (OpenSpec.ofChange registryExactWrong)

/- THE SECOND FORM. 'bulk': how many values and letters a reading holds, each counted each time it is reached (what is shared counts as often as it is met; a slice's spare places count too). A statement '..UptoSaid' is the law's where the arguments, and the package variables that the reading takes, are together of bulk at most 1048576: NARROWER than '..Said'. Prove '..Said' where nothing that the law and all that it calls make is longer than what came in: it says more and counts as full. Else prove '..UptoSaid'. A law counts once. -/
mutual
def uptoBulk {H : Type} : DataW H → Nat
  | .lit (.string bytes) => bytes.length + 1
  | .lit _ => 1
  | .nil => 1
  | .ptr d => uptoBulk d + 1
  | .slice elems spare => uptoBulkAll elems + uptoBulkAll spare + 1
  | .agg parts => uptoBulkAll parts + 1
  | .iface _ d => uptoBulk d + 1
  | .map entries => uptoBulkEntries entries + 1
  | .held _ => 1
def uptoBulkAll {H : Type} : List (DataW H) → Nat
  | [] => 0
  | d :: r => uptoBulk d + uptoBulkAll r
def uptoBulkEntries {H : Type} : List (Lit × DataW H) → Nat
  | [] => 0
  | x :: r => uptoBulkEntry x + uptoBulkEntries r
def uptoBulkEntry {H : Type} : Lit × DataW H → Nat
  | (.string bytes, d) => bytes.length + uptoBulk d + 1
  | (_, d) => uptoBulk d + 1
 end
def uptoSmall : (H : Type) → List (DataW H) → Bool := fun _ ds => decide (uptoBulkAll ds ≤ 1048576)
def OpenSpec.upto (s : _root_.Go.ChangeSpec) : _root_.Go.OpenSpec := { _root_.Go.OpenSpec.ofChange s with cond := some uptoSmall }

/-- 'leakresponselaw24.RegistryOverlaps', WHERE WHAT IT READS IS OF BULK AT MOST 1048576: true; the input reads as it did. -/
def registryOverlapsUptoRow : OpenClaim := { program := "ytdpcfebfgejdmaa", sum := "db5ad2332ac69986d4ac70d3cf2109b16cbd1a6a38a696f5414337dd755f1450", func := "leakresponse/leakresponselaw24.RegistryOverlaps", spec := "registryOverlaps", unfollowed := true, recurses := true, apart := false, narrowed := true }
def RegistryOverlapsUptoSaid : Prop := registryOverlapsUptoRow.holds Try.pinned (OpenSpec.upto registryOverlapsSpec)

/-- 'leakresponselaw24.RegistryFinds', WHERE WHAT IT READS IS OF BULK AT MOST 1048576: true; the input reads as it did. -/
def registryFindsUptoRow : OpenClaim := { program := "ytdpcfebfgejdmaa", sum := "db5ad2332ac69986d4ac70d3cf2109b16cbd1a6a38a696f5414337dd755f1450", func := "leakresponse/leakresponselaw24.RegistryFinds", spec := "registryFinds", unfollowed := true, recurses := true, apart := false, narrowed := true }
def RegistryFindsUptoSaid : Prop := registryFindsUptoRow.holds Try.pinned (OpenSpec.upto registryFindsSpec)

/-- 'leakresponselaw24.RegistryRevokes', WHERE WHAT IT READS IS OF BULK AT MOST 1048576: true; the input reads as it did. -/
def registryRevokesUptoRow : OpenClaim := { program := "ytdpcfebfgejdmaa", sum := "db5ad2332ac69986d4ac70d3cf2109b16cbd1a6a38a696f5414337dd755f1450", func := "leakresponse/leakresponselaw24.RegistryRevokes", spec := "registryRevokes", unfollowed := true, recurses := true, apart := false, narrowed := true }
def RegistryRevokesUptoSaid : Prop := registryRevokesUptoRow.holds Try.pinned (OpenSpec.upto registryRevokesSpec)

/-- 'leakresponselaw24.RegistrySlots', WHERE WHAT IT READS IS OF BULK AT MOST 1048576: true; the input reads as it did. -/
def registrySlotsUptoRow : OpenClaim := { program := "ytdpcfebfgejdmaa", sum := "db5ad2332ac69986d4ac70d3cf2109b16cbd1a6a38a696f5414337dd755f1450", func := "leakresponse/leakresponselaw24.RegistrySlots", spec := "registrySlots", unfollowed := true, recurses := true, apart := false, narrowed := true }
def RegistrySlotsUptoSaid : Prop := registrySlotsUptoRow.holds Try.pinned (OpenSpec.upto registrySlotsSpec)

/-- 'leakresponselaw24.RegistryIssues', WHERE WHAT IT READS IS OF BULK AT MOST 1048576: true; the input reads as it did. -/
def registryIssuesUptoRow : OpenClaim := { program := "ytdpcfebfgejdmaa", sum := "db5ad2332ac69986d4ac70d3cf2109b16cbd1a6a38a696f5414337dd755f1450", func := "leakresponse/leakresponselaw24.RegistryIssues", spec := "registryIssues", unfollowed := true, recurses := true, apart := false, narrowed := true }
def RegistryIssuesUptoSaid : Prop := registryIssuesUptoRow.holds Try.pinned (OpenSpec.upto registryIssuesSpec)

/-- 'leakresponselaw26.OwnersOnce', WHERE WHAT IT READS IS OF BULK AT MOST 1048576: true; the input reads as it did. -/
def ownersOnceUptoRow : OpenClaim := { program := "ytdpcfebfgejdmaa", sum := "db5ad2332ac69986d4ac70d3cf2109b16cbd1a6a38a696f5414337dd755f1450", func := "leakresponse/leakresponselaw26.OwnersOnce", spec := "ownersOnce", unfollowed := true, recurses := true, apart := false, narrowed := true }
def OwnersOnceUptoSaid : Prop := ownersOnceUptoRow.holds Try.pinned (OpenSpec.upto ownersOnceSpec)

/-- 'leakresponselaw26.OwnersWays', WHERE WHAT IT READS IS OF BULK AT MOST 1048576: true; the input reads as it did. -/
def ownersWaysUptoRow : OpenClaim := { program := "ytdpcfebfgejdmaa", sum := "db5ad2332ac69986d4ac70d3cf2109b16cbd1a6a38a696f5414337dd755f1450", func := "leakresponse/leakresponselaw26.OwnersWays", spec := "ownersWays", unfollowed := true, recurses := true, apart := false, narrowed := true }
def OwnersWaysUptoSaid : Prop := ownersWaysUptoRow.holds Try.pinned (OpenSpec.upto ownersWaysSpec)

/-- 'leakresponselaw26.OwnersNew', WHERE WHAT IT READS IS OF BULK AT MOST 1048576: true; the input reads as it did. -/
def ownersNewUptoRow : OpenClaim := { program := "ytdpcfebfgejdmaa", sum := "db5ad2332ac69986d4ac70d3cf2109b16cbd1a6a38a696f5414337dd755f1450", func := "leakresponse/leakresponselaw26.OwnersNew", spec := "ownersNew", unfollowed := true, recurses := true, apart := false, narrowed := true }
def OwnersNewUptoSaid : Prop := ownersNewUptoRow.holds Try.pinned (OpenSpec.upto ownersNewSpec)

/-- 'leakresponselaw26.OwnersExact', WHERE WHAT IT READS IS OF BULK AT MOST 1048576: true; the input reads as it did. -/
def ownersExactUptoRow : OpenClaim := { program := "ytdpcfebfgejdmaa", sum := "db5ad2332ac69986d4ac70d3cf2109b16cbd1a6a38a696f5414337dd755f1450", func := "leakresponse/leakresponselaw26.OwnersExact", spec := "ownersExact", unfollowed := true, recurses := true, apart := false, narrowed := true }
def OwnersExactUptoSaid : Prop := ownersExactUptoRow.holds Try.pinned (OpenSpec.upto ownersExactSpec)

/-- 'leakresponselaw26.OwnersNobody', WHERE WHAT IT READS IS OF BULK AT MOST 1048576: true; the input reads as it did. -/
def ownersNobodyUptoRow : OpenClaim := { program := "ytdpcfebfgejdmaa", sum := "db5ad2332ac69986d4ac70d3cf2109b16cbd1a6a38a696f5414337dd755f1450", func := "leakresponse/leakresponselaw26.OwnersNobody", spec := "ownersNobody", unfollowed := true, recurses := true, apart := false, narrowed := true }
def OwnersNobodyUptoSaid : Prop := ownersNobodyUptoRow.holds Try.pinned (OpenSpec.upto ownersNobodySpec)

/-- 'leakresponselaw24.RegistryExact', WHERE WHAT IT READS IS OF BULK AT MOST 1048576: true; the input reads as it did. -/
def registryExactUptoRow : OpenClaim := { program := "ytdpcfebfgejdmaa", sum := "db5ad2332ac69986d4ac70d3cf2109b16cbd1a6a38a696f5414337dd755f1450", func := "leakresponse/leakresponselaw24.RegistryExact", spec := "registryExact", unfollowed := true, recurses := true, apart := false, narrowed := true }
def RegistryExactUptoSaid : Prop := registryExactUptoRow.holds Try.pinned (OpenSpec.upto registryExactSpec)

end Rows
end Go.Proofs.Ytdpcfebfgejdmaa
