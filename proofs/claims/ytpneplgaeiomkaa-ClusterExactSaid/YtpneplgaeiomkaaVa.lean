/- Contracts of the tape and the makers, as one of many. -/
import Derived.Test.YtpneplgaeiomkaaWm
import Derived.Test.YtpneplgaeiomkaaIvw
set_option linter.all false
set_option maxRecDepth 20000
set_option maxHeartbeats 2000000
namespace Go.Proofs.Ytpneplgaeiomkaa
open Go.RowKit Go.Shelf
instance : Inhabited EvR := ⟨⟨0, 0, false⟩⟩
deriving instance DecidableEq for EvR
theorem EvR.row_mk (a0 : Int) (a1 : Int) (a2 : Bool) : [(.int .i64 a0 : Cell), (.int .i64 a1 : Cell), (.bool a2 : Cell)] = EvR.row ⟨a0, a1, a2⟩ := rfl
theorem EvR.v_mk (a0 : Int) (a1 : Int) (a2 : Bool) : EvR.v ⟨a0, a1, a2⟩ = .agg [.d (.int .i64 a0), .d (.int .i64 a1), .d (.bool a2)] := rfl
theorem EvR.ar {a0 : Int} {a1 : Int} {a2 : Bool} {xs : List EvR} {cs : List CV} (h : CvD cs (xs.flatMap EvR.row)) : CvD (.d (.int .i64 a0) :: .d (.int .i64 a1) :: .d (.bool a2) :: cs) ((⟨a0, a1, a2⟩ :: xs).flatMap EvR.row) := by rw [List.flatMap_cons]; exact (.d (.d (.d h)))
theorem next_nd (m : Int) : ICp (1 ≤ m ∧ m ≤ 65536) 20 [.one .tape, iv m] (ND (fun x : Int => 0 ≤ x ∧ x < m) iv) :=
  fun h => (next_ic m h.1 h.2).mono fun v ⟨x, h1, h2, e⟩ => ⟨x, ⟨h1, h2⟩, e⟩
theorem between_nd (a b : Int) : ICp (a ≤ b ∧ b - a < 65536 ∧ -65536 ≤ a ∧ b ≤ 65536) 15 [.one .tape, iv a, iv b] (ND (fun x : Int => a ≤ x ∧ x ≤ b) iv) :=
  fun h => (between_ic a b h.1 h.2.1 h.2.2.1 h.2.2.2).mono fun v ⟨x, h1, h2, e⟩ => ⟨x, ⟨h1, h2⟩, e⟩
theorem Cluster_nd : ICt 10 [.one .tape] (ND (fun c : Cl => MadeC c 0) Cl.v) := Cluster_ic
theorem Event_nd (c : Cl) : ICp (validB c = true) 39 [.one .tape, c.v] (ND (fun x : XvR => EvOk c x) XvR.v) := fun h => Event_ic c h
end Go.Proofs.Ytpneplgaeiomkaa
