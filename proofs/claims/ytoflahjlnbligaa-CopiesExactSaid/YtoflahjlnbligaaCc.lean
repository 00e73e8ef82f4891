/- Directories: what is valid. -/
import Derived.Test.YtoflahjlnbligaaCb
import Derived.Test.YtoflahjlnbligaaWa
set_option linter.all false
set_option maxRecDepth 20000
set_option maxHeartbeats 2000000
namespace Go.Proofs.Ytoflahjlnbligaa
open Go.RowKit Go.Shelf
def inB (x lo hi : Int) : Bool := decide (lo ≤ x) && decide (x ≤ hi)
theorem inB_iff (x lo hi : Int) : inB x lo hi = true ↔ lo ≤ x ∧ x ≤ hi := by unfold inB; simp
theorem inB_not (x lo hi : Int) : inB x lo hi = false ↔ ¬ (lo ≤ x ∧ x ≤ hi) := by rw [← inB_iff]; simp
def Dir.ex (d : Dir) (p : Int) : Bool := decide (0 ≤ p) && decide (p < (d.kinds.length : Int))
def Dir.grp (d : Dir) (p : Int) : Bool := d.ex p && decide (gt d.kinds p = 2)
def evOk (d : Dir) (last : Int) (x : Mb) : Bool := (decide (x.kind = 1) || decide (x.kind = 2)) && decide (last ≤ x.time) && decide (x.time ≤ 1099511627776) && d.ex x.prin && d.grp x.grp && !decide (x.prin = x.grp)
def prevT (l : List Mb) (i : Nat) : Int := if i = 0 then 0 else (gt l ((i : Int) - 1)).time
def evsB (d : Dir) : Bool := allN d.evs.length fun i => evOk d (prevT d.evs i) (gt d.evs (i : Int))
def dirB (d : Dir) : Bool := decide (d.kinds.length ≤ 24) && decide (d.evs.length ≤ 120) && d.kinds.all (fun k => inB k 1 3) && evsB d
end Go.Proofs.Ytoflahjlnbligaa
