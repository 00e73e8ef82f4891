/- Loops that count up; what is known of a state. -/
import Derived.Test.YtpneplgaeiomkaaWz
set_option linter.all false
set_option maxRecDepth 20000
namespace Go.Proofs.Ytpneplgaeiomkaa
open Go.RowKit Go.Shelf
def rst (live lh : List Nat) (idx : Nat) (i : Int) (s : St) : St := ⟨(idx, .one (.d (.int .i64 i))) :: live.map (fun x => (x, getF s.F x)), lh.map fun r => (r, getH s.H r)⟩
def rsta (live lh : List Nat) (idx : Nat) (i : Int) (F : List (Nat × SV)) (H : List (Nat × VH)) (s : St) : St := ⟨(idx, .one (.d (.int .i64 i))) :: (F ++ live.map (fun x => (x, getF s.F x))), H ++ lh.map fun r => (r, getH s.H r)⟩
end Go.Proofs.Ytpneplgaeiomkaa
