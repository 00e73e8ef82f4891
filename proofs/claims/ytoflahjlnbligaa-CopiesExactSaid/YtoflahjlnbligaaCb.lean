/- Searches by a function. -/
import Derived.Test.YtoflahjlnbligaaCa
set_option linter.all false
set_option maxRecDepth 20000
set_option maxHeartbeats 2000000
namespace Go.Proofs.Ytoflahjlnbligaa
open Go.RowKit Go.Shelf
def FnC (f : Nat) (caps : List CV) (p : List DV → Option Cell) : Prop := Enters Try.prog f ∧ CV.ntL caps = true ∧ FnSpec Try.prog 26 f caps p
theorem PsS.cfn {H : List (Nat × VH)} {pu : Bool} {f : Nat} {cs cs' : List CV} {p : List DV → Option Cell} (h : PsL Try.prog 26 H pu cs cs') (hf : FnC f cs' p) : PsS Try.prog 26 H pu (.one (.clo f cs)) (.one (.fn p)) := .one (PsC.cfn h hf.1 hf.2.1 hf.2.2)
end Go.Proofs.Ytoflahjlnbligaa
