/- Bent clusters. -/
import Derived.Test.YtpneplgaeiomkaaWu
import Derived.Test.YtpneplgaeiomkaaVa
set_option linter.all false
namespace Go.Proofs.Ytpneplgaeiomkaa
open Go.RowKit Go.Shelf
theorem Bent_nd (c : Cl) : ICp (validB c = true) 11 [.one .tape, c.v] (ND (fun x : Cl => x.reps.length ≤ 5) Cl.v) := fun h => (Bent_ic c h).mono fun v ⟨x, e1, e⟩ => ⟨x, e1, e⟩
end Go.Proofs.Ytpneplgaeiomkaa
