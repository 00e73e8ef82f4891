/- Findings in order, as the reference says. -/
import Derived.Test.YtcbppkfnfbdkhaaJs
set_option linter.all false
set_option maxRecDepth 20000
set_option maxHeartbeats 4000000
namespace Go.Proofs.Ytcbppkfnfbdkhaa
open Go.RowKit Go.Shelf
theorem fcmp_eq (a b : Fnd) : fcmp a b = if a.kd < b.kd then -1 else if b.kd < a.kd then 1 else if a.pr < b.pr then -1 else if b.pr < a.pr then 1 else 0 := by
  unfold fcmp
  rw [orS_cons, orS_cons]
  unfold cmpN
  by_cases h1 : a.kd < b.kd
  · simp [h1]; rfl
  · by_cases h2 : b.kd < a.kd
    · simp [h1, h2]; rfl
    · simp only [h1, h2, if_false]
      by_cases h3 : a.pr < b.pr
      · simp [h3]; rfl
      · by_cases h4 : b.pr < a.pr
        · simp [h3, h4]; rfl
        · simp [h3, h4]; rfl
end Go.Proofs.Ytcbppkfnfbdkhaa
