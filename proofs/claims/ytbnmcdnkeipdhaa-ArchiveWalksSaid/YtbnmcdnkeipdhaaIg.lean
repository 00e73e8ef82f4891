/- Archives: the reference's Walk, shown. -/
import Derived.Test.YtbnmcdnkeipdhaaIf
set_option linter.all false
set_option maxRecDepth 20000
set_option maxHeartbeats 8000000
namespace Go.Proofs.Ytbnmcdnkeipdhaa
open Go.RowKit Go.Shelf
noncomputable def wlkR (b : List Int) : List Ent × Int × Bool := wkS 3 (parL b) ⟨#[]⟩ [] 0
noncomputable def wlkL (b : List Int) : List Ent := if parE b = 0 then (if (wlkR b).2.2 = true then (wlkR b).1 else []) else []
noncomputable def wlkE (b : List Int) : Int := if parE b = 0 then (if (wlkR b).2.2 = true then 0 else 3) else parE b
theorem parL_small (b : List Int) : (parL b).length ≤ 64 ∧ ∀ x ∈ parL b, x.nm.size ≤ 40 ∧ x.dat.length ≤ 65536 := by
  unfold parL
  split
  · exact ⟨by simp, by simp⟩
  · split
    · rename_i h
      obtain ⟨v1, v2, v3, v4⟩ := valS_ok (parS_ok h)
      exact ⟨v1, fun x hx => ⟨(v4 x hx).2.1, (v4 x hx).2.2.2⟩⟩
    · exact ⟨by simp, by simp⟩
end Go.Proofs.Ytbnmcdnkeipdhaa
