/- Archives: the reference's Walk, shown. -/
import Derived.Test.YtbnmcdnkeipdhaaIf
set_option linter.all false
set_option maxRecDepth 20000
set_option maxHeartbeats 8000000
namespace Go.Proofs.Ytbnmcdnkeipdhaa
open Go.RowKit Go.Shelf
noncomputable def wlkR (b : List Int) : List Ent × Int × Bool := wkS 3 (parL b) ⟨#[]⟩ [] 0
noncomputable def wlkL (b : List Int) : List Ent := if parE b = 0 then (if (wlkR b).2.2 = true then (wlkR b).1 else []) else []
noncomputable def wlkE (b : List Int) : Int := if parE b = 0 then (if (wlkR b).2.2 = true then 0 else 3) else parE b
theorem parL_small (b : List Int) : (parL b).length ≤ 64 ∧ ∀ x ∈ parL b, x.nm.size ≤ 40 ∧ x.dat.length ≤ 65536 := by
  unfold parL
  split
  · exact ⟨by simp, by simp⟩
  · split
    · rename_i h
      obtain ⟨v1, v2, v3, v4⟩ := valS_ok (parS_ok h)
      exact ⟨v1, fun x hx => ⟨(v4 x hx).2.1, (v4 x hx).2.2.2⟩⟩
    · exact ⟨by simp, by simp⟩
theorem rWalk_ic (b : List Int) : ICp (b.length ≤ 100000000) 47 [by_ b] (fun v => v = .tup [ev (wlkL b), iv (wlkE b)]) := fun hl => (rWalk_V b _).2 (by
  obtain ⟨q1, q2⟩ := parL_small b
  (delta rWalk_V; dsimp only [mkV])
  (repeat' (first | with_reducible refine brn_nd (fun h => ?_) (fun h => ?_) | with_reducible refine brn_d (fun h => ?_) (fun h => ?_) | with_reducible refine brn_nn (fun h => ?_) (fun h => ?_) | with_reducible refine brn_nb (fun h => ?_) (fun h => ?_) | with_reducible refine Brn.mk (fun h => ?_) (fun h => ?_) | with_reducible refine Chk.mk ?_ ?_ | with_reducible refine Bth.mk ?_ ?_ | with_reducible refine Fct.mk (fun hf => ?_)))
  · exact hl
  · have hn : ¬ parE b = 0 := by assumption
    unfold wlkL wlkE; rw [if_neg hn, if_neg hn]; rfl
  · exact ⟨by omega, fun x hx => by have := q2 x hx; omega, by decide, by omega, by omega, by omega, by omega, by simp⟩
  · have hn : parE b = 0 := by assumption
    have ho : ¬ (wlkR b).2.2 = true := by rw [Bool.not_eq_true]; assumption
    unfold wlkL wlkE; rw [if_pos hn, if_pos hn, if_neg ho, if_neg ho]; rfl
  · have hn : parE b = 0 := by assumption
    have ho : (wlkR b).2.2 = true := by assumption
    unfold wlkL wlkE; rw [if_pos hn, if_pos hn, if_pos ho, if_pos ho]; rfl)
end Go.Proofs.Ytbnmcdnkeipdhaa
