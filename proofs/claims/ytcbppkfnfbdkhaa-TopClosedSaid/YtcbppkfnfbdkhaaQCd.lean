/- Directories: Check, Valid. -/
import Derived.Test.YtcbppkfnfbdkhaaQCc
set_option linter.all false
set_option maxRecDepth 20000
set_option maxHeartbeats 2000000
namespace Go.Proofs.Ytcbppkfnfbdkhaa
open Go.RowKit Go.Shelf
theorem evOk_iff {d : Dir} {t : Int} {x : Mb} : evOk d t x = true ↔ (x.kind = 1 ∨ x.kind = 2) ∧ t ≤ x.time ∧ x.time ≤ 1099511627776 ∧ d.ex x.prin = true ∧ d.grp x.grp = true ∧ ¬ x.prin = x.grp := by
  simp [evOk, and_assoc]
theorem dirB_iff {d : Dir} : dirB d = true ↔ d.kinds.length ≤ 24 ∧ d.evs.length ≤ 120 ∧ (∀ k ∈ d.kinds, 1 ≤ k ∧ k ≤ 3) ∧ ∀ i, i < d.evs.length → evOk d (prevT d.evs i) (gt d.evs (i : Int)) = true := by
  simp [dirB, evsB, allN_iff, inB, and_assoc]
theorem dirB_no {d : Dir} (h : ¬ (d.kinds.length ≤ 24 ∧ d.evs.length ≤ 120 ∧ (∀ k ∈ d.kinds, 1 ≤ k ∧ k ≤ 3) ∧ ∀ i, i < d.evs.length → evOk d (prevT d.evs i) (gt d.evs (i : Int)) = true)) : dirB d = false := by
  rw [Bool.eq_false_iff]; exact fun e => h (dirB_iff.1 e)
theorem kinds_ok {l : List Int} : (l.any fun k => !inB k 1 3) = false ↔ ∀ k ∈ l, 1 ≤ k ∧ k ≤ 3 := by
  simp [inB]
theorem prevT_succ (l : List Mb) (i : Nat) : prevT l (i + 1) = (gt l (i : Int)).time := by
  unfold prevT; rw [if_neg (by omega)]; congr 1; congr 1; omega
theorem dCheck_ic (d : Dir) : ICt 154 [d.v] (fun v => v = iv (if dirB d = true then 0 else 30)) := (dCheck_V d _).2 (by
  have bad : (¬ (d.kinds.length ≤ 24 ∧ d.evs.length ≤ 120 ∧ (∀ k ∈ d.kinds, 1 ≤ k ∧ k ≤ 3) ∧ ∀ i, i < d.evs.length → evOk d (prevT d.evs i) (gt d.evs (i : Int)) = true)) → iv 30 = iv (if dirB d = true then 0 else 30) := fun h => by simp [dirB_no h]
  (delta dCheck_V; dsimp only [mkV])
  (repeat' (first | with_reducible refine brn_nd (fun h => ?_) (fun h => ?_) | with_reducible refine brn_d (fun h => ?_) (fun h => ?_) | with_reducible refine brn_nn (fun h => ?_) (fun h => ?_) | with_reducible refine brn_nb (fun h => ?_) (fun h => ?_) | with_reducible refine Brn.mk (fun h => ?_) (fun h => ?_) | with_reducible refine Chk.mk ?_ ?_ | with_reducible refine Bth.mk ?_ ?_ | with_reducible refine Fct.mk (fun hf => ?_)))
  · exact bad (by omega)
  · exact bad (by omega)
  · refine bad fun hh => ?_
    rw [kinds_ok.2 hh.2.2.1] at h; cases h
  have hk : (d.kinds.any fun k => !inB k 1 3) = false := by assumption
  refine up2 (fun t z => ∃ i : Nat, z = i ∧ t = prevT d.evs i ∧ ∀ j, j < i → evOk d (prevT d.evs j) (gt d.evs (j : Int)) = true) (by omega) ⟨0, rfl, rfl, by intros; omega⟩ ?_ ?_
  · rintro I μ t z h0 h1 ⟨i, rfl, rfl, hj⟩ nx
    have key := @evOk_iff d (prevT d.evs i) (gt d.evs (i : Int))
    cases hv : evOk d (prevT d.evs i) (gt d.evs (i : Int)) with
    | false =>
      have hb := bad fun hh => by rw [hh.2.2.2 i (by omega)] at hv; cases hv
      (repeat' (first | with_reducible refine brn_nd (fun h => ?_) (fun h => ?_) | with_reducible refine brn_d (fun h => ?_) (fun h => ?_) | with_reducible refine brn_nn (fun h => ?_) (fun h => ?_) | with_reducible refine brn_nb (fun h => ?_) (fun h => ?_) | with_reducible refine Brn.mk (fun h => ?_) (fun h => ?_) | with_reducible refine Chk.mk ?_ ?_ | with_reducible refine Bth.mk ?_ ?_ | with_reducible refine Fct.mk (fun hf => ?_)))
      all_goals (first | exact hb | omega | skip)
      all_goals (exfalso; rw [key.2 (by refine ⟨by omega, by omega, by omega, by assumption, by assumption, by assumption⟩)] at hv; cases hv)
    | true =>
      have hh := key.1 hv
      obtain ⟨k1, k2, k3, k4, k5, k6⟩ := hh
      (repeat' (first | with_reducible refine brn_nd (fun h => ?_) (fun h => ?_) | with_reducible refine brn_d (fun h => ?_) (fun h => ?_) | with_reducible refine brn_nn (fun h => ?_) (fun h => ?_) | with_reducible refine brn_nb (fun h => ?_) (fun h => ?_) | with_reducible refine Brn.mk (fun h => ?_) (fun h => ?_) | with_reducible refine Chk.mk ?_ ?_ | with_reducible refine Bth.mk ?_ ?_ | with_reducible refine Fct.mk (fun hf => ?_)))
      all_goals (first | omega | (exfalso; omega) | (exfalso; simp_all; done) | skip)
      all_goals exact nx _ ⟨i + 1, by omega, (prevT_succ _ _).symm, fun j hj' => by
        by_cases e : j < i
        · exact hj j e
        · obtain rfl : j = i := by omega
          exact hv⟩
  · rintro I μ t ⟨i, hi, _, hj⟩
    have : dirB d = true := dirB_iff.2 ⟨by omega, by omega, kinds_ok.1 hk, fun j hj' => hj j (by omega)⟩
    simp [this])
end Go.Proofs.Ytcbppkfnfbdkhaa
