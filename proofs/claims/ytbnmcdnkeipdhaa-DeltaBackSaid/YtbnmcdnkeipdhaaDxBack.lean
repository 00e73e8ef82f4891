/- DeltaBack, shown. -/
import Derived.Test.YtbnmcdnkeipdhaaDkBack
set_option linter.all false
set_option maxRecDepth 20000
set_option maxHeartbeats 4000000
namespace Go.Proofs.Ytbnmcdnkeipdhaa
open Go.RowKit Go.Shelf
theorem sumA_bd {k : Int} (hk : 0 ≤ k) : ∀ l : List Opn, (∀ o ∈ l, amt o ≤ k) → sumA l ≤ l.length * k := by
  intro l
  induction l with
  | nil => intro _; simp [sumA]
  | cons o l ih =>
    intro h
    have h1 := h o (by simp)
    have h2 := ih fun o' ho => h o' (by simp [ho])
    rw [sumA_cons, List.length_cons]
    have e : ((l.length + 1 : Nat) : Int) * k = l.length * k + k := by rw [Int.natCast_add, Int.add_mul]; simp
    rw [e]; omega
theorem flat_bd {k : Nat} : ∀ l : List Opn, (∀ o ∈ l, (opB o).length ≤ k) → (l.flatMap opB).length ≤ l.length * k := by
  intro l
  induction l with
  | nil => intro _; simp
  | cons o l ih =>
    intro h
    have h1 := h o (by simp)
    have h2 := ih fun o' ho => h o' (by simp [ho])
    rw [List.flatMap_cons, List.length_append, List.length_cons, Nat.add_mul]
    omega
theorem made_good {n : Nat} (hn : n ≤ 30) {l : List Opn} (hl : l.length ≤ 5) (hg : ∀ o ∈ l, fitsB o.frm o.sz o.dat.length n = true ∧ o.dat.length ≤ 6 ∧ InB o.dat) : fmtE l = 0 ∧ parseS (fmtB l) = (l, 0) ∧ chkO n l = 0 := by
  have key : ∀ o ∈ l, (o.sz = 0 ∧ o.frm = 0 ∧ 0 < o.dat.length ∧ o.dat.length ≤ 6) ∨ (0 < o.sz ∧ 0 ≤ o.frm ∧ o.dat.length = 0 ∧ o.frm ≤ 30 ∧ o.sz ≤ 30) := fun o ho => by
    obtain ⟨h1, h2, _⟩ := hg o ho
    rw [fitsB_iff] at h1
    omega
  have hr : ∀ o ∈ l, rightO o = true ∧ largeO o = false := fun o ho => by
    have h := key o ho
    refine ⟨?_, large_f (by omega) (by omega) (by omega)⟩
    unfold rightO rightB
    by_cases hs : o.sz = 0
    · rw [if_pos hs]; simp; omega
    · rw [if_neg hs]
      simp only [Bool.and_eq_true, decide_eq_true_eq]
      omega
  have hlen : ∀ o ∈ l, (opB o).length ≤ 10 := fun o ho => by
    have h := key o ho
    unfold opB threeS
    split <;> simp <;> omega
  have e0 : fmtE l = 0 := by
    unfold fmtE
    rw [if_neg, if_pos (List.all_eq_true.2 fun o ho => (hr o ho).1)]
    intro h
    rcases h with h | h
    · omega
    · obtain ⟨o, ho, h⟩ := List.any_eq_true.1 h
      rw [(hr o ho).2] at h; cases h
  have hb := flat_bd l hlen
  refine ⟨e0, ?_, chk_iff.2 ⟨by omega, by omega, ?_, List.all_eq_true.2 fun o ho => (hg o ho).1⟩⟩
  · unfold fmtB
    rw [if_pos e0]
    exact parse_back (by omega) hr (by omega)
  · have := sumA_bd (k := 30) (by omega) l fun o ho => by
      have h := key o ho
      unfold amt; split <;> omega
    omega
theorem back_il (tape : List Int) : ILt 7 [lv tape] := (lawBack_V tape).2 (by
  (delta lawBack_V; dsimp only [mkV])
  (repeat' (first | with_reducible refine brn_nd (fun h => ?_) (fun h => ?_) | with_reducible refine brn_d (fun h => ?_) (fun h => ?_) | with_reducible refine brn_nn (fun h => ?_) (fun h => ?_) | with_reducible refine brn_nb (fun h => ?_) (fun h => ?_) | with_reducible refine Brn.mk (fun h => ?_) (fun h => ?_) | with_reducible refine Chk.mk ?_ ?_ | with_reducible refine Bth.mk ?_ ?_ | with_reducible refine Fct.mk (fun hf => ?_)))
  · omega
  intro n hn
  (repeat' (first | with_reducible refine brn_nd (fun h => ?_) (fun h => ?_) | with_reducible refine brn_d (fun h => ?_) (fun h => ?_) | with_reducible refine brn_nn (fun h => ?_) (fun h => ?_) | with_reducible refine brn_nb (fun h => ?_) (fun h => ?_) | with_reducible refine Brn.mk (fun h => ?_) (fun h => ?_) | with_reducible refine Chk.mk ?_ ?_ | with_reducible refine Bth.mk ?_ ?_ | with_reducible refine Fct.mk (fun hf => ?_)))
  · omega
  intro base hb
  (repeat' (first | with_reducible refine brn_nd (fun h => ?_) (fun h => ?_) | with_reducible refine brn_d (fun h => ?_) (fun h => ?_) | with_reducible refine brn_nn (fun h => ?_) (fun h => ?_) | with_reducible refine brn_nb (fun h => ?_) (fun h => ?_) | with_reducible refine Brn.mk (fun h => ?_) (fun h => ?_) | with_reducible refine Chk.mk ?_ ?_ | with_reducible refine Bth.mk ?_ ?_ | with_reducible refine Fct.mk (fun hf => ?_)))
  · omega
  intro l hl
  obtain ⟨g1, g2, g3⟩ := made_good (n := base.length) (by omega) hl.1 hl.2
  rw [g1, g2, g3]
  (repeat' (first | with_reducible refine brn_nd (fun h => ?_) (fun h => ?_) | with_reducible refine brn_d (fun h => ?_) (fun h => ?_) | with_reducible refine brn_nn (fun h => ?_) (fun h => ?_) | with_reducible refine brn_nb (fun h => ?_) (fun h => ?_) | with_reducible refine Brn.mk (fun h => ?_) (fun h => ?_) | with_reducible refine Chk.mk ?_ ?_ | with_reducible refine Bth.mk ?_ ?_ | with_reducible refine Fct.mk (fun hf => ?_)))
  all_goals first | rfl | (exfalso; contradiction) | (exfalso; rename_i h; exact h rfl) | trace_state)
end Go.Proofs.Ytbnmcdnkeipdhaa
