/- Archives: the law ArchiveFormats, shown. -/
import Derived.Test.YtbnmcdnkeipdhaaFvFormats
import Derived.Test.YtbnmcdnkeipdhaaLb4
set_option linter.all false
set_option maxRecDepth 20000
set_option maxHeartbeats 4000000
namespace Go.Proofs.Ytbnmcdnkeipdhaa
open Go.RowKit Go.Shelf
theorem EntP.small {l : List Ent} (h : EntP l) : ∀ x ∈ l, x.nm.size ≤ 2 ∧ x.dat.length ≤ 700 := fun x hx => by
  obtain ⟨i, hi, rfl⟩ := mem_gt hx
  rw [h.1 i hi]
  refine ⟨?_, (h.2 _ (gt_mem (by omega) (by omega))).1⟩
  unfold nmF
  rw [ByteArray.size_append, bsI_size]; exact Nat.le_refl 2
theorem tot_mem {l : List Ent} {x : Ent} (h : x ∈ l) : (x.dat.length : Int) + x.nm.size ≤ tot l := by
  induction l with
  | nil => cases h
  | cons y l ih =>
    have h1 := tot_pos l
    simp only [tot, List.map_cons, List.sum_cons] at h1 ⊢
    rcases List.mem_cons.1 h with h | h
    · subst h; omega
    · have := ih h; simp only [tot] at this; omega
theorem formats_il (tape : List Int) (raw : List Ent) (hr : ∀ x ∈ raw, x.nm.size ≤ 140737488355328 ∧ x.dat.length ≤ 140737488355328) : ILt 8 [lv tape, ev raw] := (lawFormats_V tape raw).2 (by
  (delta lawFormats_V; dsimp only [mkV])
  (repeat' (first | with_reducible refine brn_nd (fun h => ?_) (fun h => ?_) | with_reducible refine brn_d (fun h => ?_) (fun h => ?_) | with_reducible refine brn_nn (fun h => ?_) (fun h => ?_) | with_reducible refine brn_nb (fun h => ?_) (fun h => ?_) | with_reducible refine Brn.mk (fun h => ?_) (fun h => ?_) | with_reducible refine Chk.mk ?_ ?_ | with_reducible refine Bth.mk ?_ ?_ | with_reducible refine Fct.mk (fun hf => ?_)))
  · omega
  intro n hn
  (repeat' (first | with_reducible refine brn_nd (fun h => ?_) (fun h => ?_) | with_reducible refine brn_d (fun h => ?_) (fun h => ?_) | with_reducible refine brn_nn (fun h => ?_) (fun h => ?_) | with_reducible refine brn_nb (fun h => ?_) (fun h => ?_) | with_reducible refine Brn.mk (fun h => ?_) (fun h => ?_) | with_reducible refine Chk.mk ?_ ?_ | with_reducible refine Bth.mk ?_ ?_ | with_reducible refine Fct.mk (fun hf => ?_)))
  · omega
  rintro own ⟨hl, he⟩
  have hs := he.small
  (repeat' (first | with_reducible refine brn_nd (fun h => ?_) (fun h => ?_) | with_reducible refine brn_d (fun h => ?_) (fun h => ?_) | with_reducible refine brn_nn (fun h => ?_) (fun h => ?_) | with_reducible refine brn_nb (fun h => ?_) (fun h => ?_) | with_reducible refine Brn.mk (fun h => ?_) (fun h => ?_) | with_reducible refine Chk.mk ?_ ?_ | with_reducible refine Bth.mk ?_ ?_ | with_reducible refine Fct.mk (fun hf => ?_)))
  · exact ⟨by omega, fun x hx => by have := hs x hx; omega⟩
  intro b hb
  have hall : ∀ z : Int, 0 ≤ z → z < ([raw, own, b] : List (List Ent)).length → ∀ x ∈ gt [raw, own, b] z, x.nm.size ≤ 140737488355328 ∧ x.dat.length ≤ 140737488355328 := fun z h0 h1 => by
    have hm := gt_mem h0 h1
    generalize gt [raw, own, b] z = y at hm
    simp only [List.mem_cons, List.not_mem_nil, or_false] at hm
    rcases hm with h | h | h
    · subst h; exact hr
    · subst h; exact fun x hx => by have := hs x hx; omega
    · subst h; exact fun x hx => by have := hb.2 x hx; omega
  refine lp1 (fun z => 0 ≤ z ∧ z ≤ 3) (fun z => (3 - z).toNat) ⟨by omega, by omega⟩ ?_
  rintro I μ nx z ⟨z0, z1⟩
  have hlen : (([raw, own, b] : List (List Ent)).length : Int) = 3 := rfl
  (repeat' (first | with_reducible refine brn_nd (fun h => ?_) (fun h => ?_) | with_reducible refine brn_d (fun h => ?_) (fun h => ?_) | with_reducible refine brn_nn (fun h => ?_) (fun h => ?_) | with_reducible refine brn_nb (fun h => ?_) (fun h => ?_) | with_reducible refine Brn.mk (fun h => ?_) (fun h => ?_) | with_reducible refine Chk.mk ?_ ?_ | with_reducible refine Bth.mk ?_ ?_ | with_reducible refine Fct.mk (fun hf => ?_)))
  · omega
  · exact hall z z0 (by omega)
  · unfold InI; omega
  · exact nx _ _ ⟨z0, z1⟩ ⟨by omega, by omega⟩ (by omega)
  · have hf : fewB (gt [raw, own, b] z) = true := by simp_all
    unfold fewB at hf
    simp only [Bool.and_eq_true, decide_eq_true_eq] at hf
    exact ⟨by omega, fun x hx => by have := tot_mem hx; omega⟩
  · simp_all
  · simp_all
  · unfold InI; omega
  · exact nx _ _ ⟨z0, z1⟩ ⟨by omega, by omega⟩ (by omega)
  · rfl)
theorem formats_ils (tape : List Int) (raw : List Ent) (h : (Cell.list (raw.map Ent.row)).Sz reachBytes) : ILt 8 [lv tape, ev raw] := formats_il tape raw fun x hx => by
  cases h with
  | list h1 h2 =>
    have h3 := h2 _ (List.mem_map_of_mem hx)
    have h4 := h3 (.str x.nm) List.mem_cons_self
    have h5 := h3 (.list (x.dat.map irow_u8)) (List.mem_cons_of_mem _ List.mem_cons_self)
    have hb : reachBytes < 140737488355328 := by decide
    cases h4 with
    | str h4 =>
      cases h5 with
      | list h5 h6 =>
        rw [List.length_map] at h5
        omega
end Go.Proofs.Ytbnmcdnkeipdhaa
