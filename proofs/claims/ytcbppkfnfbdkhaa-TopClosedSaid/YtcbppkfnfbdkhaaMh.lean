/- Exposures: the check that the laws are awake, reckoned. -/
import Derived.Test.YtcbppkfnfbdkhaaMg
set_option linter.all false
set_option maxRecDepth 20000
set_option maxHeartbeats 4000000
namespace Go.Proofs.Ytcbppkfnfbdkhaa
open Go.RowKit Go.Shelf
def dA : Dir := ⟨[1, 2], [⟨9, 1, 0, 1⟩]⟩
def aA : Est := ⟨1, [⟨3, 5, 0, 0, 0, 2, 0⟩, ⟨4, 1, 0, 1, 0, 0, 0⟩]⟩
theorem aA_ok : estB aA = true := by decide +kernel
theorem aA_ts : alltS dA aA = [3, 4, 9] := by
  refine sorted_ext (alltS_sorted ..) (by decide) fun x => ?_
  rw [alltS_mem aA_ok]
  simp [dA, aA]
  omega
theorem aA_wh : whereS aA 2 3 = [0] ∧ whereS aA 2 4 = [0] ∧ whereS aA 2 9 = [0] := by decide +kernel
theorem aA_ln : linkS aA 0 3 = (0, false) ∧ linkS aA 0 4 = (0, false) ∧ linkS aA 0 9 = (0, false) := by decide +kernel
theorem aA_gr : grS 3 0 aA.evs = [] ∧ grS 4 0 aA.evs = [1] ∧ grS 9 0 aA.evs = [1] := by decide +kernel
theorem aA_fn : fineB dA aA 0 0 = true ∧ fineB dA aA 1 0 = false := by decide +kernel
theorem mem_upw {d : Dir} {p t q : Int} (hd : (dirB d && d.ex p) = true) : q ∈ upwS d p t ↔ (0 ≤ q ∧ q < (d.kinds.length : Int)) ∧ Rch (atT d t) p q := by
  unfold upwS
  rw [if_pos hd]
  unfold thoS
  rw [mem_selN, upS_len, atT_len]
  constructor
  · rintro ⟨h0, h1, h2⟩
    exact ⟨⟨h0, h1⟩, (upS_iff h0 (by rw [atT_len]; exact h1)).1 h2⟩
  · rintro ⟨⟨h0, h1⟩, h2⟩
    exact ⟨h0, h1, (upS_iff h0 (by rw [atT_len]; exact h1)).2 h2⟩
theorem dA_e : (dirB dA && dA.ex 0) = true := by decide +kernel
theorem dA_4 : atT dA 4 = [[false, false], [false, false]] := by decide +kernel
theorem dA_9 : atT dA 9 = [[false, true], [false, false]] := by decide +kernel
theorem aA_up4 : (1 : Int) ∉ upwS dA 0 4 := by
  rw [mem_upw dA_e, dA_4]
  rintro ⟨_, h⟩
  have key : ∀ q, Rch [[false, false], [false, false]] 0 q → q = 0 := fun q h => by
    induction h with
    | refl => rfl
    | @step q g h g0 g1 hg ih =>
      subst ih
      have hg1 : g < 2 := g1
      have : g = 0 ∨ g = 1 := by omega
      rcases this with rfl | rfl
      · rfl
      · exact absurd hg (by decide)
  have := key 1 h
  omega
theorem aA_up9 : (1 : Int) ∈ upwS dA 0 9 := by
  rw [mem_upw dA_e, dA_9]
  exact ⟨by decide, .step .refl (by omega) (by decide) (by decide)⟩
theorem aA_g : graB dA aA 0 0 3 = False ∧ graB dA aA 0 0 4 = False ∧ graB dA aA 0 0 9 = True := by
  obtain ⟨g3, g4, g9⟩ := aA_gr
  have hp : estP aA 0 = true := by decide +kernel
  refine ⟨eq_false ?_, eq_false ?_, eq_true ?_⟩
  · rintro ⟨q, ⟨_, h⟩, _⟩; rw [g3] at h; cases h
  · rintro ⟨q, ⟨_, h⟩, hu⟩
    rw [g4, List.mem_singleton] at h
    subst h; exact aA_up4 hu
  · exact ⟨1, ⟨hp, by rw [g9]; simp⟩, aA_up9⟩
theorem aA_may : mayS dA aA 0 0 3 = false ∧ mayS dA aA 0 0 4 = false ∧ mayS dA aA 0 0 9 = true ∧ ∀ t, mayS dA aA 1 0 t = false := by
  obtain ⟨a, b, c⟩ := aA_ln
  obtain ⟨e, f, g⟩ := aA_g
  obtain ⟨h, i⟩ := aA_fn
  unfold mayS
  refine ⟨?_, ?_, ?_, fun t => ?_⟩
  · rw [a]; simp [e]
  · rw [b]; simp [f]
  · rw [h]; simp [g]
  · rw [i]; rfl
theorem aA_pl (p : Int) : (plS dA aA 2 p 3).2 = canB dA aA p 3 0 ∧ (plS dA aA 2 p 4).2 = canB dA aA p 4 0 ∧ (plS dA aA 2 p 9).2 = canB dA aA p 9 0 := by
  obtain ⟨a, b, c⟩ := aA_wh
  unfold plS
  rw [a, b, c]
  refine ⟨?_, ?_, ?_⟩
  all_goals
    rw [List.find?_cons]
    split <;> (split at * <;> simp_all)
theorem aA_since : (sinceS dA aA 2 (-1)).2 = false ∧ sinceS dA aA 2 0 = (9, true) ∧ (sinceS dA aA 2 1).2 = false := by
  obtain ⟨a, b, c⟩ := aA_ln
  obtain ⟨m1, m2, m3, m4⟩ := aA_may
  unfold sinceS
  rw [aA_ts]
  have h1 := aA_pl (-1)
  have h2 := aA_pl 0
  have h3 := aA_pl 1
  unfold canB at h1 h2 h3
  rw [if_pos rfl, if_pos rfl, if_pos rfl, a, b, c] at h1
  rw [if_neg (by decide), if_neg (by decide), if_neg (by decide), m1, m2, m3] at h2
  rw [if_neg (by decide), if_neg (by decide), if_neg (by decide), m4, m4, m4] at h3
  simp only [List.find?_cons, List.find?_nil, h1, h2, h3]
  exact ⟨trivial, trivial, trivial⟩
theorem aA_all : allS dA aA 2 = [⟨0, 9⟩] := by
  obtain ⟨a, b, c⟩ := aA_since
  have e : allS dA aA 2 = exOne dA aA 2 (-1) ++ (exOne dA aA 2 0 ++ (exOne dA aA 2 1 ++ [])) := rfl
  rw [e]
  unfold exOne
  rw [a, b, c]
  rfl
end Go.Proofs.Ytcbppkfnfbdkhaa
