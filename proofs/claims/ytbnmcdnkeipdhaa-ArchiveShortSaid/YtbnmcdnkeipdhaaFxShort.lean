/- Archives: the law ArchiveShort, shown. -/
import Derived.Test.YtbnmcdnkeipdhaaFvShort
set_option linter.all false
set_option maxRecDepth 20000
set_option maxHeartbeats 4000000
namespace Go.Proofs.Ytbnmcdnkeipdhaa
open Go.RowKit Go.Shelf
theorem plS_short {l : List Int} (h : l ≠ []) (h1 : l.length ≤ 128) : (plS l).length = l.length + 1 := by
  rw [plS_cons h, List.drop_eq_nil_of_le h1, plS_nil, List.take_of_length_le h1]
  simp
theorem and1023 (x : Int) : 0 ≤ bits .and .i64 x 1023 ∧ bits .and .i64 x 1023 ≤ 1023 := by
  have h0 : bits .and .i64 x 1023 = IntKind.i64.wrap ((BitVec.ofInt 64 x &&& BitVec.ofInt 64 1023).toNat : Int) := rfl
  have h1 : (BitVec.ofInt 64 x &&& BitVec.ofInt 64 1023).toNat ≤ 1023 := by
    rw [BitVec.toNat_and]
    exact Nat.le_trans Nat.and_le_right (by decide)
  rw [h0, Go.IntWalk.i64_in _ (by omega)]
  omega
theorem packS_zlen {k : Nat} (h : 3 ≤ k) : (packS (List.replicate k 0) [] []).length = 2 * (k / 130) + (if 3 ≤ k % 130 then 2 else if k % 130 = 0 then 0 else k % 130 + 1) := by
  obtain ⟨h1, h2⟩ := eqB_len2 0 k
  rw [packS_rep 0 h, List.length_append, h1, h2]
  by_cases h3 : 3 ≤ k % 130
  · rw [if_pos h3, if_pos h3, if_neg (by omega), List.replicate_zero, plS_nil]; rfl
  · rw [if_neg h3, if_neg h3, if_pos (by omega)]
    by_cases h4 : k % 130 = 0
    · rw [if_pos h4, h4, List.replicate_zero, plS_nil]; rfl
    · rw [if_neg h4, plS_short (by intro e; have := congrArg List.length e; simp at this; omega) (by simp; omega), List.length_replicate]; omega
theorem short_facts (m : Int) (h0 : 3 ≤ m) (h1 : m ≤ 1026) : valS [⟨⟨#[97]⟩, List.replicate m.toNat 0⟩, ⟨⟨#[98]⟩, []⟩] = 0 ∧
    (∃ p : Int, ((fmtS [⟨⟨#[97]⟩, List.replicate m.toNat 0⟩, ⟨⟨#[98]⟩, []⟩]).length : Int) = 17 + p ∧ (3 ≤ m % 130 → p = 2 * (m / 130) + 2) ∧ (m % 130 = 0 → p = 2 * (m / 130)) ∧ (0 < m % 130 → m % 130 < 3 → p = 2 * (m / 130) + 1 + m % 130)) ∧
    szS (fmtS [⟨⟨#[97]⟩, List.replicate m.toNat 0⟩, ⟨⟨#[98]⟩, []⟩]) = m := by
  obtain ⟨k, rfl⟩ : ∃ k : Nat, m = k := ⟨m.toNat, by omega⟩
  simp only [Int.toNat_natCast]
  have hv : valS [⟨⟨#[97]⟩, List.replicate k 0⟩, ⟨⟨#[98]⟩, []⟩] = 0 := by
    unfold valS
    have hnd : ([⟨#[97]⟩, ⟨#[98]⟩] : List ByteArray).Nodup := by
      refine List.nodup_cons.2 ⟨fun h => ?_, List.nodup_cons.2 ⟨by simp, List.nodup_nil⟩⟩
      rw [List.mem_singleton] at h
      exact absurd h (by decide)
    rw [if_neg (by simp [sumE]; omega), if_neg (by simp only [List.all_cons, List.all_nil]; decide), if_neg (fun h => h hnd)]
  refine ⟨hv, ?_, ?_⟩
  · have hp := packS_zlen (k := k) (by omega)
    have hlt : (packS (List.replicate k 0) [] []).length < (List.replicate k (0 : Int)).length := by
      rw [hp, List.length_replicate]
      split
      · omega
      · split <;> omega
    have e1 : (encE ⟨⟨#[97]⟩, List.replicate k 0⟩).length = 6 + (packS (List.replicate k 0) [] []).length := by
      unfold encE
      rw [if_pos hlt]
      simp only [List.length_append, List.length_cons, List.length_nil, bytI_len]
      show 0 + 1 + 1 + 3 + (0 + 1 + _) = _
      omega
    have e2 : (encE ⟨⟨#[98]⟩, []⟩).length = 6 := by
      unfold encE
      rw [if_neg (by simp)]
      rfl
    refine ⟨((packS (List.replicate k 0) [] []).length : Int), ?_, ?_⟩
    · rw [fmtS, if_pos hv]
      unfold fmtB
      simp only [List.flatMap_cons, List.flatMap_nil, List.length_append, List.length_cons, List.length_nil, e1, e2]
      omega
    · rw [hp]
      refine ⟨fun h => ?_, fun h => ?_, fun h h' => ?_⟩
      · rw [if_pos (by omega)]; omega
      · rw [if_neg (by omega), if_pos (by omega)]; omega
      · rw [if_neg (by omega), if_neg (by omega)]; omega
  · rw [szS, fmtS, if_pos hv, parS_fmt hv, if_pos rfl]
    simp [sumE]
theorem short_il (n : Int) : ILt 10 [iv n] := (lawShort_V n).2 (by
  (delta lawShort_V; dsimp only [mkV])
  have b0 := and1023 n
  obtain ⟨f1, ⟨p, f2, f3, f4, f5⟩, f6⟩ := short_facts (3 + bits .and .i64 n 1023) (by omega) (by omega)
  have t1 : (3 + bits .and .i64 n 1023).tdiv 130 = (3 + bits .and .i64 n 1023) / 130 := Int.tdiv_eq_ediv_of_nonneg (by omega)
  have t2 : (3 + bits .and .i64 n 1023).tmod 130 = (3 + bits .and .i64 n 1023) % 130 := Int.tmod_eq_emod_of_nonneg (by omega)
  have hl : ∀ x ∈ ([⟨⟨#[97]⟩, List.replicate (3 + bits .and .i64 n 1023).toNat 0⟩, ⟨⟨#[98]⟩, []⟩] : List Ent), x.nm.size ≤ 1000000000 ∧ x.dat.length ≤ 1000000000 := fun x hx => by
    simp only [List.mem_cons, List.not_mem_nil, or_false] at hx
    rcases hx with rfl | rfl
    · exact ⟨show (1 : Nat) ≤ _ by omega, by simp; omega⟩
    · exact ⟨show (1 : Nat) ≤ _ by omega, by simp⟩
  (repeat' (first | with_reducible refine brn_nd (fun h => ?_) (fun h => ?_) | with_reducible refine brn_d (fun h => ?_) (fun h => ?_) | with_reducible refine brn_nn (fun h => ?_) (fun h => ?_) | with_reducible refine brn_nb (fun h => ?_) (fun h => ?_) | with_reducible refine Brn.mk (fun h => ?_) (fun h => ?_) | with_reducible refine Chk.mk ?_ ?_ | with_reducible refine Bth.mk ?_ ?_ | with_reducible refine Fct.mk (fun hf => ?_)))
  all_goals first | rfl | exact absurd f1 (by assumption) | exact absurd f6 (by assumption) | (exfalso; omega) | omega | (unfold InI; omega) | exact ⟨by simp, hl⟩)
end Go.Proofs.Ytbnmcdnkeipdhaa
