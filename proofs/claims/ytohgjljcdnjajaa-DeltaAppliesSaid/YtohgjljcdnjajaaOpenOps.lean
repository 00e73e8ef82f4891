/- An argument that is a slice of operations, opened. -/
import Derived.Test.YtohgjljcdnjajaaOps
import Derived.Test.YtohgjljcdnjajaaOpen
namespace Go.Proofs.Ytohgjljcdnjajaa
open Go.ChangeShapes Go.WideShapes Go.Deep Go.RowKit

theorem Try.cells42 : Try.prog.cellsOf 42 = 3 := by kernel_rfl
theorem open_ops {H : Type} {enc : TypeId × Value → H} {w : World} {base : Nat} {held : Bool} {v : Value} {d : DataW H} {p : List MemPlace} (h : DataW.Trod enc Try.prog w base (fun _ => true) held 24 v d p) (hv : ∃ a len cap, v = .slice a len cap) :
    ∃ A c rs, v = .slice A rs.length c ∧ rs.length ≤ c ∧ c ≤ maxLen ∧ OpsAt (fun b => w.heap.size ≤ b) w A rs := by
  obtain ⟨fuel, hf⟩ := h
  obtain ⟨a0, len0, cap0, rfl⟩ := hv
  rcases open_slice_fields Try.underlying24 Try.underlying42 (by kernel_rfl) Try.cells42 hf with ⟨hcs, _⟩ | ⟨a, len, cap, m, D, Pl, hcs, _, hl, hm, hmm, _, hi⟩
  · simp [Value.cells] at hcs
    obtain ⟨rfl, rfl, rfl⟩ := hcs
    exact ⟨none, 0, [], rfl, Nat.le_refl _, by unfold maxLen; omega, OpsAt.nil _ _ _⟩
  · simp [Value.cells] at hcs
    obtain ⟨rfl, rfl, rfl⟩ := hcs
    have hm' : m = cap0 := by simpa using hmm
    subst hm'
    have key : ∀ i, i < len0 → ∃ r : OpR, r.Ok (fun b => w.heap.size ≤ b) w ∧ ∀ j u, r.cells[j]? = some u → w.cell? (a.add (i * 3 + j)) = some u := by
      intro i hil
      obtain ⟨ys, n, _, _, _, hj⟩ := hi i (by omega)
      obtain ⟨v0, y0, c0, _, t0⟩ := hj 0 _ rfl
      obtain ⟨v1, y1, c1, _, t1⟩ := hj 1 _ rfl
      obtain ⟨v2, y2, c2, _, t2⟩ := hj 2 _ rfl
      obtain ⟨z0, rfl, w0⟩ := int_of_trod Try.underlying3 t0
      obtain ⟨z1, rfl, w1⟩ := int_of_trod Try.underlying3 t1
      obtain ⟨A, c, l, rfl, h1, h2, h3⟩ := bytes_of_trod Try.underlying23 Try.underlying5 (by kernel_rfl) t2
      refine ⟨⟨z0, z1, A, l, c⟩, ⟨h3, h1, h2, wf_i64 w0, wf_i64 w1⟩, fun j u hu => ?_⟩
      match j, hu with
      | 0, hu => simp [OpR.cells] at hu; rw [← hu]; exact c0
      | 1, hu => simp [OpR.cells] at hu; rw [← hu]; exact c1
      | 2, hu => simp [OpR.cells] at hu; rw [← hu]; exact c2
    obtain ⟨rs, hrl, hp⟩ := list_of_all len0 (fun i (r : OpR) => r.Ok (fun b => w.heap.size ≤ b) w ∧ ∀ j u, r.cells[j]? = some u → w.cell? (a.add (i * 3 + j)) = some u) key
    subst hrl
    refine ⟨some a, m, rs, rfl, hl, hm, ⟨?_, ?_⟩⟩
    · rcases Nat.eq_zero_or_pos rs.length with h0 | h0
      · rw [List.eq_nil_of_length_eq_zero h0]; exact Cells.nil _ _ _
      · have hb : a.block < w.heap.size := lt_of_cell ((hp 0 h0).2 0 _ rfl)
        exact cells_of_all OpR.cells 3 OpR.cells_len (by omega) (by omega) rs (fun i hi j u hu => (hp i hi).2 j u hu)
    · intro r hr
      obtain ⟨i, hi, rfl⟩ := List.getElem_of_mem hr
      exact (hp i hi).1
end Go.Proofs.Ytohgjljcdnjajaa
