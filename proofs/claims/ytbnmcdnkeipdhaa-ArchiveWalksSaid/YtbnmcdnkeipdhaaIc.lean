/- Archives: the reference reads, shown. -/
import Derived.Test.YtbnmcdnkeipdhaaIb
set_option linter.all false
set_option maxRecDepth 20000
set_option maxHeartbeats 4000000
namespace Go.Proofs.Ytbnmcdnkeipdhaa
open Go.RowKit Go.Shelf
theorem tk_ok {c : List Int} {n : Int} (h0 : 0 ≤ n) (h : n ≤ c.length) : tkW c false n = false ∧ tkO c false n = c.take n.toNat ∧ tkB c false n = c.drop n.toNat := by
  have h1 : tkW c false n = false := by unfold tkW; simp; omega
  unfold tkO tkB
  rw [h1]
  simp
theorem tkW_short {c : List Int} {n : Int} (w : Bool) (h : (c.length : Int) < n) : tkW c w n = true := by unfold tkW; simp [h]
theorem parS_short {b : List Int} (h : b.length < 5) : (parS b).2 = false := by
  unfold parS
  split
  · rename_i e
    by_cases h4 : b.length < 4
    · exfalso
      unfold tkO at e
      rw [tkW_short (c := b) false (n := 4) (by omega), if_pos rfl] at e
      exact absurd (congrArg (fun s : ByteArray => s.data.toList) e) (by decide)
    · obtain ⟨a1, a2, a3⟩ := tk_ok (c := b) (n := 4) (by omega) (by omega)
      have hd : b.drop (4 : Int).toNat = [] := List.drop_eq_nil_of_le (by show b.length ≤ 4; omega)
      have hW : prsW b = true := by unfold prsW; rw [a1, a3, hd]; rfl
      have hN : (prsN b).toNat = 0 := by unfold prsN; rw [a1, a3, hd]; rfl
      rw [hW, hN, prsL]; rfl
  · rfl
end Go.Proofs.Ytbnmcdnkeipdhaa
