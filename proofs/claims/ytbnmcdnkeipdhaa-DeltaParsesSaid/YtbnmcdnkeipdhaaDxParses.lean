/- DeltaParses, shown. -/
import Derived.Test.YtbnmcdnkeipdhaaDkParses
set_option linter.all false
set_option maxRecDepth 20000
set_option maxHeartbeats 8000000
namespace Go.Proofs.Ytbnmcdnkeipdhaa
open Go.RowKit Go.Shelf
theorem flat_bd {k : Nat} : ∀ l : List Opn, (∀ o ∈ l, (opB o).length ≤ k) → (l.flatMap opB).length ≤ l.length * k := by
  intro l
  induction l with
  | nil => intro _; simp
  | cons o l ih =>
    intro h
    have h1 := h o (by simp)
    have h2 := ih fun o' ho => h o' (by simp [ho])
    rw [List.flatMap_cons, List.length_append, List.length_cons, Nat.add_mul]
    omega
theorem and255 (x : Int) : 0 ≤ bits .and .i64 x 255 ∧ bits .and .i64 x 255 ≤ 255 := by
  have h0 : bits .and .i64 x 255 = IntKind.i64.wrap ((BitVec.ofInt 64 x &&& BitVec.ofInt 64 255).toNat : Int) := rfl
  have h1 : (BitVec.ofInt 64 x &&& BitVec.ofInt 64 255).toNat ≤ 255 := by
    rw [BitVec.toNat_and]; exact Nat.le_trans Nat.and_le_right (by decide)
  rw [h0, Go.IntWalk.i64_in _ (by omega)]
  omega
theorem made_fmt {l : List Opn} (hl : l.length ≤ 5) (hg : ∀ o ∈ l, fitsB o.frm o.sz o.dat.length 40 = true ∧ o.dat.length ≤ 6 ∧ InB o.dat) : fmtE l = 0 ∧ (fmtB l).length ≤ 50 := by
  have key : ∀ o ∈ l, (o.sz = 0 ∧ o.frm = 0 ∧ 0 < o.dat.length ∧ o.dat.length ≤ 6) ∨ (0 < o.sz ∧ 0 ≤ o.frm ∧ o.dat.length = 0 ∧ o.frm ≤ 40 ∧ o.sz ≤ 40) := fun o ho => by
    obtain ⟨h1, h2, _⟩ := hg o ho
    rw [fitsB_iff] at h1
    omega
  have hr : ∀ o ∈ l, rightO o = true ∧ largeO o = false := fun o ho => by
    have h := key o ho
    refine ⟨?_, large_f (by omega) (by omega) (by omega)⟩
    unfold rightO rightB
    by_cases hs : o.sz = 0
    · rw [if_pos hs]; simp; omega
    · rw [if_neg hs]
      simp only [Bool.and_eq_true, decide_eq_true_eq]
      omega
  have hlen : ∀ o ∈ l, (opB o).length ≤ 10 := fun o ho => by
    have h := key o ho
    unfold opB threeS
    split <;> simp <;> omega
  have e0 := fmtE_1 (by omega) hr
  have hb := flat_bd l hlen
  refine ⟨e0, ?_⟩
  unfold fmtB
  rw [if_pos e0]; omega
theorem parses_il (tape raw : List Int) (at_ by0 : Int) : ILt 6 [lv tape, by_ raw, iv at_, .one (.d (.int .u8 by0))] := (lawParses_V tape raw at_ by0).2 (by
  (delta lawParses_V; dsimp only [mkV])
  (repeat' (first | with_reducible refine brn_nd (fun h => ?_) (fun h => ?_) | with_reducible refine brn_d (fun h => ?_) (fun h => ?_) | with_reducible refine brn_nn (fun h => ?_) (fun h => ?_) | with_reducible refine brn_nb (fun h => ?_) (fun h => ?_) | with_reducible refine Brn.mk (fun h => ?_) (fun h => ?_) | with_reducible refine Chk.mk ?_ ?_ | with_reducible refine Bth.mk ?_ ?_ | with_reducible refine Fct.mk (fun hf => ?_)))
  · omega
  intro x hx
  obtain ⟨he, hlen⟩ := made_fmt hx.1 hx.2
  have h255 := and255 at_
  have hm : (fmtB x).length ≠ 0 → 0 ≤ (bits .and .i64 at_ 255).tmod ((fmtB x).length : Int) ∧ (bits .and .i64 at_ 255).tmod ((fmtB x).length : Int) < ((fmtB x).length : Int) := fun h => ⟨Int.tmod_nonneg _ h255.1, Int.tmod_lt_of_pos _ (by omega)⟩
  have hw : IntKind.i64.wrap (((List.map irow_u8 (fmtB x)).length : Int).tdiv 2) = ((fmtB x).length : Int) / 2 := by
    rw [List.length_map, Int.tdiv_eq_ediv_of_nonneg (by omega)]
    exact Go.IntWalk.i64_in _ (by omega)
  rw [he, List.nil_append, hw]
  clear he hw hx
  generalize fmtB x = own at *
  generalize bits .and .i64 at_ 255 = a255 at *
  generalize bits .and .u8 by0 7 = b7 at *
  (repeat' (first | with_reducible refine brn_nd (fun h => ?_) (fun h => ?_) | with_reducible refine brn_d (fun h => ?_) (fun h => ?_) | with_reducible refine brn_nn (fun h => ?_) (fun h => ?_) | with_reducible refine brn_nb (fun h => ?_) (fun h => ?_) | with_reducible refine Brn.mk (fun h => ?_) (fun h => ?_) | with_reducible refine Chk.mk ?_ ?_ | with_reducible refine Bth.mk ?_ ?_ | with_reducible refine Fct.mk (fun hf => ?_)))
  all_goals first | omega | rfl | (exfalso; simp_all; done) | (simp; omega) | (exact hm (by omega)) | skip
  all_goals
    refine up0 (by simp) (by simp) (fun I μ z h0 h1 nx => ?_) (fun I μ => ?_)
    · (repeat' (first | with_reducible refine brn_nd (fun h => ?_) (fun h => ?_) | with_reducible refine brn_d (fun h => ?_) (fun h => ?_) | with_reducible refine brn_nn (fun h => ?_) (fun h => ?_) | with_reducible refine brn_nb (fun h => ?_) (fun h => ?_) | with_reducible refine Brn.mk (fun h => ?_) (fun h => ?_) | with_reducible refine Chk.mk ?_ ?_ | with_reducible refine Bth.mk ?_ ?_ | with_reducible refine Fct.mk (fun hf => ?_)))
      all_goals first | omega | (unfold InI; omega) | exact nx | (exfalso; simp_all; done) | (exact ⟨h0, h1⟩) | (simp at h1; unfold InI; omega) | rfl | skip
    · rfl)
end Go.Proofs.Ytbnmcdnkeipdhaa
