/- Archives: the law ArchiveBack, shown. -/
import Derived.Test.YtbnmcdnkeipdhaaGvBack
set_option linter.all false
set_option maxRecDepth 20000
set_option maxHeartbeats 4000000
namespace Go.Proofs.Ytbnmcdnkeipdhaa
open Go.RowKit Go.Shelf
theorem and7 (x : Int) : 0 ≤ bits .and .i64 x 7 ∧ bits .and .i64 x 7 ≤ 7 := by
  have h0 : bits .and .i64 x 7 = IntKind.i64.wrap ((BitVec.ofInt 64 x &&& BitVec.ofInt 64 7).toNat : Int) := rfl
  have h1 : (BitVec.ofInt 64 x &&& BitVec.ofInt 64 7).toNat ≤ 7 := by
    rw [BitVec.toNat_and]
    exact Nat.le_trans Nat.and_le_right (by decide)
  rw [h0, Go.IntWalk.i64_in _ (by omega)]
  omega
theorem nmF_ok : ∀ i : Nat, i < 9 → nmB (nmF i) = true := by decide
theorem nmF_inj : ∀ i : Nat, i < 9 → ∀ j : Nat, j < 9 → nmF i = nmF j → i = j := by decide
theorem EntP_val {l : List Ent} (h : EntP l) (hl : l.length ≤ 9) : valS l = 0 := by
  have hs : ∀ q : List Ent, (∀ x ∈ q, x.dat.length ≤ 700) → sumE q ≤ q.length * 700 := by
    intro q
    induction q with
    | nil => intro _; simp [sumE]
    | cons a q ih =>
      intro h
      have h1 := ih fun x hx => h x (List.mem_cons_of_mem _ hx)
      have h2 := h a List.mem_cons_self
      have e : sumE (a :: q) = a.dat.length + sumE q := by simp [sumE]
      rw [List.length_cons]; omega
  have hs1 := hs l fun x hx => (h.2 x hx).1
  have hn : (l.map Ent.nm).Nodup := by
    refine List.pairwise_iff_getElem.2 fun i j hi hj hij e => ?_
    rw [List.length_map] at hi hj
    rw [List.getElem_map, List.getElem_map] at e
    have e1 := h.1 i hi
    have e2 := h.1 j hj
    rw [gt_nat hi] at e1
    rw [gt_nat hj] at e2
    have := nmF_inj i (by omega) j (by omega) (e1.symm.trans (e.trans e2))
    omega
  have ha : ¬ l.all (fun x => nmB x.nm) = false := by
    intro hh
    obtain ⟨x, hx, hq⟩ := List.all_eq_false.1 hh
    obtain ⟨i, hi, rfl⟩ := mem_gt hx
    rw [h.1 i hi] at hq
    exact hq (nmF_ok i (by omega))
  rw [valS, if_neg (by omega), if_neg ha, if_neg (fun h => h hn)]
def szE (q : List Ent) : Int := (q.map fun x => (5 + (x.nm.size : Int) + (x.dat.length : Int))).sum
theorem szE_app (a b : List Ent) : szE (a ++ b) = szE a + szE b := by unfold szE; rw [List.map_append, List.sum_append]
theorem szE_cons (x : Ent) (q : List Ent) : szE (x :: q) = 5 + (x.nm.size : Int) + (x.dat.length : Int) + szE q := by unfold szE; rw [List.map_cons, List.sum_cons]
theorem fm_le (q : List Ent) : ((q.flatMap encE).length : Int) ≤ szE q := by
  induction q with
  | nil => simp [szE]
  | cons x q ih =>
    have := encE_len x
    rw [List.flatMap_cons, List.length_append, szE_cons]
    omega
theorem szE_le {q : List Ent} (h : ∀ x ∈ q, x.nm.size ≤ 40 ∧ x.dat.length ≤ 700) : 0 ≤ szE q ∧ szE q ≤ q.length * 745 := by
  induction q with
  | nil => simp [szE]
  | cons x q ih =>
    have h1 := ih fun y hy => h y (List.mem_cons_of_mem _ hy)
    have h2 := h x List.mem_cons_self
    rw [szE_cons, List.length_cons]
    omega
theorem back_il (l : List Int) (n : Int) : ILt 9 [lv l, iv n] := (lawBack_V l n).2 (by
  (delta lawBack_V; dsimp only [mkV])
  have b0 := and7 n
  (repeat' (first | with_reducible refine brn_nd (fun h => ?_) (fun h => ?_) | with_reducible refine brn_d (fun h => ?_) (fun h => ?_) | with_reducible refine brn_nn (fun h => ?_) (fun h => ?_) | with_reducible refine brn_nb (fun h => ?_) (fun h => ?_) | with_reducible refine Brn.mk (fun h => ?_) (fun h => ?_) | with_reducible refine Chk.mk ?_ ?_ | with_reducible refine Bth.mk ?_ ?_ | with_reducible refine Fct.mk (fun hf => ?_)))
  · omega
  rintro x ⟨hl, hx⟩
  have hv := EntP_val hx (by omega)
  obtain ⟨v1, v2, v3, v4⟩ := valS_ok hv
  have hq : ∀ y ∈ x, y.nm.size ≤ 40 ∧ y.dat.length ≤ 700 := fun y hy => ⟨(v4 y hy).2.1, (hx.2 y hy).1⟩
  have hz := szE_le hq
  have hf := fm_le x
  have hF : ((fmtS x).length : Int) ≤ 5 + szE x := by
    rw [fmtS, if_pos hv]
    unfold fmtB
    simp only [List.length_append, List.length_cons, List.length_nil]
    omega
  have hp : parS (fmtS x) = (x, true) := by rw [fmtS, if_pos hv]; exact parS_fmt hv
  have hlt : ¬ 131072 < (fmtS x).length := by omega
  have E0 : (if 131072 < (fmtS x).length then (3 : Int) else if (parS (fmtS x)).2 = true then 0 else 10) = 0 := by rw [if_neg hlt, hp]; rfl
  have E1 : sameS x (if 131072 < (fmtS x).length then [] else if (parS (fmtS x)).2 = true then (parS (fmtS x)).1 else []) = true := by rw [if_neg hlt, hp]; exact decide_eq_true rfl
  have E2 : (parS (fmtS x)).2 = true := by rw [hp]
  (repeat' (first | with_reducible refine brn_nd (fun h => ?_) (fun h => ?_) | with_reducible refine brn_d (fun h => ?_) (fun h => ?_) | with_reducible refine brn_nn (fun h => ?_) (fun h => ?_) | with_reducible refine brn_nb (fun h => ?_) (fun h => ?_) | with_reducible refine Brn.mk (fun h => ?_) (fun h => ?_) | with_reducible refine Chk.mk ?_ ?_ | with_reducible refine Bth.mk ?_ ?_ | with_reducible refine Fct.mk (fun hf => ?_)))
  · exact ⟨by omega, fun y hy => by have := hq y hy; omega⟩
  · omega
  refine lp2 (fun s z => 0 ≤ z ∧ z ≤ x.length ∧ s = 5 + szE (x.take z.toNat)) (fun _ z => ((x.length : Int) - z).toNat) ⟨by omega, by omega, rfl⟩ ?_
  rintro I μ nx s z ⟨j0, j1, j2⟩
  have hs := szE_le (q := x.take z.toNat) fun y hy => hq y (List.mem_of_mem_take hy)
  rw [List.length_take] at hs
  (repeat' (first | with_reducible refine brn_nd (fun h => ?_) (fun h => ?_) | with_reducible refine brn_d (fun h => ?_) (fun h => ?_) | with_reducible refine brn_nn (fun h => ?_) (fun h => ?_) | with_reducible refine brn_nb (fun h => ?_) (fun h => ?_) | with_reducible refine Brn.mk (fun h => ?_) (fun h => ?_) | with_reducible refine Chk.mk ?_ ?_ | with_reducible refine Bth.mk ?_ ?_ | with_reducible refine Fct.mk (fun hf => ?_)))
  · omega
  all_goals (try have hg := hq (gt x z) (gt_mem j0 (by omega)))
  · unfold InI; omega
  · unfold InI; omega
  · unfold InI; omega
  · unfold InI; omega
  · refine nx _ _ _ _ ⟨j0, j1, j2⟩ ⟨by omega, by omega, ?_⟩ (by omega)
    rw [show (z + 1).toNat = z.toNat + 1 by omega, take_snoc (by omega), show ((z.toNat : Nat) : Int) = z by omega, szE_app, szE_cons, j2]
    have h9 : szE [] = 0 := rfl
    omega
  all_goals (have hend : s = 5 + szE x := by rw [j2, List.take_of_length_le (by omega)])
  all_goals first | rfl | exact absurd hv (by assumption) | exact absurd E0 (by assumption) | exact absurd (show true = false from E1.symm.trans (by assumption)) (by decide) | exact absurd (show true = false from E2.symm.trans (by assumption)) (by decide) | omega)
end Go.Proofs.Ytbnmcdnkeipdhaa
