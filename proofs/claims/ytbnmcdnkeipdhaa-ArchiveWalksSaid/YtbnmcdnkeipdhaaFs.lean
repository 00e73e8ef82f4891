/- Archives: Format, shown. -/
import Derived.Test.YtbnmcdnkeipdhaaFr
import Derived.Test.YtbnmcdnkeipdhaaFt
set_option linter.all false
set_option maxRecDepth 20000
set_option maxHeartbeats 4000000
namespace Go.Proofs.Ytbnmcdnkeipdhaa
open Go.RowKit Go.Shelf
def encE (x : Ent) : List Int := [(x.nm.size : Int) % 256] ++ bytI x.nm ++ threeS x.dat.length ++ (if (packS x.dat [] []).length < x.dat.length then [1] ++ packS x.dat [] [] else [0] ++ x.dat)
def fmtB (l : List Ent) : List Int := [65, 82, 67, 49] ++ [(l.length : Int) % 256] ++ l.flatMap encE
noncomputable def fmtS (l : List Ent) : List Int := if valS l = 0 then fmtB l else []
theorem valS_ok {l : List Ent} (h : valS l = 0) : l.length ≤ 64 ∧ sumE l ≤ 65536 ∧ (l.map Ent.nm).Nodup ∧ ∀ x ∈ l, nmB x.nm = true ∧ x.nm.size ≤ 40 ∧ 1 ≤ x.nm.size ∧ x.dat.length ≤ 65536 := by
  unfold valS at h
  split at h
  · cases h
  rename_i h1
  split at h
  · cases h
  rename_i h2
  split at h
  · cases h
  rename_i h3
  refine ⟨by omega, by omega, by simpa using h3, fun x hx => ?_⟩
  have hn : nmB x.nm = true := by
    rw [Bool.not_eq_false] at h2
    exact List.all_eq_true.1 h2 x hx
  have hs := sumE_mem hx
  refine ⟨hn, ?_, ?_, by omega⟩
  · unfold nmB at hn; simp only [Bool.and_eq_true, decide_eq_true_eq] at hn; omega
  · unfold nmB at hn; simp only [Bool.and_eq_true, decide_eq_true_eq] at hn; omega
theorem encE_len (x : Ent) : (encE x).length ≤ 5 + x.nm.size + x.dat.length := by
  unfold encE
  split <;> simp [bytI_len, threeS] <;> omega
theorem encs_len {l : List Ent} (h : ∀ x ∈ l, x.nm.size ≤ 40 ∧ x.dat.length ≤ 65536) : (l.flatMap encE).length ≤ l.length * 65581 := by
  induction l with
  | nil => simp
  | cons a l ih =>
    have h1 := ih fun x hx => h x (List.mem_cons_of_mem _ hx)
    have h2 := h a List.mem_cons_self
    have h3 := encE_len a
    rw [List.flatMap_cons, List.length_append, List.length_cons]
    omega
theorem fmt_ic (l : List Ent) : ICp (l.length ≤ 1000 ∧ ∀ x ∈ l, x.nm.size ≤ 1000000000 ∧ x.dat.length ≤ 1000000000) 32 [ev l] (fun v => v = .tup [by_ (fmtS l), iv (valS l)]) := fun hl => (fmt_V l _).2 (by
  (delta fmt_V; dsimp only [mkV])
  (repeat' (first | with_reducible refine brn_nd (fun h => ?_) (fun h => ?_) | with_reducible refine brn_d (fun h => ?_) (fun h => ?_) | with_reducible refine brn_nn (fun h => ?_) (fun h => ?_) | with_reducible refine brn_nb (fun h => ?_) (fun h => ?_) | with_reducible refine Brn.mk (fun h => ?_) (fun h => ?_) | with_reducible refine Chk.mk ?_ ?_ | with_reducible refine Bth.mk ?_ ?_ | with_reducible refine Fct.mk (fun hf => ?_)))
  · exact hl
  · rw [fmtS, if_neg (by assumption)]; rfl
  have hv : valS l = 0 := by assumption
  obtain ⟨v1, v2, v3, v4⟩ := valS_ok hv
  have ets : ∀ z : Int, 0 ≤ z → z < l.length → l.take (z + 1).toNat = l.take z.toNat ++ [gt l z] := fun z h0 h1 => by
    rw [show (z + 1).toNat = z.toNat + 1 by omega, take_snoc (by omega), show ((z.toNat : Nat) : Int) = z by omega]
  refine up2 (fun x z => x = [65, 82, 67, 49] ++ [(l.length : Int) % 256] ++ (l.take z.toNat).flatMap encE) (by omega) (by simp) (fun I μ x z h0 h1 hx nx => ?_) (fun I μ x hx => ?_)
  · have hm := gt_mem h0 h1
    obtain ⟨g1, g2, g3, g4⟩ := v4 _ hm
    have hlen : x.length ≤ 5 + 64 * 65581 := by
      have := encs_len (l := l.take z.toNat) fun x hx => by have := v4 x (List.mem_of_mem_take hx); exact ⟨this.2.1, this.2.2.2⟩
      rw [hx]
      simp only [List.length_append, List.length_cons, List.length_nil]
      rw [List.length_take] at this
      omega
    have hB := bytI_len (gt l z).nm
    have h3 : (threeS (gt l z).dat.length).length = 3 := rfl
    have hfin : ∀ t, (if (packS (gt l z).dat [] []).length < (gt l z).dat.length then [1] ++ packS (gt l z).dat [] [] else [0] ++ (gt l z).dat) = t → x ++ [((gt l z).nm.size : Int) % 256] ++ bytI (gt l z).nm ++ threeS (gt l z).dat.length ++ t = [65, 82, 67, 49] ++ [(l.length : Int) % 256] ++ (l.take (z + 1).toNat).flatMap encE := fun t ht => by
      rw [ets z h0 h1, hx, List.flatMap_append, List.flatMap_singleton, encE, ht]
      simp only [List.append_assoc]
    (repeat' (first | with_reducible refine brn_nd (fun h => ?_) (fun h => ?_) | with_reducible refine brn_d (fun h => ?_) (fun h => ?_) | with_reducible refine brn_nn (fun h => ?_) (fun h => ?_) | with_reducible refine brn_nb (fun h => ?_) (fun h => ?_) | with_reducible refine Brn.mk (fun h => ?_) (fun h => ?_) | with_reducible refine Chk.mk ?_ ?_ | with_reducible refine Bth.mk ?_ ?_ | with_reducible refine Fct.mk (fun hf => ?_)))
    all_goals first | omega | (simp only [List.length_append, List.length_cons, List.length_nil]; omega) | (unfold InI; omega) | skip
    · refine nx _ ?_
      rw [List.append_assoc _ [1]]
      exact hfin _ (if_pos (by omega))
    · refine nx _ ?_
      rw [List.append_assoc _ [0]]
      exact hfin _ (if_neg (by omega))
  · rw [List.take_of_length_le (by omega)] at hx
    (repeat' (first | with_reducible refine brn_nd (fun h => ?_) (fun h => ?_) | with_reducible refine brn_d (fun h => ?_) (fun h => ?_) | with_reducible refine brn_nn (fun h => ?_) (fun h => ?_) | with_reducible refine brn_nb (fun h => ?_) (fun h => ?_) | with_reducible refine Brn.mk (fun h => ?_) (fun h => ?_) | with_reducible refine Chk.mk ?_ ?_ | with_reducible refine Bth.mk ?_ ?_ | with_reducible refine Fct.mk (fun hf => ?_)))
    rw [fmtS, if_pos hv, hx, hv]; rfl)
end Go.Proofs.Ytbnmcdnkeipdhaa
