/- The lists that revive, do. -/
import Derived.Test.YtpneplgaeiomkaaYh0
import Derived.Test.YtpneplgaeiomkaaYm
set_option linter.all false
set_option maxRecDepth 20000
set_option maxHeartbeats 2000000
namespace Go.Proofs.Ytpneplgaeiomkaa
open Go.RowKit Go.Shelf
theorem idxOf_spec {α : Type} [Inhabited α] {q : α → Bool} {l : List α} (h : 0 ≤ idxOf q l) : idxOf q l < l.length ∧ q (gt l (idxOf q l)) = true := by
  have ha : l.any q = true := by rw [← idxOf_ge]; simpa using h
  obtain ⟨x, hx, hq⟩ := List.any_eq_true.1 ha
  obtain ⟨j, hj, rfl⟩ := List.getElem_of_mem hx
  -- the first one
  have : ∃ i, ∃ hi : i < l.length, q l[i] = true ∧ ∀ k (hk : k < i), q (l[k]'(by omega)) = false := by
    induction j using Nat.strongRecOn with
    | _ j ih =>
      by_cases hb : ∃ k, ∃ hk : k < j, q (l[k]'(by omega)) = true
      · obtain ⟨k, hk, hq2⟩ := hb
        exact ih k hk (by omega) (List.getElem_mem _) hq2
      · refine ⟨j, hj, hq, fun k hk => ?_⟩
        cases hv : q (l[k]'(by omega)) with
        | false => rfl
        | true => exact absurd ⟨k, hk, hv⟩ hb
  obtain ⟨i, hi, hqi, hall⟩ := this
  rw [idxOf_at hi hqi hall]
  exact ⟨by omega, by rw [gt_nat hi]; exact hqi⟩
theorem live_alive {c d : Cl} {bit : Int} {l : List XvR} (hk : (l.all fun x => !decide (x.kind = 1)) = true) (hr : (runS c l).1 = d) (he : (runS c l).2.2 = 0) (hv : validB d = true) (ha : askedB bit = true) (hl : (d.reps.any fun r => liveB d r bit) = true) : aliveS c bit l = true := by
  unfold aliveS
  rw [hk, hr, he, none_any hv ha, hl]; rfl
theorem run_nil {c : Cl} (hv : validB c = true) : runS c [] = (c, 0, 0) := by simp [runS, hv, runF]
theorem run_one {c : Cl} {x : XvR} (hv : validB c = true) (e : applyE c x = 0) : runS c [x] = (applyC c x, 1, 0) := by simp [runS, hv, runF, e]
theorem run_two {c : Cl} {x y : XvR} (hv : validB c = true) (e : applyE c x = 0) (e2 : applyE (applyC c x) y = 0) : runS c [x, y] = (applyC (applyC c x) y, 2, 0) := by simp [runS, hv, runF, e, e2]
theorem set0_live {c : Cl} {s : List Int} {r : RepR} {bit : Int} (h : 1 ≤ c.reps.length) (hl : liveB ⟨c.fence, c.sets, c.reps.set 0 r, s⟩ r bit = true) : ((c.reps.set 0 r).any fun x => liveB ⟨c.fence, c.sets, c.reps.set 0 r, s⟩ x bit) = true :=
  List.any_eq_true.2 ⟨r, List.mem_iff_getElem.2 ⟨0, by simp; omega, by simp⟩, hl⟩
theorem rev_no {c : Cl} {bit : Int} (h : (revS c bit).2 = false) : (revS c bit).1 = [] := by
  unfold revS at h ⊢
  split at h
  · rename_i h1
    rw [if_pos h1]
    split at h
    · cases h
    · rename_i h2
      rw [if_neg h2]
      split at h
      · cases h
      · rename_i h3
        rw [if_neg h3]
        split at h
        · rename_i h4; rw [if_pos h4]
        · rename_i h4
          rw [if_neg h4]
          split at h
          · cases h
          · rename_i h5
            rw [if_neg h5]
            split at h
            · rename_i h6; rw [if_pos h6]
            · cases h
  · rename_i h1; rw [if_neg h1]
theorem rev_yes {c : Cl} {bit : Int} (h : (revS c bit).2 = true) : aliveS c bit (revS c bit).1 = true := by
  unfold revS at h ⊢
  split at h
  · rename_i hva
    rw [Bool.and_eq_true] at hva
    obtain ⟨hv, ha⟩ := hva
    have hlen := valid_len hv
    rw [if_pos (by rw [hv, ha]; rfl)]
    split at h
    · rename_i hany
      rw [if_pos hany]
      exact live_alive rfl (by rw [run_nil hv]) (by rw [run_nil hv]) hv ha hany
    · rename_i hany
      rw [if_neg hany]
      split at h
      · rename_i hlast
        rw [if_pos hlast]
        obtain ⟨e, ec⟩ := ap2 (i := 0) hv (by omega) (by omega)
        have hv2 := applyC_valid e
        rw [ec] at hv2
        refine live_alive rfl (by rw [run_one hv e]; exact ec) (by rw [run_one hv e]) hv2 ha (set0_live (by omega) ?_)
        show (true && bitOn (c.set ((c.sets.length : Int) - 1)) bit) = true
        rw [Bool.true_and]; exact hlast
      · rename_i hlast
        rw [if_neg hlast]
        split at h
        · cases h
        · rename_i hf
          rw [if_neg hf]
          have hff : c.fence = false := by simpa using hf
          split at h
          · rename_i hi
            rw [if_pos hi]
            obtain ⟨i1, i2⟩ := idxOf_spec hi
            obtain ⟨e, ec⟩ := ap4 (i := 0) (j := idxOf (fun g => bitOn (c.set g) bit) c.snaps) hv (by omega) (by omega) hi i1
            have hv2 := applyC_valid e
            rw [ec] at hv2
            refine live_alive rfl (by rw [run_one hv e]; exact ec) (by rw [run_one hv e]) hv2 ha (set0_live (by omega) ?_)
            show ((!c.fence) && bitOn (c.set (gt c.snaps (idxOf (fun g => bitOn (c.set g) bit) c.snaps))) bit) = true
            rw [hff]; exact i2
          · rename_i hi
            rw [if_neg hi]
            split at h
            · cases h
            · rename_i hno
              rw [if_neg hno]
              have hj : 0 ≤ idxOf (fun r : RepR => bitOn (c.set r.gen) bit) c.reps := by omega
              obtain ⟨i1, i2⟩ := idxOf_spec hj
              obtain ⟨e, ec⟩ := ap3 (i := idxOf (fun r : RepR => bitOn (c.set r.gen) bit) c.reps) hv hj i1 (by omega)
              have hv2 := applyC_valid e
              obtain ⟨e2, ec2⟩ := ap4 (c := applyC c ⟨3, idxOf (fun r : RepR => bitOn (c.set r.gen) bit) c.reps, 0, 0⟩) (i := 0) (j := (c.snaps.length : Int)) hv2 (by omega) (by rw [ec]; show (0 : Int) < c.reps.length; omega) (by omega) (by rw [ec]; simp; omega)
              have hv3 := applyC_valid e2
              rw [ec2] at hv3
              rw [ec] at ec2 hv3
              refine live_alive rfl (by rw [run_two hv e e2]; show applyC (applyC c _) _ = _; rw [ec]; exact ec2) (by rw [run_two hv e e2]) hv3 ha (set0_live (c := c) (by omega) ?_)
              show ((!c.fence) && bitOn (c.set (gt (c.snaps ++ [(gt c.reps (idxOf (fun r : RepR => bitOn (c.set r.gen) bit) c.reps)).gen]) (c.snaps.length : Int))) bit) = true
              rw [hff, gt_snoc]; exact i2
  · cases h
theorem rev_nil {c : Cl} {bit : Int} (h : aliveS c bit [] = true) : (revS c bit).1 = [] := by
  unfold aliveS at h
  by_cases hv : validB c = true
  · by_cases ha : askedB bit = true
    · rw [run_nil hv, none_any hv ha] at h
      simp only [Bool.not_not, Bool.and_eq_true] at h
      unfold revS
      rw [if_pos (by rw [hv, ha]; rfl), if_pos h.2]
    · unfold revS
      rw [if_neg (by simp [ha])]
  · unfold revS
    rw [if_neg (by simp [hv])]
end Go.Proofs.Ytpneplgaeiomkaa
