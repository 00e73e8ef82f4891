/- ClusterFence, shown. -/
import Derived.Test.YtpneplgaeiomkaaYi
import Derived.Test.YtpneplgaeiomkaaYkFence
set_option linter.all false
set_option maxRecDepth 20000
set_option maxHeartbeats 4000000
namespace Go.Proofs.Ytpneplgaeiomkaa
open Go.RowKit Go.Shelf
structure Safe (c : Cl) : Prop where
  v : validB c = true
  f : c.fence = true
  l : lastOn c 1 = false
  r : ∀ r ∈ c.reps, r.srv = true → bitOn (c.set r.gen) 1 = false
theorem Safe.any {c : Cl} (h : Safe c) : (c.reps.any fun r => liveB c r 1) = false := by
  rw [List.any_eq_false]
  intro r hr
  unfold liveB
  cases hs : r.srv with
  | false => simp
  | true => simp [h.r r hr hs]
theorem Safe.dead {c : Cl} (h : Safe c) : deadS c 1 = true := by
  unfold deadS
  rw [h.v, h.l, none_any h.v rfl, h.any]; rfl
theorem Safe.rev {c : Cl} (h : Safe c) : (revS c 1).2 = false := by
  unfold revS
  rw [h.v, h.any, h.l, h.f]; rfl
theorem Cl.set_app {c : Cl} {b g : Int} (h0 : 0 ≤ g) (h1 : g < c.sets.length) : Cl.set ⟨c.fence, c.sets ++ [b], c.reps, c.snaps⟩ g = c.set g := by
  unfold Cl.set
  simp only [List.getD_eq_getElem?_getD]
  rw [List.getElem?_append_left (by omega)]
theorem Safe.step {c : Cl} {x : XvR} (h : Safe c) (e : applyE c x = 0) (hb : x.kind = 1 → bitOn x.bits 1 = false) : Safe (applyC c x) := by
  have hv := applyC_valid e
  have hf : fitsB c x = true := by
    cases hq : fitsB c x with
    | true => rfl
    | false => rw [unfit_E (by simp [hq])] at e; cases e
  obtain ⟨r0, r1, r2, r3⟩ := fit_rep h.v hf
  have hl := valid_len h.v
  unfold applyC at hv ⊢
  rw [if_pos e] at hv ⊢
  rcases r3 with k | k | k | k
  · rw [aM1 k] at hv ⊢
    refine ⟨hv, h.f, ?_, fun r hr hs => ?_⟩
    · unfold lastOn Cl.set
      simp only [List.getD_eq_getElem?_getD]
      simp [hb k]
    · have := valid_gen h.v hr
      rw [Cl.set_app this.1 this.2]
      exact h.r r hr hs
  · rw [aM2 default k, List.set_set] at hv ⊢
    refine ⟨hv, h.f, h.l, fun r hr hs => ?_⟩
    rcases List.mem_or_eq_of_mem_set hr with hr | hr
    · exact h.r r hr hs
    · subst hr; exact h.l
  · rw [aM3 k] at hv ⊢
    exact ⟨hv, h.f, h.l, h.r⟩
  · rw [aM4 default k, List.set_set] at hv ⊢
    refine ⟨hv, h.f, h.l, fun r hr hs => ?_⟩
    rcases List.mem_or_eq_of_mem_set hr with hr | hr
    · exact h.r r hr hs
    · subst hr; simp [h.f] at hs
theorem clr {b : Int} (h0 : 0 ≤ b) (h1 : b ≤ 3) : bitOn (bits .andNot .i64 b 1) 1 = false := by
  have : b = 0 ∨ b = 1 ∨ b = 2 ∨ b = 3 := by omega
  rcases this with rfl | rfl | rfl | rfl <;> decide +kernel
theorem fence_il (l : List Int) : ILt 7 [lv l] := (lawFence_V l).2 (by
  (delta lawFence_V; dsimp only [mkV])
  (repeat' (first | with_reducible refine brn_nd (fun h => ?_) (fun h => ?_) | with_reducible refine brn_d (fun h => ?_) (fun h => ?_) | with_reducible refine brn_nn (fun h => ?_) (fun h => ?_) | with_reducible refine brn_nb (fun h => ?_) (fun h => ?_) | with_reducible refine Brn.mk (fun h => ?_) (fun h => ?_) | with_reducible refine Chk.mk ?_ ?_ | with_reducible refine Bth.mk ?_ ?_ | with_reducible refine Fct.mk (fun hf => ?_)))
  · rfl
  intro x hx
  have hv := hx.v
  have hl := valid_len hv
  have hs := hx.s
  simp only [Cl.eta, XvR.eta]
  have hv0 : validB ⟨true, x.sets, x.reps, x.snaps⟩ = true := hv
  have e1 : applyE ⟨true, x.sets, x.reps, x.snaps⟩ ⟨1, 0, 0, 2⟩ = 0 := by
    rw [E1 hv0 rfl, if_pos ⟨rfl, rfl, rfl⟩, if_neg (by show ¬ 120 < x.sets.length; omega)]
  have hv1 := applyC_valid e1
  have c1 : applyC ⟨true, x.sets, x.reps, x.snaps⟩ ⟨1, 0, 0, 2⟩ = ⟨true, x.sets ++ [2], x.reps, x.snaps⟩ := by
    unfold applyC; rw [if_pos e1, aM1 rfl]
  rw [c1] at hv1
  simp only [e1, c1]
  (repeat' (first | with_reducible refine brn_nd (fun h => ?_) (fun h => ?_) | with_reducible refine brn_d (fun h => ?_) (fun h => ?_) | with_reducible refine brn_nn (fun h => ?_) (fun h => ?_) | with_reducible refine brn_nb (fun h => ?_) (fun h => ?_) | with_reducible refine Brn.mk (fun h => ?_) (fun h => ?_) | with_reducible refine Chk.mk ?_ ?_ | with_reducible refine Bth.mk ?_ ?_ | with_reducible refine Fct.mk (fun hf => ?_)))
  · exact absurd (h trivial) id
  refine ⟨fun x1 x2 x3 x4 z => 0 ≤ z ∧ z ≤ x.reps.length ∧ validB ⟨x1, x2, x3, x4⟩ = true ∧ x1 = true ∧ x2 = x.sets ++ [2] ∧ x3.length = x.reps.length ∧ ∀ j (hj : j < x3.length), (j : Int) < z → x3[j] = ⟨x.sets.length, true⟩, fun _ _ _ _ z => (x.reps.length - z).toNat, ⟨by omega, by omega, hv1, rfl, rfl, rfl, fun j h1 h2 => by omega⟩, fun x1 x2 x3 x4 z ⟨z0, z1, h1, h2, h3, h4, h5⟩ => ?_⟩
  subst h2 h3
  by_cases hlt : z < x.reps.length
  · obtain ⟨e2, c2⟩ := ap2 h1 z0 (by show z < (x3.length : Int); omega)
    have hv2 := applyC_valid e2
    rw [c2] at hv2
    simp only [e2, c2]
    (repeat' (first | with_reducible refine brn_nd (fun h => ?_) (fun h => ?_) | with_reducible refine brn_d (fun h => ?_) (fun h => ?_) | with_reducible refine brn_nn (fun h => ?_) (fun h => ?_) | with_reducible refine brn_nb (fun h => ?_) (fun h => ?_) | with_reducible refine Brn.mk (fun h => ?_) (fun h => ?_) | with_reducible refine Chk.mk ?_ ?_ | with_reducible refine Bth.mk ?_ ?_ | with_reducible refine Fct.mk (fun hf => ?_)))
    all_goals first | omega | (unfold InI; omega) | (exfalso; simp_all; done) | skip
    refine ⟨⟨by omega, by omega, hv2, trivial, trivial, by simp [h4], fun j hj hjz => ?_⟩, by first | omega | (dsimp only; omega)⟩
    rw [List.getElem_set]
    split
    · simp
    · rename_i hne
      exact h5 j (by simpa using hj) (by omega)
  · have hz : z = x.reps.length := by omega
    have hsafe : Safe ⟨true, x.sets ++ [2], x3, x4⟩ := by
      have hlast : Cl.set ⟨true, x.sets ++ [2], x3, x4⟩ x.sets.length = 2 := by unfold Cl.set; simp
      refine ⟨h1, rfl, ?_, fun r hr hs => ?_⟩
      · unfold lastOn
        have : ((({ fence := true, sets := x.sets ++ [2], reps := x3, snaps := x4 } : Cl).sets.length : Int) - 1) = x.sets.length := by simp
        rw [this, hlast]; decide +kernel
      · obtain ⟨j, hj, rfl⟩ := List.getElem_of_mem hr
        have hj' : j < x3.length := hj
        have e5 : ({ fence := true, sets := x.sets ++ [2], reps := x3, snaps := x4 } : Cl).reps[j] = ⟨x.sets.length, true⟩ := h5 j hj' (by omega)
        rw [e5, hlast]; decide +kernel
    simp only [hsafe.dead, hsafe.rev]
    (repeat' (first | with_reducible refine brn_nd (fun h => ?_) (fun h => ?_) | with_reducible refine brn_d (fun h => ?_) (fun h => ?_) | with_reducible refine brn_nn (fun h => ?_) (fun h => ?_) | with_reducible refine brn_nb (fun h => ?_) (fun h => ?_) | with_reducible refine Brn.mk (fun h => ?_) (fun h => ?_) | with_reducible refine Chk.mk ?_ ?_ | with_reducible refine Bth.mk ?_ ?_ | with_reducible refine Fct.mk (fun hf => ?_)))
    all_goals first | (exfalso; omega) | (exfalso; simp_all; done) | skip
    refine ⟨fun y x1 x2 x3 x4 => 0 ≤ y ∧ y ≤ 16 ∧ Safe ⟨x1, x2, x3, x4⟩, fun y _ _ _ _ => (16 - y).toNat, ⟨by omega, by omega, hsafe⟩, fun y x1 x2 x3 x4 ⟨y0, y1, hS⟩ => ?_⟩
    have hlen := valid_len hS.v
    (repeat' (first | with_reducible refine brn_nd (fun h => ?_) (fun h => ?_) | with_reducible refine brn_d (fun h => ?_) (fun h => ?_) | with_reducible refine brn_nn (fun h => ?_) (fun h => ?_) | with_reducible refine brn_nb (fun h => ?_) (fun h => ?_) | with_reducible refine Brn.mk (fun h => ?_) (fun h => ?_) | with_reducible refine Chk.mk ?_ ?_ | with_reducible refine Bth.mk ?_ ?_ | with_reducible refine Fct.mk (fun hf => ?_)))
    · exfalso; have := hlen.1; simp only at this; omega
    · exact hS.v
    · intro ev hev
      (repeat' (first | with_reducible refine brn_nd (fun h => ?_) (fun h => ?_) | with_reducible refine brn_d (fun h => ?_) (fun h => ?_) | with_reducible refine brn_nn (fun h => ?_) (fun h => ?_) | with_reducible refine brn_nb (fun h => ?_) (fun h => ?_) | with_reducible refine Brn.mk (fun h => ?_) (fun h => ?_) | with_reducible refine Chk.mk ?_ ?_ | with_reducible refine Bth.mk ?_ ?_ | with_reducible refine Fct.mk (fun hf => ?_)))
      · unfold InI; omega
      · exact ⟨⟨by omega, by omega, hS⟩, by dsimp only; omega⟩
      · rename_i hk he
        have := (hS.step he fun _ => clr (hev.b hk).2.2.1 (hev.b hk).2.2.2).dead
        rw [this] at h; cases h
      · unfold InI; omega
      · rename_i hk he
        exact ⟨⟨by omega, by omega, hS.step he fun _ => clr (hev.b hk).2.2.1 (hev.b hk).2.2.2⟩, by dsimp only; omega⟩
      · unfold InI; omega
      · exact ⟨⟨by omega, by omega, hS⟩, by dsimp only; omega⟩
      · rename_i hk he
        have := (hS.step he fun k => absurd k hk).dead
        rw [this] at h; cases h
      · unfold InI; omega
      · rename_i hk he
        exact ⟨⟨by omega, by omega, hS.step he fun k => absurd k hk⟩, by dsimp only; omega⟩
    · trivial)
end Go.Proofs.Ytpneplgaeiomkaa
