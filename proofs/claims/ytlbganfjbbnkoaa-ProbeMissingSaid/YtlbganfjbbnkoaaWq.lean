/- What is right and enough stays so; the law ProbeStays. -/
import Derived.Test.YtlbganfjbbnkoaaWp
set_option linter.all false
set_option maxHeartbeats 4000000
namespace Go.Proofs.Ytlbganfjbbnkoaa
open Go.RowKit Go.Shelf
theorem bitOn_not (b : Int) (h : 0 ≤ b ∧ b ≤ 3) : bitOn (bits .andNot .i64 b 1) 1 = false ∧ 0 ≤ bits .andNot .i64 b 1 ∧ bits .andNot .i64 b 1 ≤ 3 := by
  have : b = 0 ∨ b = 1 ∨ b = 2 ∨ b = 3 := by omega
  rcases this with rfl | rfl | rfl | rfl <;> decide +kernel
theorem fromN_append {l : List Int} {b bit : Int} {n : Nat} (h : n ≤ l.length) : fromN (l ++ [b]) bit n = fromN l bit n := by
  induction n with
  | zero => rfl
  | succ n ih =>
    simp only [fromN, ih (by omega)]
    have : (l ++ [b]).getD n 0 = l.getD n 0 := by
      rw [List.getD_eq_getElem?_getD, List.getD_eq_getElem?_getD, List.getElem?_append_left (by omega)]
    rw [this]
theorem fromN_snoc {l : List Int} {b bit : Int} (hb : bitOn b bit = false) : fromN (l ++ [b]) bit (l ++ [b]).length = fromN l bit l.length := by
  rw [List.length_append, List.length_singleton]
  simp only [fromN]
  have : (l ++ [b]).getD l.length 0 = b := by rw [List.getD_eq_getElem?_getD, List.getElem?_append_right (Nat.le_refl _)]; simp
  rw [this, hb]
  simp only [Bool.false_eq_true, if_false]
  exact fromN_append (Nat.le_refl _)
/-- What stays: the fence, and that no replica accepts the old credential. -/
structure Stay (n : Nat) (l : List EvR) (c : Cl) : Prop where
  v : validB c = true
  f : c.fence = true
  r : c.reps.length = n
  p : ∀ k, k < n → ProofAt c l k
  q : ∀ x ∈ c.reps, liveB c x 1 = false
theorem Stay.enough {n : Nat} {l : List EvR} {c : Cl} (h : Stay n l c) : enoughS c l = true := enough_iff.2 ⟨h.v, fun k hk => h.p k (by rw [← h.r]; exact hk)⟩
theorem Stay.since {n : Nat} {l : List EvR} {c : Cl} (h : Stay n l c) : sinceB c 1 = true := by
  have hl := valid_len h.v
  obtain ⟨_, _, _, _, hs, _⟩ := h.p 0 (by have := h.r; omega)
  exact hs
theorem accS_of {c : Cl} {k : Nat} {bit : Int} (hv : validB c = true) (ha : askedB bit = true) (hk : k < c.reps.length) : accS c (k : Int) bit = liveB c c.reps[k] bit := by
  unfold accS
  have : inB (k : Int) 0 ((c.reps.length : Int) - 1) = true := (inB_iff _ _ _).2 (by omega)
  rw [hv, ha, this]
  simp only [Bool.true_and]
  congr 1
  unfold Cl.rep; simp [hk]
theorem Stay.dead {n : Nat} {l : List EvR} {c : Cl} (h : Stay n l c) : deadS c 1 = true := by
  unfold deadS
  rw [h.v, since_last h.since, none_of fun k hk => by rw [accS_of h.v rfl hk]; exact h.q _ (List.getElem_mem _)]
  rfl
theorem set_app {c : Cl} {b : Int} {g : Int} (h0 : 0 ≤ g) (h : g < c.sets.length) : ({ c with sets := c.sets ++ [b] } : Cl).set g = c.set g := by
  unfold Cl.set
  simp only
  rw [List.getD_eq_getElem?_getD, List.getD_eq_getElem?_getD, List.getElem?_append_left (by omega)]
theorem since_same {c d : Cl} (h : d.sets = c.sets) (hv : validB c = true) (hd : validB d = true) : sinceB d 1 = sinceB c 1 ∧ sinceS d 1 = sinceS c 1 := by
  have e : sinceB d 1 = sinceB c 1 := by unfold sinceB; rw [hv, hd, h]
  exact ⟨e, by unfold sinceS; rw [e, h]⟩
theorem proof_same {c d : Cl} {l : List EvR} {k : Nat} (h : d.sets = c.sets) (hv : validB c = true) (hd : validB d = true) (hp : ProofAt c l k) : ProofAt d l k := by
  obtain ⟨x, h1, h2, h3, h4, h5, h6⟩ := hp
  obtain ⟨e1, e2⟩ := since_same h hv hd
  exact ⟨x, h1, h2, h3, by rw [e1]; exact h4, by rw [e2]; exact h5, by rw [h]; exact h6⟩
theorem live_same {c d : Cl} (h : d.sets = c.sets) (x : RepR) (bit : Int) : liveB d x bit = liveB c x bit := by unfold liveB Cl.set; rw [h]
theorem live_off {c : Cl} {x : RepR} {bit : Int} (h : bitOn (c.set x.gen) bit = false) : liveB c x bit = false := by unfold liveB; rw [h, Bool.and_false]
theorem Stay.step {n : Nat} {l : List EvR} {c : Cl} (h : Stay n l c) {x : XvR} (he : applyE c x = 0) (hx : x.kind = 1 → bitOn x.bits 1 = false) : Stay n l (applyC c x) := by
  have hv' := applyC_valid he
  unfold applyC at hv' ⊢
  rw [if_pos he] at hv' ⊢
  obtain ⟨h1, h2, h3, h4, h5⟩ := h
  have hs : sinceB c 1 = true := Stay.since ⟨h1, h2, h3, h4, h5⟩
  by_cases k1 : x.kind = 1
  · rw [M1 k1] at hv' ⊢
    have hb := hx k1
    refine ⟨hv', h2, h3, fun k hk => ?_, fun r hr => ?_⟩
    · obtain ⟨y, q1, q2, q3, q4, q5, q6⟩ := h4 k hk
      have hF : fromN (c.sets ++ [x.bits]) 1 (c.sets ++ [x.bits]).length = fromN c.sets 1 c.sets.length := fromN_snoc hb
      have hle := fromN_le c.sets 1 c.sets.length
      have sB : sinceB { c with sets := c.sets ++ [x.bits] } 1 = true := by
        unfold sinceB
        rw [hv']
        show (true && askedB 1 && !decide (fromN (c.sets ++ [x.bits]) 1 (c.sets ++ [x.bits]).length = (c.sets ++ [x.bits]).length)) = true
        rw [hF]
        have : ¬ fromN c.sets 1 c.sets.length = c.sets.length + 1 := by omega
        simp [this, askedB]
      have sS : sinceS { c with sets := c.sets ++ [x.bits] } 1 = sinceS c 1 := by
        unfold sinceS
        rw [sB, hs]
        show (if true = true then ((fromN (c.sets ++ [x.bits]) 1 (c.sets ++ [x.bits]).length : Nat) : Int) else 0) = if true = true then ((fromN c.sets 1 c.sets.length : Nat) : Int) else 0
        rw [hF]
      refine ⟨y, q1, q2, q3, sB, by rw [sS]; exact q5, ?_⟩
      simp only [List.length_append, List.length_singleton]; omega
    · have hg := valid_gen h1 hr
      have := h5 r hr
      unfold liveB at this ⊢
      rw [set_app hg.1 hg.2]
      exact this
  by_cases k2 : x.kind = 2
  · rw [M2 k2] at hv' ⊢
    refine ⟨hv', h2, by simpa using h3, fun k hk => proof_same (c := c) rfl h1 hv' (h4 k hk), fun r hr => ?_⟩
    rw [live_same (c := c) (by rfl)]
    rcases List.mem_or_eq_of_mem_set hr with hr | hr
    · exact h5 r hr
    · subst hr
      exact live_off (since_last hs)
  by_cases k3 : x.kind = 3
  · rw [M3 k3] at hv' ⊢
    exact ⟨hv', h2, h3, fun k hk => proof_same (c := c) rfl h1 hv' (h4 k hk), fun r hr => by rw [live_same (c := c) (by rfl)]; exact h5 r hr⟩
  by_cases k4 : x.kind = 4
  · rw [M4 k4] at hv' ⊢
    refine ⟨hv', h2, by simpa using h3, fun k hk => proof_same (c := c) rfl h1 hv' (h4 k hk), fun r hr => ?_⟩
    rw [live_same (c := c) (by rfl)]
    rcases List.mem_or_eq_of_mem_set hr with hr | hr
    · exact h5 r hr
    · subst hr
      unfold liveB
      rw [h2]; rfl
  · rw [E0 k1 k2 k3 k4] at he; cases he
theorem stay_start {c : Cl} (hf : c.fence = true) (he : enoughS c (allL c) = true) : Stay c.reps.length (allL c) c := by
  obtain ⟨hv, hp⟩ := enough_iff.1 he
  refine ⟨hv, hf, rfl, hp, fun x hx => ?_⟩
  obtain ⟨k, hk, rfl⟩ := List.getElem_of_mem hx
  rw [← accS_of hv rfl hk]
  exact (all_proof hv hk (hp k hk)).1
theorem sync_ok {c : Cl} {k : Nat} (hv : validB c = true) (hk : k < c.reps.length) : applyE c ⟨2, k, 0, 0⟩ = 0 := by
  rw [E2 hv rfl]
  exact if_pos ⟨rfl, rfl, (inB_iff _ _ _).2 ⟨by simp only; omega, by simp only; omega⟩⟩
theorem pub_ok {c : Cl} {b : Int} (hv : validB c = true) (hs : c.sets.length ≤ 120) (hb : 0 ≤ b ∧ b ≤ 3) : applyE c ⟨1, 0, 0, b⟩ = 0 := by
  rw [E1 hv rfl, if_pos ⟨rfl, rfl, (inB_iff _ _ _).2 hb⟩]
  exact if_neg (by omega)
end Go.Proofs.Ytlbganfjbbnkoaa
