/- Plain facts on clusters and evidence. -/
import Derived.Test.YtpneplgaeiomkaaWm
set_option linter.all false
set_option maxRecDepth 20000
set_option maxHeartbeats 1000000
namespace Go.Proofs.Ytpneplgaeiomkaa
open Go.RowKit Go.Shelf
theorem allU_get {c : Cl} {n i : Nat} (h : i < n) : (allU c n)[i]? = some (ansS c (i : Int)) := by
  simp [allU, h]
theorem mem_allU {c : Cl} {n : Nat} {x : EvR} : x ∈ allU c n ↔ ∃ i : Nat, i < n ∧ x = ansS c (i : Int) := by
  simp only [allU, List.mem_map, List.mem_range]
  exact ⟨fun ⟨i, h, e⟩ => ⟨i, h, e.symm⟩, fun ⟨i, h, e⟩ => ⟨i, h, e.symm⟩⟩
theorem allL_valid {c : Cl} (hv : validB c = true) : allL c = allU c c.reps.length := by unfold allL; rw [if_pos hv]
theorem all_len {c : Cl} (hv : validB c = true) : (allL c).length = c.reps.length := by rw [allL_valid hv]; simp [allU]
theorem right_all {c : Cl} (hv : validB c = true) : rightS c (allL c) = true := by
  unfold rightS
  rw [hv, Bool.true_and, List.all_eq_true, allL_valid hv]
  intro x hx
  obtain ⟨i, hi, rfl⟩ := mem_allU.1 hx
  unfold okEv
  rw [Bool.and_eq_true]
  exact ⟨(exB_iff _ _).2 ⟨by simp [ansS], by simpa [ansS] using hi⟩, evEq_self _⟩
/-- A list proves that the replica k refuses. -/
def ProofAt (c : Cl) (l : List EvR) (k : Nat) : Prop := ∃ x ∈ l, x.rep = (k : Int) ∧ x.ref = true ∧ sinceB c 1 = true ∧ sinceS c 1 ≤ x.gen ∧ x.gen < c.sets.length
theorem missB_iff {c : Cl} {l : List EvR} {k : Nat} : missB c l (k : Int) = true ↔ ProofAt c l k := by
  simp only [missB, List.any_eq_true, proofB, Bool.and_eq_true, decide_eq_true_eq]
  constructor
  · rintro ⟨x, hx, ⟨⟨⟨h1, h2⟩, h3⟩, h4⟩, h5⟩; exact ⟨x, hx, h1, h2, h3, h4, h5⟩
  · rintro ⟨x, hx, h1, h2, h3, h4, h5⟩; exact ⟨x, hx, ⟨⟨⟨h1, h2⟩, h3⟩, h4⟩, h5⟩
theorem mem_miss {c : Cl} {l : List EvR} (hv : validB c = true) {z : Int} : z ∈ missL c l ↔ ∃ k : Nat, k < c.reps.length ∧ z = k ∧ ¬ ProofAt c l k := by
  unfold missL missU
  rw [if_pos hv, List.mem_filter]
  simp only [List.mem_map, List.mem_range]
  constructor
  · rintro ⟨⟨k, hk, rfl⟩, h⟩
    exact ⟨k, hk, rfl, fun hp => by rw [missB_iff.2 hp] at h; cases h⟩
  · rintro ⟨k, hk, rfl, h⟩
    refine ⟨⟨k, hk, rfl⟩, ?_⟩
    cases hb : missB c l (k : Int) with
    | false => rfl
    | true => exact absurd (missB_iff.1 hb) h
theorem enough_iff {c : Cl} {l : List EvR} : enoughS c l = true ↔ validB c = true ∧ ∀ k, k < c.reps.length → ProofAt c l k := by
  unfold enoughS
  rw [Bool.and_eq_true, decide_eq_true_eq]
  constructor
  · rintro ⟨hv, h⟩
    refine ⟨hv, fun k hk => ?_⟩
    have he : missL c l = [] := List.eq_nil_of_length_eq_zero (by omega)
    by_cases hp : ProofAt c l k
    · exact hp
    · have : (k : Int) ∈ missL c l := (mem_miss hv).2 ⟨k, hk, rfl, hp⟩
      rw [he] at this; cases this
  · rintro ⟨hv, h⟩
    refine ⟨hv, ?_⟩
    have : missL c l = [] := by
      rw [List.eq_nil_iff_forall_not_mem]
      intro z hz
      obtain ⟨k, hk, rfl, hn⟩ := (mem_miss hv).1 hz
      exact hn (h k hk)
    simp [this]
theorem fromN_last {l : List Int} {bit : Int} (h : fromN l bit l.length ≠ l.length) (hl : 0 < l.length) : bitOn (l.getD (l.length - 1) 0) bit = false := by
  obtain ⟨n, hn⟩ : ∃ n, l.length = n + 1 := ⟨l.length - 1, by omega⟩
  rw [hn] at h ⊢
  simp only [fromN, Nat.add_sub_cancel] at h ⊢
  cases hb : bitOn (l.getD n 0) bit with
  | false => rfl
  | true => rw [hb] at h; simp at h
theorem set_last {c : Cl} : c.set ((c.sets.length : Int) - 1) = c.sets.getD (c.sets.length - 1) 0 := by
  unfold Cl.set; congr 1; omega
theorem since_last {c : Cl} (h : sinceB c 1 = true) : lastOn c 1 = false := by
  unfold sinceB at h
  simp only [Bool.and_eq_true, Bool.not_eq_true', decide_eq_false_iff_not] at h
  have hl := valid_len h.1.1
  unfold lastOn
  rw [set_last]
  exact fromN_last h.2 (by omega)
theorem all_proof {c : Cl} (hv : validB c = true) {k : Nat} (hk : k < c.reps.length) (h : ProofAt c (allL c) k) : accS c (k : Int) 1 = false ∧ sinceB c 1 = true := by
  obtain ⟨x, hx, h1, h2, h3, _, _⟩ := h
  rw [allL_valid hv] at hx
  obtain ⟨i, hi, rfl⟩ := mem_allU.1 hx
  have : i = k := by simp [ansS] at h1; omega
  subst this
  exact ⟨by simpa [ansS] using h2, h3⟩
theorem none_of {c : Cl} {n : Nat} {bit : Int} (h : ∀ k, k < n → accS c (k : Int) bit = false) : noneU c bit n = true := by
  unfold noneU
  rw [List.all_eq_true]
  intro k hk
  rw [h k (List.mem_range.1 hk)]; rfl
theorem enough_dead {c : Cl} (h : enoughS c (allL c) = true) : deadS c 1 = true ∧ sinceB c 1 = true := by
  obtain ⟨hv, hp⟩ := enough_iff.1 h
  have hl := valid_len hv
  have hs := (all_proof hv (show 0 < c.reps.length by omega) (hp 0 (by omega))).2
  refine ⟨?_, hs⟩
  unfold deadS
  rw [hv, since_last hs, none_of fun k hk => (all_proof hv hk (hp k hk)).1]
  rfl
/-! awake -/
def aw1 : Cl := ⟨true, [1], [⟨0, true⟩, ⟨0, true⟩], []⟩
def awx : List XvR := [⟨1, 0, 0, 2⟩, ⟨2, 1, 0, 0⟩]
def aw2 : Cl := ⟨true, [1, 2], [⟨0, true⟩, ⟨1, true⟩], []⟩
def awl : List EvR := [⟨0, 0, false⟩, ⟨1, 1, true⟩]
theorem awake_ic : ICt 9 [] (fun v => v = bv true) := by
  have n1 : ICt 36 [iv 2, iv 1, bv true] (fun v => v = .tup [aw1.v, iv 0]) := (New_ic 2 1 true).mono fun v h => h.trans (by kernel_rfl)
  have n2 : ICt 41 [aw1.v, .one (.d (.list (awx.map XvR.row)))] (fun v => v = .tup [aw2.v, iv 2, iv 0]) := (Run_ic aw1 awx).mono fun v h => h.trans (by kernel_rfl)
  have n3 : ICt 12 [aw2.v] (fun v => v = .tup [evsV awl, iv 0]) := (All_ic aw2).mono fun v h => h.trans (by kernel_rfl)
  have n4 : ICt 21 [aw2.v, evsV awl] (fun v => v = bv true) := (Right_ic aw2 awl).mono fun v h => h.trans (by kernel_rfl)
  have n5 : ICt 23 [aw2.v, evsV awl] (fun v => v = bv false) := (Enough_ic aw2 awl).mono fun v h => h.trans (by kernel_rfl)
  have n6 : ICt 26 [aw2.v, evsV awl] (fun v => v = lv [0]) := (Missing_ic aw2 awl).mono fun v h => h.trans (by kernel_rfl)
  have n7 : ICt 25 [lv [0], lv [0]] (fun v => v = bv true) := (ints_ic [0] [0]).mono fun v h => h.trans (by kernel_rfl)
  refine ic_wk (K 43) Try.func9 rfl rfl rfl rfl (fun w0 => ?_)
  repeat' (first
    | ((with_reducible apply c_l1); exact rfl; exact rfl)
    | ((with_reducible apply c_l2); exact rfl; exact rfl)
    | ((with_reducible apply c_l3); exact rfl)
    | (with_reducible (first | apply c_seq | apply c_rg | apply j_nil | apply q_n | apply g_tt | apply g_ff | apply c_bl | apply c_ex | apply c_ret | apply c_sk | apply q_r | apply q_e | apply b_r | apply b_e | apply b_n | apply n_n | apply n_r | apply n_e))
    | ((with_reducible apply j_v); exact rfl; exact rfl)
    | ((with_reducible apply j_h); exact rfl; exact rfl)
    | ((with_reducible apply j_s); exact rfl)
    | ((with_reducible apply j_g); exact rfl; exact rfl; (first | with_reducible assumption | with_reducible exact Eq.refl true | with_reducible exact Eq.refl false | (with_reducible refine not_t ?_; with_reducible assumption) | (with_reducible refine not_f ?_; with_reducible assumption) | (refine dec_t ?_; decide) | (refine dec_f ?_; decide)))
    | ((with_reducible apply g_tf); exact rfl)
    | ((with_reducible apply g_ft); exact rfl)
    | ((with_reducible apply j_gz); exact rfl; exact rfl; exact rfl)
    | ((with_reducible apply j_pk); exact rfl; exact rfl; (first | with_reducible assumption | with_reducible exact Eq.refl true | with_reducible exact Eq.refl false | (with_reducible refine not_t ?_; with_reducible assumption) | (with_reducible refine not_f ?_; with_reducible assumption) | (refine dec_t ?_; decide) | (refine dec_f ?_; decide)); exact rfl)
    | ((with_reducible apply b_o); exact rfl)
    | ((with_reducible apply r_g); exact rfl; (· repeat' (first | exact True.intro | refine And.intro ?_ ?_ | (first | exact rfl | exact (List.length_map _).symm | omega | (simp only [List.length_set, List.length_map, List.length_append] <;> omega) | (simp; done)))))
    | ((with_reducible apply (j_fz 13)); exact rfl; exact rfl; exact rfl; (· repeat' (first | exact True.intro | refine And.intro ?_ ?_ | (first | exact rfl | exact (List.length_map _).symm | omega | (simp only [List.length_set, List.length_map, List.length_append] <;> omega) | (simp; done)))))
    | ((with_reducible apply (c_fz 13)); exact rfl; exact rfl; exact rfl; (· repeat' (first | exact True.intro | refine And.intro ?_ ?_ | (first | exact rfl | exact (List.length_map _).symm | omega | (simp only [List.length_set, List.length_map, List.length_append] <;> omega) | (simp; done)))))
    | ((with_reducible apply (j_fz 40)); exact rfl; exact rfl; exact rfl; (· repeat' (first | exact True.intro | refine And.intro ?_ ?_ | (first | exact rfl | exact (List.length_map _).symm | omega | (simp only [List.length_set, List.length_map, List.length_append] <;> omega) | (simp; done)))))
    | ((with_reducible apply (c_fz 40)); exact rfl; exact rfl; exact rfl; (· repeat' (first | exact True.intro | refine And.intro ?_ ?_ | (first | exact rfl | exact (List.length_map _).symm | omega | (simp only [List.length_set, List.length_map, List.length_append] <;> omega) | (simp; done)))))
    | ((with_reducible apply j_call (pu := false)); exact rfl; exact n1; (focus ((repeat' (first | exact .nil _ | refine .cons ?_ ?_ | exact .one (.d _ _) | exact .one (.nil _) | exact .one (.tape _) | exact .one (.fn _ _) | exact .agg (.same _ _) | refine .agg ?_ | exact .d _ _ | exact .one (.sl rfl rfl) | exact .sl rfl rfl | exact .same _ _)) <;> fail)); exact .inr rfl)
    | ((with_reducible apply j_call (pu := true)); exact rfl; exact n1; (focus ((repeat' (first | exact .nil _ | refine .cons ?_ ?_ | exact .one (.d _ _) | exact .one (.nil _) | exact .one (.tape _) | exact .one (.fn _ _) | exact .agg (.same _ _) | refine .agg ?_ | exact .d _ _ | exact .one (.sl rfl rfl) | exact .sl rfl rfl | exact .same _ _)) <;> fail)); exact .inl rfl)
    | ((with_reducible apply j_call (pu := false)); exact rfl; exact n2; (focus ((repeat' (first | exact .nil _ | refine .cons ?_ ?_ | exact .one (.d _ _) | exact .one (.nil _) | exact .one (.tape _) | exact .one (.fn _ _) | exact .agg (.same _ _) | refine .agg ?_ | exact .d _ _ | exact .one (.sl rfl rfl) | exact .sl rfl rfl | exact .same _ _)) <;> fail)); exact .inr rfl)
    | ((with_reducible apply j_call (pu := true)); exact rfl; exact n2; (focus ((repeat' (first | exact .nil _ | refine .cons ?_ ?_ | exact .one (.d _ _) | exact .one (.nil _) | exact .one (.tape _) | exact .one (.fn _ _) | exact .agg (.same _ _) | refine .agg ?_ | exact .d _ _ | exact .one (.sl rfl rfl) | exact .sl rfl rfl | exact .same _ _)) <;> fail)); exact .inl rfl)
    | ((with_reducible apply j_call (pu := false)); exact rfl; exact n3; (focus ((repeat' (first | exact .nil _ | refine .cons ?_ ?_ | exact .one (.d _ _) | exact .one (.nil _) | exact .one (.tape _) | exact .one (.fn _ _) | exact .agg (.same _ _) | refine .agg ?_ | exact .d _ _ | exact .one (.sl rfl rfl) | exact .sl rfl rfl | exact .same _ _)) <;> fail)); exact .inr rfl)
    | ((with_reducible apply j_call (pu := true)); exact rfl; exact n3; (focus ((repeat' (first | exact .nil _ | refine .cons ?_ ?_ | exact .one (.d _ _) | exact .one (.nil _) | exact .one (.tape _) | exact .one (.fn _ _) | exact .agg (.same _ _) | refine .agg ?_ | exact .d _ _ | exact .one (.sl rfl rfl) | exact .sl rfl rfl | exact .same _ _)) <;> fail)); exact .inl rfl)
    | ((with_reducible apply j_call (pu := false)); exact rfl; exact n4; (focus ((repeat' (first | exact .nil _ | refine .cons ?_ ?_ | exact .one (.d _ _) | exact .one (.nil _) | exact .one (.tape _) | exact .one (.fn _ _) | exact .agg (.same _ _) | refine .agg ?_ | exact .d _ _ | exact .one (.sl rfl rfl) | exact .sl rfl rfl | exact .same _ _)) <;> fail)); exact .inr rfl)
    | ((with_reducible apply j_call (pu := true)); exact rfl; exact n4; (focus ((repeat' (first | exact .nil _ | refine .cons ?_ ?_ | exact .one (.d _ _) | exact .one (.nil _) | exact .one (.tape _) | exact .one (.fn _ _) | exact .agg (.same _ _) | refine .agg ?_ | exact .d _ _ | exact .one (.sl rfl rfl) | exact .sl rfl rfl | exact .same _ _)) <;> fail)); exact .inl rfl)
    | ((with_reducible apply j_call (pu := false)); exact rfl; exact n5; (focus ((repeat' (first | exact .nil _ | refine .cons ?_ ?_ | exact .one (.d _ _) | exact .one (.nil _) | exact .one (.tape _) | exact .one (.fn _ _) | exact .agg (.same _ _) | refine .agg ?_ | exact .d _ _ | exact .one (.sl rfl rfl) | exact .sl rfl rfl | exact .same _ _)) <;> fail)); exact .inr rfl)
    | ((with_reducible apply j_call (pu := true)); exact rfl; exact n5; (focus ((repeat' (first | exact .nil _ | refine .cons ?_ ?_ | exact .one (.d _ _) | exact .one (.nil _) | exact .one (.tape _) | exact .one (.fn _ _) | exact .agg (.same _ _) | refine .agg ?_ | exact .d _ _ | exact .one (.sl rfl rfl) | exact .sl rfl rfl | exact .same _ _)) <;> fail)); exact .inl rfl)
    | ((with_reducible apply j_call (pu := false)); exact rfl; exact n6; (focus ((repeat' (first | exact .nil _ | refine .cons ?_ ?_ | exact .one (.d _ _) | exact .one (.nil _) | exact .one (.tape _) | exact .one (.fn _ _) | exact .agg (.same _ _) | refine .agg ?_ | exact .d _ _ | exact .one (.sl rfl rfl) | exact .sl rfl rfl | exact .same _ _)) <;> fail)); exact .inr rfl)
    | ((with_reducible apply j_call (pu := true)); exact rfl; exact n6; (focus ((repeat' (first | exact .nil _ | refine .cons ?_ ?_ | exact .one (.d _ _) | exact .one (.nil _) | exact .one (.tape _) | exact .one (.fn _ _) | exact .agg (.same _ _) | refine .agg ?_ | exact .d _ _ | exact .one (.sl rfl rfl) | exact .sl rfl rfl | exact .same _ _)) <;> fail)); exact .inl rfl)
    | ((with_reducible apply j_call (pu := false)); exact rfl; exact n7; (focus ((repeat' (first | exact .nil _ | refine .cons ?_ ?_ | exact .one (.d _ _) | exact .one (.nil _) | exact .one (.tape _) | exact .one (.fn _ _) | exact .agg (.same _ _) | refine .agg ?_ | exact .d _ _ | exact .one (.sl rfl rfl) | exact .sl rfl rfl | exact .same _ _)) <;> fail)); exact .inr rfl)
    | ((with_reducible apply j_call (pu := true)); exact rfl; exact n7; (focus ((repeat' (first | exact .nil _ | refine .cons ?_ ?_ | exact .one (.d _ _) | exact .one (.nil _) | exact .one (.tape _) | exact .one (.fn _ _) | exact .agg (.same _ _) | refine .agg ?_ | exact .d _ _ | exact .one (.sl rfl rfl) | exact .sl rfl rfl | exact .same _ _)) <;> fail)); exact .inl rfl)
    | (with_reducible rfl)
    | ((with_reducible apply j_gs); exact rfl; exact rfl; all_goals intro hg)
    | ((with_reducible apply c_if); exact rfl; all_goals intro hc))
end Go.Proofs.Ytpneplgaeiomkaa
