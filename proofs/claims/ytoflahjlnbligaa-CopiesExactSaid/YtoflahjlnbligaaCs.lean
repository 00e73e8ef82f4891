/- Estates: the example; stays. -/
import Derived.Test.YtoflahjlnbligaaCr
set_option linter.all false
set_option maxRecDepth 20000
set_option maxHeartbeats 4000000
namespace Go.Proofs.Ytoflahjlnbligaa
open Go.RowKit Go.Shelf
noncomputable def awake_V  (Q : SV → Prop) : Σ' P : Prop, (P → ICt 15 [] Q) := by
  apply mkV; intro hP
  refine ic_wk (K 34) Try.func15 rfl rfl rfl rfl (fun w0 => ?_)
  repeat' (first
    | ((apply (v_fzl (o := ⟨some 11, _, _, _, _, _⟩) 7)); exact rfl; exact rfl; exact rfl; (· repeat' (first | exact True.intro | refine And.intro ?_ ?_ | (show (_ : Nat) = _; (first | exact rfl | exact (List.length_map _).symm | omega | (simp only [List.length_set, List.length_map, List.length_append] <;> omega) | (simp; done))))))
    | ((apply (v_fzl (o := ⟨some 22, _, _, _, _, _⟩) 7)); exact rfl; exact rfl; exact rfl; (· repeat' (first | exact True.intro | refine And.intro ?_ ?_ | (show (_ : Nat) = _; (first | exact rfl | exact (List.length_map _).symm | omega | (simp only [List.length_set, List.length_map, List.length_append] <;> omega) | (simp; done))))))
    | ((apply (v_fzl (o := ⟨some 28, _, _, _, _, _⟩) 7)); exact rfl; exact rfl; exact rfl; (· repeat' (first | exact True.intro | refine And.intro ?_ ?_ | (show (_ : Nat) = _; (first | exact rfl | exact (List.length_map _).symm | omega | (simp only [List.length_set, List.length_map, List.length_append] <;> omega) | (simp; done))))))
    | ((fail_if_success (have hTest : Hld False := hP)); (have hq := chk_c hP); (replace hP := chk_p hP))
    | ((with_reducible apply j_lst); exact rfl)
    | (with_reducible (first | apply c_seq | apply c_rg | apply j_nil | apply q_n | apply g_tt | apply g_ff | apply c_bl | apply c_ex | apply c_ret | apply c_sk | apply q_r | apply q_e | apply b_r | apply b_e | apply b_n | apply n_n | apply n_r | apply n_e))
    | ((with_reducible apply c_l1); exact rfl; exact rfl)
    | ((with_reducible apply c_l2); exact rfl; exact rfl)
    | ((with_reducible apply c_l3); exact rfl)
    | ((with_reducible apply j_v); exact rfl; exact rfl)
    | ((with_reducible apply (v_bsf (d := 7) (Acc.row))); exact rfl; exact rfl; exact (row_cons (Acc.row_mk _ _ _ _ _ _ _) (row_cons (Acc.row_mk _ _ _ _ _ _ _) (row_cons (Acc.row_mk _ _ _ _ _ _ _) row_nil))); exact rfl; exact rfl)
    | ((with_reducible apply (v_bs (irow))); exact rfl; exact rfl; exact (row_cons (irow_mk _) row_nil); exact rfl)
    | ((with_reducible apply (v_bs (Sty.row))); exact rfl; exact rfl; exact (row_cons (Sty.row_mk _ _ _) (row_cons (Sty.row_mk _ _ _) row_nil)); exact rfl)
    | ((with_reducible apply (v_bs (Acc.row))); exact rfl; exact rfl; exact (row_cons (Acc.row_mk _ _ _ _ _ _ _) (row_cons (Acc.row_mk _ _ _ _ _ _ _) (row_cons (Acc.row_mk _ _ _ _ _ _ _) row_nil))); exact rfl)
    | ((with_reducible apply j_h); exact rfl; exact rfl)
    | ((with_reducible apply j_s); exact rfl)
    | ((with_reducible apply j_g); exact rfl; exact rfl; (first | with_reducible assumption | with_reducible exact Eq.refl true | with_reducible exact Eq.refl false | (with_reducible refine not_t ?_; with_reducible assumption) | (with_reducible refine not_f ?_; with_reducible assumption) | (refine dec_t ?_; decide) | (refine dec_f ?_; decide)))
    | ((with_reducible apply g_tf); exact rfl)
    | ((with_reducible apply g_ft); exact rfl)
    | ((with_reducible apply j_gz); exact rfl; exact rfl; exact rfl)
    | ((with_reducible apply j_pk); exact rfl; exact rfl; (first | with_reducible assumption | with_reducible exact Eq.refl true | with_reducible exact Eq.refl false | (with_reducible refine not_t ?_; with_reducible assumption) | (with_reducible refine not_f ?_; with_reducible assumption) | (refine dec_t ?_; decide) | (refine dec_f ?_; decide)); exact rfl)
    | ((with_reducible apply b_o); exact rfl)
    | ((with_reducible apply r_g); exact rfl; (· repeat' (first | exact True.intro | refine And.intro ?_ ?_ | (show (_ : Nat) = _; (first | exact rfl | exact (List.length_map _).symm | omega | (simp only [List.length_set, List.length_map, List.length_append] <;> omega) | (simp; done))))); (exact hP.out))
    | ((with_reducible apply j_call (pu := true)); exact rfl; (first | (apply (Stays_ic _ _); rotate_left 2) | (apply (Where_ic _ _ _); rotate_left 3) | (apply (Way_ic _ _ _ _); rotate_left 4)); (focus ((repeat' (first | exact .nil _ | refine PsL.cons ?_ ?_ | refine PsSL.cons ?_ ?_ | exact .one (.d _ _) | exact .one psc_nilm | exact psc_nilm | exact .one (.nil _) | exact .one (.nn _) | exact .one (.tape _) | exact .one (.fn _ _) | exact .agg (.same _ _) | refine .agg ?_ | exact .d _ _ | exact .one (.sl rfl rfl) | exact .one (.sl rfl (List.length_map _).symm) | exact .sl rfl rfl | exact .sl rfl (List.length_map _).symm | exact .same _ _)) <;> fail)); exact .inl rfl)
    | ((with_reducible apply j_call (pu := true)); exact rfl; (first | (apply (Stays_ic ⟨_, _⟩ _); rotate_left 3; dsimp only [Est.v_mk]) | (apply (Where_ic ⟨_, _⟩ _ _); rotate_left 4; dsimp only [Est.v_mk]) | (apply (Way_ic ⟨_, _⟩ _ _ _); rotate_left 5; dsimp only [Est.v_mk])); (focus ((repeat' (first | exact .nil _ | refine PsL.cons ?_ ?_ | refine PsSL.cons ?_ ?_ | exact .one (.d _ _) | exact .one psc_nilm | exact psc_nilm | exact .one (.nil _) | exact .one (.nn _) | exact .one (.tape _) | exact .one (.fn _ _) | exact .agg (.same _ _) | refine .agg ?_ | exact .d _ _ | exact .one (.sl rfl rfl) | exact .one (.sl rfl (List.length_map _).symm) | exact .sl rfl rfl | exact .sl rfl (List.length_map _).symm | exact .same _ _)) <;> fail)); exact .inl rfl)
    | ((with_reducible apply j_call (pu := false)); exact rfl; (first | (apply (ints_ic _ _); rotate_left 2) | (apply (same_ic _ _); rotate_left 2) | (apply (rProves_ic _ _ _ _ _); rotate_left 5)); (focus ((repeat' (first | exact .nil _ | refine PsL.cons ?_ ?_ | refine PsSL.cons ?_ ?_ | exact .one (.d _ _) | exact .one psc_nilm | exact psc_nilm | exact .one (.nil _) | exact .one (.nn _) | exact .one (.tape _) | exact .one (.fn _ _) | exact .agg (.same _ _) | refine .agg ?_ | exact .d _ _ | exact .one (.sl rfl rfl) | exact .one (.sl rfl (List.length_map _).symm) | exact .sl rfl rfl | exact .sl rfl (List.length_map _).symm | exact .same _ _)) <;> fail)); exact .inr rfl)
    | ((with_reducible apply j_call (pu := false)); exact rfl; (first | (apply (rProves_ic ⟨_, _⟩ _ _ _ _); rotate_left 6; dsimp only [Est.v_mk])); (focus ((repeat' (first | exact .nil _ | refine PsL.cons ?_ ?_ | refine PsSL.cons ?_ ?_ | exact .one (.d _ _) | exact .one psc_nilm | exact psc_nilm | exact .one (.nil _) | exact .one (.nn _) | exact .one (.tape _) | exact .one (.fn _ _) | exact .agg (.same _ _) | refine .agg ?_ | exact .d _ _ | exact .one (.sl rfl rfl) | exact .one (.sl rfl (List.length_map _).symm) | exact .sl rfl rfl | exact .sl rfl (List.length_map _).symm | exact .same _ _)) <;> fail)); exact .inr rfl)
    | ((with_reducible apply v_gs); exact rfl; exact rfl; (exact hP); all_goals (clear hP; intro hg hP))
    | ((with_reducible apply v_if); exact rfl; (exact hP); all_goals (clear hP; intro hc hP)))
theorem awake_ic : ICt 15 [] (fun v => v = bv true) := (awake_V _).2 (by
  (delta awake_V; dsimp only [mkV])
  exact congrArg bv (decide_eq_true (by decide)))
def ordR (s x : Sty) : Prop := s.place < x.place ∨ s.place = x.place ∧ s.til < x.frm
structure InJ (a : Est) (p : Int) (ts : List Int) (s : Int × List Sty) : Prop where
  o : s.2.Pairwise ordR
  e : ∀ y ∈ s.2, y.frm < y.til ∧ 0 ≤ y.place ∧ y.place < a.places
  b : ∀ y ∈ s.2, y.place < p ∨ y.place = p ∧ (∀ t ∈ ts, y.til < t) ∧ (0 ≤ s.1 → y.til < s.1)
  s : 0 ≤ s.1 → (∀ t ∈ ts, s.1 < t) ∧ s.1 ≤ 1099511627776
theorem pw_snoc {α : Type} {R : α → α → Prop} {l : List α} {x : α} (h : l.Pairwise R) (hx : ∀ y ∈ l, R y x) : (l ++ [x]).Pairwise R := by
  rw [List.pairwise_append]
  exact ⟨h, by simp, fun y hy z hz => by simp at hz; subst hz; exact hx y hy⟩
theorem InJ.step {a : Est} {c p t : Int} {ts : List Int} {s : Int × List Sty} (h : InJ a p (t :: ts) s) (hp : 0 ≤ p ∧ p < a.places) (ht : ∀ x ∈ ts, t < x) (h0 : 0 ≤ t ∧ t ≤ 1099511627776) : InJ a p ts (stp a c p s t) := by
  obtain ⟨h1, h2, h3, h4⟩ := h
  have b' : ∀ y ∈ s.2, y.place < p ∨ y.place = p ∧ y.til < t ∧ (∀ t ∈ ts, y.til < t) ∧ (0 ≤ s.1 → y.til < s.1) := fun y hy => by
    rcases h3 y hy with h | ⟨h, h5, h6⟩
    · exact .inl h
    · exact .inr ⟨h, h5 t (by simp), fun x hx => h5 x (by simp [hx]), h6⟩
  unfold stp
  split
  · split
    · refine ⟨h1, h2, fun y hy => ?_, fun _ => ⟨ht, h0.2⟩⟩
      rcases b' y hy with h | ⟨h, h5, h6, _⟩
      · exact .inl h
      · exact .inr ⟨h, h6, fun _ => h5⟩
    · refine ⟨h1, h2, fun y hy => ?_, fun h9 => ⟨fun x hx => (h4 h9).1 x (by simp [hx]), (h4 h9).2⟩⟩
      rcases b' y hy with h | ⟨h, h5, h6, h7⟩
      · exact .inl h
      · exact .inr ⟨h, h6, h7⟩
  · split
    · rename_i hs
      have hst := (h4 hs).1 t (by simp)
      refine ⟨pw_snoc h1 fun y hy => ?_, fun y hy => ?_, fun y hy => ?_, fun h9 => by simp at h9⟩
      · rcases b' y hy with h | ⟨h, h5, h6, h7⟩
        · exact .inl h
        · exact .inr ⟨h, h7 hs⟩
      · rcases List.mem_append.1 hy with hy | hy
        · exact h2 y hy
        · simp at hy; subst hy; exact ⟨hst, hp⟩
      · rcases List.mem_append.1 hy with hy | hy
        · rcases b' y hy with h | ⟨h, h5, h6, h7⟩
          · exact .inl h
          · exact .inr ⟨h, h6, fun h9 => by simp at h9⟩
        · simp at hy; subst hy; exact .inr ⟨rfl, ht, fun h9 => by simp at h9⟩
    · rename_i hs
      refine ⟨h1, h2, fun y hy => ?_, fun h9 => absurd h9 hs⟩
      rcases b' y hy with h | ⟨h, h5, h6, h7⟩
      · exact .inl h
      · exact .inr ⟨h, h6, h7⟩
theorem InJ.fold {a : Est} {c p : Int} (hp : 0 ≤ p ∧ p < a.places) : ∀ (ts : List Int) {s : Int × List Sty}, InJ a p ts s → ts.Pairwise (· < ·) → (∀ t ∈ ts, 0 ≤ t ∧ t ≤ 1099511627776) → InJ a p [] (ts.foldl (stp a c p) s)
  | [], _, h, _, _ => h
  | t :: ts, s, h, hs, hr => by
    rw [List.pairwise_cons] at hs
    exact InJ.fold hp ts (h.step hp hs.1 (hr t (by simp))) hs.2 fun x hx => hr x (by simp [hx])
theorem est_time {a : Est} (h : estB a = true) : ∀ x ∈ a.evs, 0 ≤ x.time ∧ x.time ≤ 1099511627776 := fun x hx => by
  obtain ⟨_, _, _, h4⟩ := estB_iff.1 h
  obtain ⟨i, hi, rfl⟩ := mem_gt hx
  have h5 := aevOk_iff.1 (h4 i hi)
  have h6 := prevA_nn (a := a) (i := i) fun j hj => h4 j (by omega)
  omega
theorem times_ok {a : Est} (h : estB a = true) : (timesS a).Pairwise (· < ·) ∧ ∀ t, t ∈ timesS a ↔ ∃ x ∈ a.evs, x.time = t := by
  unfold timesS
  rw [if_pos h]
  refine ⟨ded_sorted _ (by simp) ?_ (by simp), fun t => ?_⟩
  · rw [List.pairwise_map]; exact est_sorted h
  · unfold ded; rw [ded_mem]; simp
structure OutJ (a : Est) (p : Int) (l : List Sty) : Prop where
  o : l.Pairwise ordR
  e : ∀ y ∈ l, y.frm < y.til ∧ 0 ≤ y.place ∧ y.place < a.places
  b : ∀ y ∈ l, y.place < p
theorem OutJ.inj {a : Est} {p : Int} {l : List Sty} (h : OutJ a p l) (ts : List Int) : InJ a p ts (-1, l) := ⟨h.o, h.e, fun y hy => .inl (h.b y hy), fun h9 => by simp at h9⟩
theorem times_in {a : Est} (he : estB a = true) : ∀ t ∈ timesS a, 0 ≤ t ∧ t ≤ 1099511627776 := fun t ht => by
  obtain ⟨x, hx, rfl⟩ := ((times_ok he).2 t).1 ht
  exact est_time he x hx
theorem OutJ.plc {a : Est} {c p : Int} {l : List Sty} (h : OutJ a p l) (he : estB a = true) (hp : 0 ≤ p ∧ p < a.places) : OutJ a (p + 1) (plc a c l p) := by
  obtain ⟨h1, h2, h3, h4⟩ := InJ.fold (c := c) hp (timesS a) (h.inj _) (times_ok he).1 (times_in he)
  unfold Go.Proofs.Ytoflahjlnbligaa.plc
  generalize (timesS a).foldl (stp a c p) (-1, l) = s at *
  have b' : ∀ y ∈ s.2, y.place < p + 1 := fun y hy => by rcases h3 y hy with h | ⟨h, _⟩ <;> omega
  split
  · rename_i hs
    have h5 := (h4 hs).2
    refine ⟨pw_snoc h1 fun y hy => ?_, fun y hy => ?_, fun y hy => ?_⟩
    · rcases h3 y hy with h | ⟨h, _, h7⟩
      · exact .inl h
      · exact .inr ⟨h, h7 hs⟩
    · rcases List.mem_append.1 hy with hy | hy
      · exact h2 y hy
      · simp at hy; subst hy; exact ⟨by dsimp only; omega, hp⟩
    · rcases List.mem_append.1 hy with hy | hy
      · exact b' y hy
      · simp at hy; subst hy; dsimp only; omega
  · exact ⟨h1, h2, b'⟩
end Go.Proofs.Ytoflahjlnbligaa
