/- Estates: the example; stays. -/
import Derived.Test.YtoflahjlnbligaaCr
set_option linter.all false
set_option maxRecDepth 20000
set_option maxHeartbeats 4000000
namespace Go.Proofs.Ytoflahjlnbligaa
open Go.RowKit Go.Shelf
noncomputable def awake_V  (Q : SV → Prop) : Σ' P : Prop, (P → ICt 15 [] Q) := by
  apply mkV; intro hP
  refine ic_wk (K 34) Try.func15 rfl rfl rfl rfl (fun w0 => ?_)
  repeat' (first
    | ((apply (v_fzl (o := ⟨some 11, _, _, _, _, _⟩) 7)); exact rfl; exact rfl; exact rfl; (· repeat' (first | exact True.intro | refine And.intro ?_ ?_ | (show (_ : Nat) = _; (first | exact rfl | exact (List.length_map _).symm | omega | (simp only [List.length_set, List.length_map, List.length_append] <;> omega) | (simp; done))))))
    | ((apply (v_fzl (o := ⟨some 22, _, _, _, _, _⟩) 7)); exact rfl; exact rfl; exact rfl; (· repeat' (first | exact True.intro | refine And.intro ?_ ?_ | (show (_ : Nat) = _; (first | exact rfl | exact (List.length_map _).symm | omega | (simp only [List.length_set, List.length_map, List.length_append] <;> omega) | (simp; done))))))
    | ((apply (v_fzl (o := ⟨some 28, _, _, _, _, _⟩) 7)); exact rfl; exact rfl; exact rfl; (· repeat' (first | exact True.intro | refine And.intro ?_ ?_ | (show (_ : Nat) = _; (first | exact rfl | exact (List.length_map _).symm | omega | (simp only [List.length_set, List.length_map, List.length_append] <;> omega) | (simp; done))))))
    | ((fail_if_success (have hTest : Hld False := hP)); (have hq := chk_c hP); (replace hP := chk_p hP))
    | ((with_reducible apply j_lst); exact rfl)
    | (with_reducible (first | apply c_seq | apply c_rg | apply j_nil | apply q_n | apply g_tt | apply g_ff | apply c_bl | apply c_ex | apply c_ret | apply c_sk | apply q_r | apply q_e | apply b_r | apply b_e | apply b_n | apply n_n | apply n_r | apply n_e))
    | ((with_reducible apply c_l1); exact rfl; exact rfl)
    | ((with_reducible apply c_l2); exact rfl; exact rfl)
    | ((with_reducible apply c_l3); exact rfl)
    | ((with_reducible apply j_v); exact rfl; exact rfl)
    | ((with_reducible apply (v_bsf (d := 7) (Acc.row))); exact rfl; exact rfl; exact (row_cons (Acc.row_mk _ _ _ _ _ _ _) (row_cons (Acc.row_mk _ _ _ _ _ _ _) (row_cons (Acc.row_mk _ _ _ _ _ _ _) row_nil))); exact rfl; exact rfl)
    | ((with_reducible apply (v_bs (irow))); exact rfl; exact rfl; exact (row_cons (irow_mk _) row_nil); exact rfl)
    | ((with_reducible apply (v_bs (Sty.row))); exact rfl; exact rfl; exact (row_cons (Sty.row_mk _ _ _) (row_cons (Sty.row_mk _ _ _) row_nil)); exact rfl)
    | ((with_reducible apply (v_bs (Acc.row))); exact rfl; exact rfl; exact (row_cons (Acc.row_mk _ _ _ _ _ _ _) (row_cons (Acc.row_mk _ _ _ _ _ _ _) (row_cons (Acc.row_mk _ _ _ _ _ _ _) row_nil))); exact rfl)
    | ((with_reducible apply j_h); exact rfl; exact rfl)
    | ((with_reducible apply j_s); exact rfl)
    | ((with_reducible apply j_g); exact rfl; exact rfl; (first | with_reducible assumption | with_reducible exact Eq.refl true | with_reducible exact Eq.refl false | (with_reducible refine not_t ?_; with_reducible assumption) | (with_reducible refine not_f ?_; with_reducible assumption) | (refine dec_t ?_; decide) | (refine dec_f ?_; decide)))
    | ((with_reducible apply g_tf); exact rfl)
    | ((with_reducible apply g_ft); exact rfl)
    | ((with_reducible apply j_gz); exact rfl; exact rfl; exact rfl)
    | ((with_reducible apply j_pk); exact rfl; exact rfl; (first | with_reducible assumption | with_reducible exact Eq.refl true | with_reducible exact Eq.refl false | (with_reducible refine not_t ?_; with_reducible assumption) | (with_reducible refine not_f ?_; with_reducible assumption) | (refine dec_t ?_; decide) | (refine dec_f ?_; decide)); exact rfl)
    | ((with_reducible apply b_o); exact rfl)
    | ((with_reducible apply r_g); exact rfl; (· repeat' (first | exact True.intro | refine And.intro ?_ ?_ | (show (_ : Nat) = _; (first | exact rfl | exact (List.length_map _).symm | omega | (simp only [List.length_set, List.length_map, List.length_append] <;> omega) | (simp; done))))); (exact hP.out))
    | ((with_reducible apply j_call (pu := true)); exact rfl; apply (Stays_ic _ _); rotate_left 2; (focus ((repeat' (first | exact .nil _ | refine PsL.cons ?_ ?_ | refine PsSL.cons ?_ ?_ | exact .one (.d _ _) | exact .one psc_nilm | exact psc_nilm | exact .one (.nil _) | exact .one (.nn _) | exact .one (.tape _) | exact .one (.fn _ _) | exact .agg (.same _ _) | refine .agg ?_ | exact .d _ _ | exact .one (.sl rfl rfl) | exact .one (.sl rfl (List.length_map _).symm) | exact .sl rfl rfl | exact .sl rfl (List.length_map _).symm | exact .same _ _)) <;> fail)); exact .inl rfl)
    | ((with_reducible apply j_call (pu := true)); exact rfl; apply (Stays_ic ⟨_, _⟩ _); rotate_left 3; dsimp only [Est.v_mk]; (focus ((repeat' (first | exact .nil _ | refine PsL.cons ?_ ?_ | refine PsSL.cons ?_ ?_ | exact .one (.d _ _) | exact .one psc_nilm | exact psc_nilm | exact .one (.nil _) | exact .one (.nn _) | exact .one (.tape _) | exact .one (.fn _ _) | exact .agg (.same _ _) | refine .agg ?_ | exact .d _ _ | exact .one (.sl rfl rfl) | exact .one (.sl rfl (List.length_map _).symm) | exact .sl rfl rfl | exact .sl rfl (List.length_map _).symm | exact .same _ _)) <;> fail)); exact .inl rfl)
    | ((with_reducible apply j_call (pu := true)); exact rfl; apply (Where_ic _ _ _); rotate_left 3; (focus ((repeat' (first | exact .nil _ | refine PsL.cons ?_ ?_ | refine PsSL.cons ?_ ?_ | exact .one (.d _ _) | exact .one psc_nilm | exact psc_nilm | exact .one (.nil _) | exact .one (.nn _) | exact .one (.tape _) | exact .one (.fn _ _) | exact .agg (.same _ _) | refine .agg ?_ | exact .d _ _ | exact .one (.sl rfl rfl) | exact .one (.sl rfl (List.length_map _).symm) | exact .sl rfl rfl | exact .sl rfl (List.length_map _).symm | exact .same _ _)) <;> fail)); exact .inl rfl)
    | ((with_reducible apply j_call (pu := true)); exact rfl; apply (Where_ic ⟨_, _⟩ _ _); rotate_left 4; dsimp only [Est.v_mk]; (focus ((repeat' (first | exact .nil _ | refine PsL.cons ?_ ?_ | refine PsSL.cons ?_ ?_ | exact .one (.d _ _) | exact .one psc_nilm | exact psc_nilm | exact .one (.nil _) | exact .one (.nn _) | exact .one (.tape _) | exact .one (.fn _ _) | exact .agg (.same _ _) | refine .agg ?_ | exact .d _ _ | exact .one (.sl rfl rfl) | exact .one (.sl rfl (List.length_map _).symm) | exact .sl rfl rfl | exact .sl rfl (List.length_map _).symm | exact .same _ _)) <;> fail)); exact .inl rfl)
    | ((with_reducible apply j_call (pu := false)); exact rfl; apply (ints_ic _ _); rotate_left 2; (focus ((repeat' (first | exact .nil _ | refine PsL.cons ?_ ?_ | refine PsSL.cons ?_ ?_ | exact .one (.d _ _) | exact .one psc_nilm | exact psc_nilm | exact .one (.nil _) | exact .one (.nn _) | exact .one (.tape _) | exact .one (.fn _ _) | exact .agg (.same _ _) | refine .agg ?_ | exact .d _ _ | exact .one (.sl rfl rfl) | exact .one (.sl rfl (List.length_map _).symm) | exact .sl rfl rfl | exact .sl rfl (List.length_map _).symm | exact .same _ _)) <;> fail)); exact .inr rfl)
    | ((with_reducible apply j_call (pu := false)); exact rfl; apply (same_ic _ _); rotate_left 2; (focus ((repeat' (first | exact .nil _ | refine PsL.cons ?_ ?_ | refine PsSL.cons ?_ ?_ | exact .one (.d _ _) | exact .one psc_nilm | exact psc_nilm | exact .one (.nil _) | exact .one (.nn _) | exact .one (.tape _) | exact .one (.fn _ _) | exact .agg (.same _ _) | refine .agg ?_ | exact .d _ _ | exact .one (.sl rfl rfl) | exact .one (.sl rfl (List.length_map _).symm) | exact .sl rfl rfl | exact .sl rfl (List.length_map _).symm | exact .same _ _)) <;> fail)); exact .inr rfl)
    | ((with_reducible apply j_call (pu := true)); exact rfl; apply (Way_ic _ _ _ _); rotate_left 4; (focus ((repeat' (first | exact .nil _ | refine PsL.cons ?_ ?_ | refine PsSL.cons ?_ ?_ | exact .one (.d _ _) | exact .one psc_nilm | exact psc_nilm | exact .one (.nil _) | exact .one (.nn _) | exact .one (.tape _) | exact .one (.fn _ _) | exact .agg (.same _ _) | refine .agg ?_ | exact .d _ _ | exact .one (.sl rfl rfl) | exact .one (.sl rfl (List.length_map _).symm) | exact .sl rfl rfl | exact .sl rfl (List.length_map _).symm | exact .same _ _)) <;> fail)); exact .inl rfl)
    | ((with_reducible apply j_call (pu := true)); exact rfl; apply (Way_ic ⟨_, _⟩ _ _ _); rotate_left 5; dsimp only [Est.v_mk]; (focus ((repeat' (first | exact .nil _ | refine PsL.cons ?_ ?_ | refine PsSL.cons ?_ ?_ | exact .one (.d _ _) | exact .one psc_nilm | exact psc_nilm | exact .one (.nil _) | exact .one (.nn _) | exact .one (.tape _) | exact .one (.fn _ _) | exact .agg (.same _ _) | refine .agg ?_ | exact .d _ _ | exact .one (.sl rfl rfl) | exact .one (.sl rfl (List.length_map _).symm) | exact .sl rfl rfl | exact .sl rfl (List.length_map _).symm | exact .same _ _)) <;> fail)); exact .inl rfl)
    | ((with_reducible apply j_call (pu := false)); exact rfl; apply (rProves_ic _ _ _ _ _); rotate_left 5; (focus ((repeat' (first | exact .nil _ | refine PsL.cons ?_ ?_ | refine PsSL.cons ?_ ?_ | exact .one (.d _ _) | exact .one psc_nilm | exact psc_nilm | exact .one (.nil _) | exact .one (.nn _) | exact .one (.tape _) | exact .one (.fn _ _) | exact .agg (.same _ _) | refine .agg ?_ | exact .d _ _ | exact .one (.sl rfl rfl) | exact .one (.sl rfl (List.length_map _).symm) | exact .sl rfl rfl | exact .sl rfl (List.length_map _).symm | exact .same _ _)) <;> fail)); exact .inr rfl)
    | ((with_reducible apply j_call (pu := false)); exact rfl; apply (rProves_ic ⟨_, _⟩ _ _ _ _); rotate_left 6; dsimp only [Est.v_mk]; (focus ((repeat' (first | exact .nil _ | refine PsL.cons ?_ ?_ | refine PsSL.cons ?_ ?_ | exact .one (.d _ _) | exact .one psc_nilm | exact psc_nilm | exact .one (.nil _) | exact .one (.nn _) | exact .one (.tape _) | exact .one (.fn _ _) | exact .agg (.same _ _) | refine .agg ?_ | exact .d _ _ | exact .one (.sl rfl rfl) | exact .one (.sl rfl (List.length_map _).symm) | exact .sl rfl rfl | exact .sl rfl (List.length_map _).symm | exact .same _ _)) <;> fail)); exact .inr rfl)
    | ((with_reducible apply v_gs); exact rfl; exact rfl; (exact hP); all_goals (clear hP; intro hg hP))
    | ((with_reducible apply v_if); exact rfl; (exact hP); all_goals (clear hP; intro hc hP)))
theorem awake_ic : ICt 15 [] (fun v => v = bv true) := (awake_V _).2 (by
  (delta awake_V; dsimp only [mkV])
  exact congrArg bv (decide_eq_true (by decide)))
def ordR (s x : Sty) : Prop := s.place < x.place ∨ s.place = x.place ∧ s.til < x.frm
structure InJ (a : Est) (p : Int) (ts : List Int) (s : Int × List Sty) : Prop where
  o : s.2.Pairwise ordR
  e : ∀ y ∈ s.2, y.frm < y.til ∧ 0 ≤ y.place ∧ y.place < a.places
  b : ∀ y ∈ s.2, y.place < p ∨ y.place = p ∧ (∀ t ∈ ts, y.til < t) ∧ (0 ≤ s.1 → y.til < s.1)
  s : 0 ≤ s.1 → (∀ t ∈ ts, s.1 < t) ∧ s.1 ≤ 1099511627776
theorem pw_snoc {α : Type} {R : α → α → Prop} {l : List α} {x : α} (h : l.Pairwise R) (hx : ∀ y ∈ l, R y x) : (l ++ [x]).Pairwise R := by
  rw [List.pairwise_append]
  exact ⟨h, by simp, fun y hy z hz => by simp at hz; subst hz; exact hx y hy⟩
theorem InJ.step {a : Est} {c p t : Int} {ts : List Int} {s : Int × List Sty} (h : InJ a p (t :: ts) s) (hp : 0 ≤ p ∧ p < a.places) (ht : ∀ x ∈ ts, t < x) (h0 : 0 ≤ t ∧ t ≤ 1099511627776) : InJ a p ts (stp a c p s t) := by
  obtain ⟨h1, h2, h3, h4⟩ := h
  have b' : ∀ y ∈ s.2, y.place < p ∨ y.place = p ∧ y.til < t ∧ (∀ t ∈ ts, y.til < t) ∧ (0 ≤ s.1 → y.til < s.1) := fun y hy => by
    rcases h3 y hy with h | ⟨h, h5, h6⟩
    · exact .inl h
    · exact .inr ⟨h, h5 t (by simp), fun x hx => h5 x (by simp [hx]), h6⟩
  unfold stp
  split
  · split
    · refine ⟨h1, h2, fun y hy => ?_, fun _ => ⟨ht, h0.2⟩⟩
      rcases b' y hy with h | ⟨h, h5, h6, _⟩
      · exact .inl h
      · exact .inr ⟨h, h6, fun _ => h5⟩
    · refine ⟨h1, h2, fun y hy => ?_, fun h9 => ⟨fun x hx => (h4 h9).1 x (by simp [hx]), (h4 h9).2⟩⟩
      rcases b' y hy with h | ⟨h, h5, h6, h7⟩
      · exact .inl h
      · exact .inr ⟨h, h6, h7⟩
  · split
    · rename_i hs
      have hst := (h4 hs).1 t (by simp)
      refine ⟨pw_snoc h1 fun y hy => ?_, fun y hy => ?_, fun y hy => ?_, fun h9 => by simp at h9⟩
      · rcases b' y hy with h | ⟨h, h5, h6, h7⟩
        · exact .inl h
        · exact .inr ⟨h, h7 hs⟩
      · rcases List.mem_append.1 hy with hy | hy
        · exact h2 y hy
        · simp at hy; subst hy; exact ⟨hst, hp⟩
      · rcases List.mem_append.1 hy with hy | hy
        · rcases b' y hy with h | ⟨h, h5, h6, h7⟩
          · exact .inl h
          · exact .inr ⟨h, h6, fun h9 => by simp at h9⟩
        · simp at hy; subst hy; exact .inr ⟨rfl, ht, fun h9 => by simp at h9⟩
    · rename_i hs
      refine ⟨h1, h2, fun y hy => ?_, fun h9 => absurd h9 hs⟩
      rcases b' y hy with h | ⟨h, h5, h6, h7⟩
      · exact .inl h
      · exact .inr ⟨h, h6, h7⟩
theorem InJ.fold {a : Est} {c p : Int} (hp : 0 ≤ p ∧ p < a.places) : ∀ (ts : List Int) {s : Int × List Sty}, InJ a p ts s → ts.Pairwise (· < ·) → (∀ t ∈ ts, 0 ≤ t ∧ t ≤ 1099511627776) → InJ a p [] (ts.foldl (stp a c p) s)
  | [], _, h, _, _ => h
  | t :: ts, s, h, hs, hr => by
    rw [List.pairwise_cons] at hs
    exact InJ.fold hp ts (h.step hp hs.1 (hr t (by simp))) hs.2 fun x hx => hr x (by simp [hx])
theorem est_time {a : Est} (h : estB a = true) : ∀ x ∈ a.evs, 0 ≤ x.time ∧ x.time ≤ 1099511627776 := fun x hx => by
  obtain ⟨_, _, _, h4⟩ := estB_iff.1 h
  obtain ⟨i, hi, rfl⟩ := mem_gt hx
  have h5 := aevOk_iff.1 (h4 i hi)
  have h6 := prevA_nn (a := a) (i := i) fun j hj => h4 j (by omega)
  omega
theorem times_ok {a : Est} (h : estB a = true) : (timesS a).Pairwise (· < ·) ∧ ∀ t, t ∈ timesS a ↔ ∃ x ∈ a.evs, x.time = t := by
  unfold timesS
  rw [if_pos h]
  refine ⟨ded_sorted _ (by simp) ?_ (by simp), fun t => ?_⟩
  · rw [List.pairwise_map]; exact est_sorted h
  · unfold ded; rw [ded_mem]; simp
structure OutJ (a : Est) (p : Int) (l : List Sty) : Prop where
  o : l.Pairwise ordR
  e : ∀ y ∈ l, y.frm < y.til ∧ 0 ≤ y.place ∧ y.place < a.places
  b : ∀ y ∈ l, y.place < p
theorem OutJ.inj {a : Est} {p : Int} {l : List Sty} (h : OutJ a p l) (ts : List Int) : InJ a p ts (-1, l) := ⟨h.o, h.e, fun y hy => .inl (h.b y hy), fun h9 => by simp at h9⟩
theorem times_in {a : Est} (he : estB a = true) : ∀ t ∈ timesS a, 0 ≤ t ∧ t ≤ 1099511627776 := fun t ht => by
  obtain ⟨x, hx, rfl⟩ := ((times_ok he).2 t).1 ht
  exact est_time he x hx
theorem OutJ.plc {a : Est} {c p : Int} {l : List Sty} (h : OutJ a p l) (he : estB a = true) (hp : 0 ≤ p ∧ p < a.places) : OutJ a (p + 1) (plc a c l p) := by
  obtain ⟨h1, h2, h3, h4⟩ := InJ.fold (c := c) hp (timesS a) (h.inj _) (times_ok he).1 (times_in he)
  unfold Go.Proofs.Ytoflahjlnbligaa.plc
  generalize (timesS a).foldl (stp a c p) (-1, l) = s at *
  have b' : ∀ y ∈ s.2, y.place < p + 1 := fun y hy => by rcases h3 y hy with h | ⟨h, _⟩ <;> omega
  split
  · rename_i hs
    have h5 := (h4 hs).2
    refine ⟨pw_snoc h1 fun y hy => ?_, fun y hy => ?_, fun y hy => ?_⟩
    · rcases h3 y hy with h | ⟨h, _, h7⟩
      · exact .inl h
      · exact .inr ⟨h, h7 hs⟩
    · rcases List.mem_append.1 hy with hy | hy
      · exact h2 y hy
      · simp at hy; subst hy; exact ⟨by dsimp only; omega, hp⟩
    · rcases List.mem_append.1 hy with hy | hy
      · exact b' y hy
      · simp at hy; subst hy; dsimp only; omega
  · exact ⟨h1, h2, b'⟩
theorem stays_ord {a : Est} (he : estB a = true) (c : Int) : ∀ n : Nat, n ≤ a.places.toNat → OutJ a n ((rg' n).foldl (plc a c) []) := by
  intro n
  induction n with
  | zero => intro _; exact ⟨by simp [rg'], by simp [rg'], by simp [rg']⟩
  | succ n ih =>
    intro hn
    rw [rg'_fold]
    exact_mod_cast (ih (by omega)).plc he ⟨by omega, by omega⟩
def covB (l : List Sty) (p t : Int) : Prop := ∃ y ∈ l, y.place = p ∧ y.frm ≤ t ∧ t < y.til
theorem covB_snoc {l : List Sty} {x : Sty} {p t : Int} : covB (l ++ [x]) p t ↔ covB l p t ∨ x.place = p ∧ x.frm ≤ t ∧ t < x.til := by
  unfold covB
  constructor
  · rintro ⟨y, hy, h⟩
    rcases List.mem_append.1 hy with hy | hy
    · exact .inl ⟨y, hy, h⟩
    · simp at hy; subst hy; exact .inr h
  · rintro (⟨y, hy, h⟩ | h)
    · exact ⟨y, by simp [hy], h⟩
    · exact ⟨x, by simp, h⟩
def fD (a : Est) (c p t : Int) (b : Bool) (u : Int) : Bool := if u ≤ t then inT a c p u else b
theorem stp_cov {a : Est} {c p t u : Int} {ts : List Int} {s : Int × List Sty} {b : Bool} (h : InJ a p (u :: ts) s) (hb : b = true ↔ covB s.2 p t ∨ 0 ≤ s.1 ∧ s.1 ≤ t) (hu : 0 ≤ u) : fD a c p t b u = true ↔ covB (stp a c p s u).2 p t ∨ 0 ≤ (stp a c p s u).1 ∧ (stp a c p s u).1 ≤ t := by
  obtain ⟨h1, h2, h3, h4⟩ := h
  have no : u ≤ t → ¬ covB s.2 p t := fun hut => by
    rintro ⟨y, hy, q1, q2, q3⟩
    rcases h3 y hy with h | ⟨_, h, _⟩
    · omega
    · have := h u (by simp); omega
  have sl : 0 ≤ s.1 → s.1 < u := fun h => (h4 h).1 u (by simp)
  unfold fD stp
  by_cases hut : u ≤ t
  · have no := no hut
    rw [if_pos hut]
    cases hi : inT a c p u with
    | true =>
      rw [if_pos rfl]
      split
      · simp; right; omega
      · simp; right; have := sl (by omega); omega
    | false =>
      rw [if_neg (by simp)]
      split
      · rw [covB_snoc]
        simp
        exact ⟨no, fun _ => hut⟩
      · simp
        exact ⟨no, fun _ => by omega⟩
  · rw [if_neg hut, hb]
    cases hi : inT a c p u with
    | true =>
      rw [if_pos rfl]
      split
      · dsimp only
        constructor
        · rintro (h | h)
          · exact .inl h
          · omega
        · rintro (h | h)
          · exact .inl h
          · omega
      · exact Iff.rfl
    | false =>
      rw [if_neg (by simp)]
      split
      · rw [covB_snoc]
        dsimp only
        constructor
        · rintro (h | h)
          · exact .inl (.inl h)
          · exact .inl (.inr ⟨rfl, h.2, by omega⟩)
        · rintro ((h | h) | h)
          · exact .inl h
          · exact .inr ⟨by assumption, h.2.1⟩
          · omega
      · exact Iff.rfl
theorem stp_fold {a : Est} {c p t : Int} (hp : 0 ≤ p ∧ p < a.places) : ∀ (ts : List Int) {s : Int × List Sty} {b : Bool}, InJ a p ts s → ts.Pairwise (· < ·) → (∀ t ∈ ts, 0 ≤ t ∧ t ≤ 1099511627776) → (b = true ↔ covB s.2 p t ∨ 0 ≤ s.1 ∧ s.1 ≤ t) → (ts.foldl (fD a c p t) b = true ↔ covB (ts.foldl (stp a c p) s).2 p t ∨ 0 ≤ (ts.foldl (stp a c p) s).1 ∧ (ts.foldl (stp a c p) s).1 ≤ t)
  | [], _, _, _, _, _, hb => hb
  | u :: ts, s, b, h, hs, hr, hb => by
    rw [List.pairwise_cons] at hs
    have hu := hr u (by simp)
    exact stp_fold hp ts (h.step hp hs.1 hu) hs.2 (fun x hx => hr x (by simp [hx])) (stp_cov h hb hu.1)
theorem fold_last {g : Int → Bool} {t : Int} : ∀ (ts : List Int) (b : Bool), ts.Pairwise (· < ·) → (∃ u ∈ ts, u ≤ t ∧ (∀ x ∈ ts, x ≤ t → x ≤ u) ∧ ts.foldl (fun b u => if u ≤ t then g u else b) b = g u) ∨ ((∀ x ∈ ts, t < x) ∧ ts.foldl (fun b u => if u ≤ t then g u else b) b = b)
  | [], b, _ => .inr ⟨by simp, rfl⟩
  | x :: ts, b, hs => by
    rw [List.pairwise_cons] at hs
    rw [List.foldl_cons]
    rcases fold_last (g := g) (t := t) ts (if x ≤ t then g x else b) hs.2 with ⟨u, h1, h2, h3, h4⟩ | ⟨h1, h2⟩
    · refine .inl ⟨u, by simp [h1], h2, fun y hy h => ?_, h4⟩
      rcases List.mem_cons.1 hy with rfl | hy
      · have := hs.1 u h1; omega
      · exact h3 y hy h
    · by_cases hx : x ≤ t
      · rw [if_pos hx] at h2 ⊢
        refine .inl ⟨x, by simp, hx, fun y hy h => ?_, h2⟩
        rcases List.mem_cons.1 hy with rfl | hy
        · exact Int.le_refl _
        · have := h1 y hy; omega
      · rw [if_neg hx] at h2 ⊢
        refine .inr ⟨fun y hy => ?_, h2⟩
        rcases List.mem_cons.1 hy with rfl | hy
        · omega
        · exact h1 y hy
theorem tw_congr {α : Type} {p q : α → Bool} : ∀ {l : List α}, (∀ x ∈ l, p x = q x) → l.takeWhile p = l.takeWhile q
  | [], _ => rfl
  | x :: l, h => by
    rw [List.takeWhile_cons, List.takeWhile_cons, h x (by simp), tw_congr fun y hy => h y (by simp [hy])]
theorem happ_congr {a : Est} {t u : Int} (h : ∀ x ∈ a.evs, x.time ≤ t ↔ x.time ≤ u) : happS a t = happS a u := by
  unfold happS
  rw [tw_congr (p := fun x : Acc => decide (x.time ≤ t)) (q := fun x => decide (x.time ≤ u)) (fun x hx => decide_eq_decide.2 (h x hx))]
theorem inT_last {a : Est} {c p t : Int} (he : estB a = true) (hp : 0 ≤ p ∧ p < a.places) : (timesS a).foldl (fD a c p t) false = inT a c p t := by
  obtain ⟨hs, hm⟩ := times_ok he
  rcases fold_last (g := fun u => inT a c p u) (t := t) (timesS a) false hs with ⟨u, h1, h2, h3, h4⟩ | ⟨h1, h2⟩
  · refine Eq.trans h4 ?_
    unfold inT
    rw [happ_congr (t := u) (u := t) fun x hx => ⟨fun h => by omega, fun h => h3 _ ((hm _).2 ⟨x, hx, rfl⟩) h⟩]
  · refine Eq.trans h2 ?_
    have h0 : happS a t = 0 := by
      unfold happS
      rw [tw_congr (p := fun x : Acc => decide (x.time ≤ t)) (q := fun _ => false) (fun x hx => by
        have := h1 _ ((hm _).2 ⟨x, hx, rfl⟩)
        simp; omega)]
      cases a.evs <;> simp
    unfold inT nowS
    rw [h0]
    exact (gt_rep hp.1 (by omega)).symm
theorem plc_cov {a : Est} {c p t : Int} {l : List Sty} (h : OutJ a p l) (he : estB a = true) (hp : 0 ≤ p ∧ p < a.places) (ht : t ≤ 1099511627776) (q : Int) : covB (plc a c l p) q t ↔ covB l q t ∨ q = p ∧ inT a c p t = true := by
  have key := stp_fold (c := c) (t := t) hp (timesS a) (b := false) (h.inj _) (times_ok he).1 (times_in he) ⟨fun h => by (cases h), fun h8 => by
    rcases h8 with ⟨y, hy, q1, _⟩ | h8
    · have := h.b y hy; omega
    · exact absurd h8.1 (by dsimp only; omega)⟩
  rw [inT_last he hp] at key
  have pre : ∀ (ts : List Int) (s : Int × List Sty), q ≠ p → (covB (ts.foldl (stp a c p) s).2 q t ↔ covB s.2 q t) := by
    intro ts
    induction ts with
    | nil => intro s _; rfl
    | cons u ts ih =>
      intro s hq
      rw [List.foldl_cons, ih _ hq]
      unfold stp
      split <;> split <;> try rfl
      rw [covB_snoc]
      exact ⟨fun h => h.resolve_right fun h => hq h.1.symm, .inl⟩
  have pre := pre (timesS a) (-1, l)
  have hno : ¬ covB l p t := fun ⟨y, hy, q1, _⟩ => by have := h.b y hy; omega
  unfold plc
  generalize (timesS a).foldl (stp a c p) (-1, l) = s at *
  by_cases hq : q = p
  · subst hq
    split
    · rw [covB_snoc, key]
      dsimp only
      constructor
      · rintro (h | h)
        · exact .inr ⟨rfl, .inl h⟩
        · exact .inr ⟨rfl, .inr ⟨by assumption, h.2.1⟩⟩
      · rintro (h | ⟨_, h | h⟩)
        · exact absurd h hno
        · exact .inl h
        · exact .inr ⟨rfl, h.2, by omega⟩
    · rw [key]
      constructor
      · intro h; exact .inr ⟨rfl, .inl h⟩
      · rintro (h | ⟨_, h | h⟩)
        · exact absurd h hno
        · exact h
        · exact absurd h.1 (by assumption)
  · have pre := pre hq
    split
    · rw [covB_snoc, pre]
      dsimp only
      constructor
      · rintro (h | h)
        · exact .inl h
        · omega
      · rintro (h | h)
        · exact .inl h
        · exact absurd h.1 hq
    · rw [pre]
      constructor
      · intro h; exact .inl h
      · rintro (h | h)
        · exact h
        · exact absurd h.1 hq
theorem stays_cov {a : Est} (he : estB a = true) {c t : Int} (ht : t ≤ 1099511627776) (q : Int) : ∀ n : Nat, n ≤ a.places.toNat → (covB ((rg' n).foldl (plc a c) []) q t ↔ 0 ≤ q ∧ q < n ∧ inT a c q t = true) := by
  intro n
  induction n with
  | zero => intro _; constructor
            · rintro ⟨y, hy, _⟩; simp [rg'] at hy
            · rintro ⟨h1, h2, _⟩; omega
  | succ n ih =>
    intro hn
    rw [rg'_fold, plc_cov (stays_ord he c n (by omega)) he ⟨by omega, by omega⟩ ht, ih (by omega)]
    constructor
    · rintro (⟨h1, h2, h3⟩ | ⟨h1, h2⟩)
      · exact ⟨h1, by omega, h3⟩
      · subst h1; exact ⟨by omega, by omega, h2⟩
    · rintro ⟨h1, h2, h3⟩
      by_cases e : q = n
      · subst e; exact .inr ⟨rfl, h3⟩
      · exact .inl ⟨h1, by omega, h3⟩
end Go.Proofs.Ytoflahjlnbligaa
