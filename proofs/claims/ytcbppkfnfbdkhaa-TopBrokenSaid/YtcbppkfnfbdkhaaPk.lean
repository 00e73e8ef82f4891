/- Rotations: the fallback's plan leads to the end, in plain Lean. -/
import Derived.Test.YtcbppkfnfbdkhaaPj
set_option linter.all false
set_option maxRecDepth 20000
set_option maxHeartbeats 4000000
namespace Go.Proofs.Ytcbppkfnfbdkhaa
open Go.RowKit Go.Shelf
theorem rng_0 {f : Flt} {s : Rot} {k : Int} (hr : rightB f s = true) (hk : 1 ≤ k ∧ k ≤ 8) : rngB s ⟨k, 0⟩ = true := by
  have hl := rt_len hr
  have := flt_len (right_iff.1 hr).1
  unfold rngB
  simp only [Bool.and_eq_true, Bool.or_eq_true, decide_eq_true_eq, Bool.not_eq_true', decide_eq_false_iff_not]
  exact ⟨⟨hk, by omega⟩, .inr trivial⟩
theorem sv13 {u : Int} (h : u = 0 ∨ u = 1 ∨ u = 2 ∨ u = 3) (hs : sv u 1 = true) : sv u 3 = true := by
  revert hs; rcases h with rfl | rfl | rfl | rfl <;> decide +kernel
theorem do_make {f : Flt} {s0 : Rot} {p : Rot × List Stp} (h : PI f s0 p) : PI f s0 (doS f p 1 0) ∧ (doS f p 1 0).1.known = 3 ∧ (doS f p 1 0).1.valid = p.1.valid := by
  refine ⟨h.take fun _ => h.all, ?_⟩
  have e : stepS f p.1 ⟨1, 0⟩ = (⟨bits .or .i64 p.1.known 2, p.1.valid, p.1.units⟩, !issB p.1.known) := rfl
  unfold doS
  rcases (right_iff.1 h.rt).2.1 with hk | hk
  · rw [if_pos (aplE_0.2 ⟨h.rt, rng_0 h.rt (by omega), by rw [e, hk, iss1]; rfl⟩), e, hk, or12]
    exact ⟨rfl, rfl⟩
  · rw [if_neg (fun he => by have := (aplE_0.1 he).2.2; rw [e, hk, iss3] at this; cases this)]
    exact ⟨hk, rfl⟩
theorem do_enable {f : Flt} {s0 : Rot} {p : Rot × List Stp} (h : PI f s0 p) (hk : p.1.known = 3) : PI f s0 (doS f p 2 0) ∧ (doS f p 2 0).1.known = 3 ∧ ((doS f p 2 0).1.valid = 1 → f.slots = 1) := by
  have e : stepS f p.1 ⟨2, 0⟩ = (⟨p.1.known, 3, p.1.units⟩, issB p.1.known && decide (p.1.valid = 1) && decide (f.slots = 2)) := rfl
  have hsl : f.slots = 1 ∨ f.slots = 2 := by
    have := (right_iff.1 h.rt).1
    simp [fltB] at this; exact this.1.1
  refine ⟨h.take fun he => ?_, ?_⟩
  · have hs := (aplE_0.1 he).2.2
    rw [e] at hs ⊢
    simp only [Bool.and_eq_true, decide_eq_true_eq] at hs
    intro i h0 h1
    obtain ⟨j, j0, j1, j2, j3⟩ := h.all i h0 h1
    rw [hs.1.2] at j3
    exact ⟨j, j0, j1, j2, sv13 (unit_vals (rt_unit h.rt j0 j1)).2 j3⟩
  · unfold doS
    by_cases he : aplE f p.1 ⟨2, 0⟩ = 0
    · rw [if_pos he, e]
      exact ⟨hk, fun h => by cases h⟩
    · rw [if_neg he]
      refine ⟨hk, fun hv => ?_⟩
      rcases hsl with h1 | h1
      · exact h1
      · exact absurd (aplE_0.2 ⟨h.rt, rng_0 h.rt (by omega), by rw [e, hk, iss3, hv, h1]; rfl⟩) he
theorem do_swap {f : Flt} {s0 : Rot} {p : Rot × List Stp} (h : PI f s0 p) (hk : p.1.known = 3) (hv : p.1.valid = 1) (hn : ∀ q ∈ poolsS f, HasNew f p.1 q) : PI f s0 (doS f p 3 0) ∧ (doS f p 3 0).1.known = 3 ∧ (doS f p 3 0).1.valid = 2 := by
  have e : stepS f p.1 ⟨3, 0⟩ = (⟨p.1.known, 2, p.1.units⟩, issB p.1.known && decide (p.1.valid = 1)) := rfl
  have hfl := (right_iff.1 h.rt).1
  refine ⟨h.take fun he => ?_, ?_⟩
  · rw [e]
    intro i h0 h1
    exact hn _ ((mem_pools hfl).2 ⟨i, h0, h1, rfl⟩)
  · unfold doS
    rw [if_pos (aplE_0.2 ⟨h.rt, rng_0 h.rt (by omega), by rw [e, hk, iss3, hv]; rfl⟩), e]
    exact ⟨hk, rfl⟩
theorem do_revoke {f : Flt} {s0 : Rot} {p : Rot × List Stp} (h : PI f s0 p) (hv : p.1.valid = 2 ∨ p.1.valid = 3) (hn : ∀ j : Int, 0 ≤ j → j < f.cons.length → gt p.1.units j = ⟨true, 2, 2⟩) : PI f s0 (doS f p 8 0) ∧ (doS f p 8 0).1.valid = 2 ∧ (doS f p 8 0).1.units = p.1.units := by
  have e : stepS f p.1 ⟨8, 0⟩ = (⟨p.1.known, 2, p.1.units⟩, decide (p.1.valid = 3)) := rfl
  refine ⟨h.take fun he => ?_, ?_⟩
  · rw [e]
    intro i h0 h1
    refine ⟨i, h0, h1, rfl, ?_⟩
    show sv (gt p.1.units i).used 2 = true
    rw [hn i h0 h1]; decide +kernel
  · unfold doS
    rcases hv with hv | hv
    · rw [if_neg (fun he => by have := (aplE_0.1 he).2.2; rw [e, hv] at this; cases this)]
      exact ⟨hv, rfl⟩
    · rw [if_pos (aplE_0.2 ⟨h.rt, rng_0 h.rt (by omega), by rw [e, hv]; rfl⟩), e]
      exact ⟨rfl, rfl⟩
theorem from_ok {f : Flt} {s : Rot} (hr : rightB f s = true) (ha : AllS f s) (hf : ∀ q ∈ poolsS f, fitB f q = true) : PI f s (fromS f s) ∧ (fromS f s).1.valid = 2 ∧ ∀ j : Int, 0 ≤ j → j < f.cons.length → gt (fromS f s).1.units j = ⟨true, 2, 2⟩ := by
  have hfl := (right_iff.1 hr).1
  obtain ⟨a1, a2, a3⟩ := do_make (f := f) (s0 := s) (p := (s, [])) ⟨rfl, hr, ha⟩
  obtain ⟨b1, b2, b3⟩ := do_enable a1 a2
  have hB : PI f s (frB f s) ∧ (frB f s).1.known = 3 ∧ ((frB f s).1.valid = 2 ∨ (frB f s).1.valid = 3) := by
    unfold frB
    by_cases hv : (frA f s).1.valid = 1
    · rw [if_pos hv]
      obtain ⟨c1, c2, c3, c4, _⟩ := preps_ok (f := f) (s0 := s) (b3 hv) hf (poolsS f) (frA f s) (fun q hq => hq) b1 b2 hv
      obtain ⟨d1, d2, d3⟩ := do_swap c1 c2 c3 c4
      exact ⟨d1, d2, .inl d3⟩
    · rw [if_neg hv]
      refine ⟨b1, b2, ?_⟩
      rcases rt_val (PI.rt b1) with h | h | h
      · exact absurd h hv
      · exact .inl h
      · exact .inr h
  obtain ⟨c1, c2, c3⟩ := hB
  obtain ⟨d1, d2, d3, d4, _⟩ := setls_ok (f := f) (s0 := s) hf (poolsS f) (frB f s) (fun q hq => hq) c1 c2 c3
  have hE : ∀ j : Int, 0 ≤ j → j < f.cons.length → gt (frC f s).1.units j = ⟨true, 2, 2⟩ := fun j j0 j1 =>
    d4 _ ((mem_pools hfl).2 ⟨j, j0, j1, rfl⟩) j ((mem_units hfl).2 ⟨j0, j1, rfl⟩)
  obtain ⟨e1, e2, e3⟩ := do_revoke (p := frC f s) d1 (by rw [show (frC f s).1.valid = _ from d3]; exact c3) hE
  refine ⟨e1, e2, fun j j0 j1 => ?_⟩
  unfold fromS
  rw [e3]; exact hE j j0 j1
theorem prepS_len (f : Flt) (p : Rot × List Stp) (q : Int) : (prepS f p q).2.length ≤ p.2.length + 4 := by
  unfold prepS
  split
  · omega
  · split
    · exact mendS_len _ _ _
    · exact Nat.le_trans (doS_len _ _ _ _) (by omega)
theorem preps_len (f : Flt) : ∀ (l : List Int) (p : Rot × List Stp), (l.foldl (prepS f) p).2.length ≤ p.2.length + 4 * l.length
  | [], p => by simp
  | x :: l, p => by
    have h1 := preps_len f l (prepS f p x)
    have h2 := prepS_len f p x
    rw [List.foldl_cons, List.length_cons]; omega
theorem mendO_len (f : Flt) (k : Int) (p : Rot × List Stp) (u : Int) : (mendO f k p u).2.length ≤ p.2.length + 4 := by
  unfold mendO
  split
  · omega
  · exact mendS_len _ _ _
theorem mends_len (f : Flt) (k : Int) : ∀ (l : List Int) (p : Rot × List Stp), (l.foldl (mendO f k) p).2.length ≤ p.2.length + 4 * l.length
  | [], p => by simp
  | x :: l, p => by
    have h1 := mends_len f k l (mendO f k p x)
    have h2 := mendO_len f k p x
    rw [List.foldl_cons, List.length_cons]; omega
theorem units_len (f : Flt) (q : Int) : (unitsS f q).length ≤ f.cons.length := by
  unfold unitsS
  split
  · exact nums_len _ _
  · simp
theorem setlS_len (f : Flt) (p : Rot × List Stp) (q : Int) : (setlS f p q).2.length ≤ p.2.length + 4 * f.cons.length + 4 := by
  have h1 := mends_len f (srvS f p.1 q p.1.valid).1 (unitsS f q) p
  have h2 := units_len f q
  have h3 := mendS_len f ((unitsS f q).foldl (mendO f (srvS f p.1 q p.1.valid).1) p) (srvS f p.1 q p.1.valid).1
  unfold setlS
  omega
theorem setls_len (f : Flt) : ∀ (l : List Int) (p : Rot × List Stp), (l.foldl (setlS f) p).2.length ≤ p.2.length + l.length * (4 * f.cons.length + 4)
  | [], p => by simp
  | x :: l, p => by
    have h1 := setls_len f l (setlS f p x)
    have h2 := setlS_len f p x
    rw [List.foldl_cons, List.length_cons, Nat.succ_mul]; omega
theorem frA_len (f : Flt) (s : Rot) : (frA f s).2.length ≤ 2 := by
  have h1 := doS_len f (s, []) 1 0
  have h2 := doS_len f (doS f (s, []) 1 0) 2 0
  unfold frA
  simp at h1; omega
theorem frB_len (f : Flt) (s : Rot) : (frB f s).2.length ≤ 3 + 4 * (poolsS f).length := by
  have h0 := frA_len f s
  have h1 := preps_len f (poolsS f) (frA f s)
  have h2 := doS_len f ((poolsS f).foldl (prepS f) (frA f s)) 3 0
  unfold frB
  split <;> omega
theorem from_len (f : Flt) (s : Rot) : (fromS f s).2.length ≤ 4 + 4 * (poolsS f).length + (poolsS f).length * (4 * f.cons.length + 4) := by
  have h1 := frB_len f s
  have h2 := setls_len f (poolsS f) (frB f s)
  have h3 := doS_len f (frC f s) 8 0
  unfold fromS
  unfold frC at h3 ⊢
  omega
theorem pools_two {f : Flt} (h : ∀ c ∈ f.cons, c.pool = 0 ∨ c.pool = 1) : (poolsS f).length ≤ 2 := by
  have key : ∀ l : List Int, l.Pairwise (· < ·) → (∀ x ∈ l, x = 0 ∨ x = 1) → l.length ≤ 2 := fun l hl hx => by
    match l, hl, hx with
    | [], _, _ => simp
    | [_], _, _ => simp
    | [_, _], _, _ => simp
    | a :: b :: c :: l, hl, hx =>
      simp only [List.pairwise_cons] at hl
      have h1 := hl.1 b (by simp)
      have h2 := hl.2.1 c (by simp)
      have h3 := hx a (by simp)
      have h4 := hx b (by simp)
      have h5 := hx c (by simp)
      omega
  unfold poolsS
  split
  · refine key _ (cs_ord _) fun x hx => ?_
    rw [cs_mem, List.mem_map] at hx
    obtain ⟨c, hc, rfl⟩ := hx
    exact h c hc
  · simp
def runS (f : Flt) : Rot → List Stp → List Rot
  | _, [] => []
  | s, x :: l => (stepS f s x).1 :: runS f (stepS f s x).1 l
theorem runS_len (f : Flt) : ∀ (l : List Stp) (s : Rot), (runS f s l).length = l.length
  | [], s => rfl
  | x :: l, s => by simp [runS, runS_len f l]
theorem gt_cons_s {α : Type} [Inhabited α] (x : α) (l : List α) (i : Nat) : gt (x :: l) ((i : Int) + 1) = gt l (i : Int) := by
  unfold gt
  rw [show ((i : Int) + 1).toNat = i + 1 by omega, Int.toNat_natCast]; rfl
def befS (f : Flt) (s : Rot) (l : List Stp) (i : Int) : Rot := gt (s :: runS f s l) i
theorem bef_s (f : Flt) (s : Rot) (l : List Stp) (i : Nat) : befS f s l ((i : Int) + 1) = gt (runS f s l) (i : Int) := gt_cons_s _ _ _
theorem run_at {f : Flt} : ∀ {l : List Stp} {s t : Rot}, RunOk f s l t → ∀ i : Nat, i < l.length → aplE f (befS f s l (i : Int)) (gt l (i : Int)) = 0 ∧ holdsB f (befS f s l (i : Int)) (stepS f (befS f s l (i : Int)) (gt l (i : Int))).1 = true ∧ gt (runS f s l) (i : Int) = (stepS f (befS f s l (i : Int)) (gt l (i : Int))).1
  | x :: l, s, t, h, 0, hi => ⟨h.1, h.2.1, rfl⟩
  | x :: l, s, t, h, i + 1, hi => by
    have := run_at h.2.2 i (by simpa using hi)
    have e1 : befS f s (x :: l) ((i + 1 : Nat) : Int) = befS f (stepS f s x).1 l (i : Int) := gt_cons_s _ _ _
    have e2 : gt (x :: l) ((i + 1 : Nat) : Int) = gt l (i : Int) := gt_cons_s _ _ _
    have e3 : gt (runS f s (x :: l)) ((i + 1 : Nat) : Int) = gt (runS f (stepS f s x).1 l) (i : Int) := gt_cons_s _ _ _
    rw [e1, e2, e3]; exact this
theorem run_end {f : Flt} : ∀ {l : List Stp} {s t : Rot}, RunOk f s l t → befS f s l (l.length : Int) = t
  | [], s, t, h => h
  | x :: l, s, t, h => by
    have := run_end h.2.2
    have e1 : befS f s (x :: l) ((l.length + 1 : Nat) : Int) = befS f (stepS f s x).1 l (l.length : Int) := gt_cons_s _ _ _
    rw [List.length_cons, e1]; exact this
end Go.Proofs.Ytcbppkfnfbdkhaa
