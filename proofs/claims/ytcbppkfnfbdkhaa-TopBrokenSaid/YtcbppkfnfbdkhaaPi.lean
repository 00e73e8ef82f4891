/- Rotations: a planner's states, in plain Lean. -/
import Derived.Test.YtcbppkfnfbdkhaaPh
set_option linter.all false
set_option maxRecDepth 20000
set_option maxHeartbeats 4000000
namespace Go.Proofs.Ytcbppkfnfbdkhaa
open Go.RowKit Go.Shelf
theorem gt_set {α : Type} [Inhabited α] {l : List α} {u j : Int} {x : α} (hu : 0 ≤ u ∧ u < l.length) (hj : 0 ≤ j ∧ j < l.length) : gt (l.set u.toNat x) j = if j = u then x else gt l j := by
  rw [gt_eq (by simp; omega), List.getElem_set]
  by_cases h : j = u
  · subst h; simp
  · rw [if_neg (by omega), if_neg h, gt_eq (by omega)]
theorem set_gt {α : Type} [Inhabited α] {l : List α} {u : Int} (hu : 0 ≤ u ∧ u < l.length) : l.set u.toNat (gt l u) = l := by
  rw [gt_eq (by omega)]; exact List.set_getElem_self _
theorem or12 : bits .or .i64 1 2 = 3 := by decide +kernel
theorem rt_unit {f : Flt} {s : Rot} (h : rightB f s = true) {i : Int} (h0 : 0 ≤ i) (h1 : i < f.cons.length) : unitB (gt f.cons i) (gt s.units i) s.known = true := by
  have hr := right_iff.1 h
  obtain ⟨n, rfl, hn⟩ := natz h0 h1
  exact hr.2.2.2.2 n (by rw [hr.2.2.2.1]; omega)
theorem rt_len {f : Flt} {s : Rot} (h : rightB f s = true) : s.units.length = f.cons.length := (right_iff.1 h).2.2.2.1
theorem rt_val {f : Flt} {s : Rot} (h : rightB f s = true) : s.valid = 1 ∨ s.valid = 2 ∨ s.valid = 3 := by
  have := bitsB_bd (right_iff.1 h).2.2.1; omega
theorem rt_set {f : Flt} {s : Rot} (h : rightB f s = true) {u : Int} {x : Unt} (hu : 0 ≤ u ∧ u < f.cons.length) (hx : unitB (gt f.cons u) x s.known = true) : rightB f ⟨s.known, s.valid, s.units.set u.toNat x⟩ = true := by
  obtain ⟨h1, h2, h3, h4, h5⟩ := right_iff.1 h
  refine right_iff.2 ⟨h1, h2, h3, by simp; exact h4, fun i hi => ?_⟩
  simp only [List.length_set] at hi
  show unitB (gt f.cons (i : Int)) (gt (s.units.set u.toNat x) (i : Int)) s.known = true
  rw [gt_set (by omega) (by omega)]
  split
  · rename_i e; rw [e]; exact hx
  · exact h5 i hi
theorem iss_3 {f : Flt} {s : Rot} (h : rightB f s = true) (hi : issB s.known = true) : s.known = 3 := by
  rcases (right_iff.1 h).2.1 with e | e
  · rw [e] at hi; exact absurd hi (by rw [iss1]; simp)
  · exact e
theorem step_right {f : Flt} {s : Rot} {x : Stp} (h : aplE f s x = 0) : rightB f (stepS f s x).1 = true := by
  obtain ⟨hr, hg, hs⟩ := aplE_0.1 h
  obtain ⟨h1, h2, h3, h4, h5⟩ := right_iff.1 hr
  unfold stepS at hs ⊢
  split at hs
  · rename_i e
    rw [if_pos e]
    have hk : s.known = 1 := by
      rcases h2 with e | e
      · exact e
      · rw [e] at hs; exact absurd hs (by rw [iss3]; simp)
    rw [hk] at h3 h5
    rw [bitsB_1, decide_eq_true_eq] at h3
    refine right_iff.2 ⟨h1, .inr (by show bits .or .i64 s.known 2 = 3; rw [hk]; decide +kernel), ?_, h4, fun i hi => ?_⟩
    · show bitsB s.valid (bits .or .i64 s.known 2) _ = true
      rw [h3, hk]; cases decide (f.slots = 2) <;> decide +kernel
    · show unitB _ _ (bits .or .i64 s.known 2) = true
      rw [hk, or12]; exact unit_grow (h5 i hi)
  · rename_i e1
    rw [if_neg e1]
    split at hs
    · rename_i e
      rw [if_pos e]
      simp only [Bool.and_eq_true, decide_eq_true_eq] at hs
      have hk := iss_3 hr hs.1.1
      refine right_iff.2 ⟨h1, .inr hk, ?_, h4, h5⟩
      show bitsB 3 s.known _ = true
      rw [hk, hs.2, bitsB_3]; simp
    · rename_i e2
      rw [if_neg e2]
      split at hs
      · rename_i e
        rw [if_pos e]
        simp only [Bool.and_eq_true, decide_eq_true_eq] at hs
        have hk := iss_3 hr hs.1
        refine right_iff.2 ⟨h1, .inr hk, ?_, h4, h5⟩
        show bitsB 2 s.known _ = true
        rw [hk, bitsB_3]; simp
      · rename_i e3
        rw [if_neg e3]
        split at hs
        · rename_i e
          rw [if_pos e]
          rw [decide_eq_true_eq] at hs
          have hk : s.known = 3 := by
            rcases h2 with e | e
            · rw [e, bitsB_1, decide_eq_true_eq] at h3; omega
            · exact e
          refine right_iff.2 ⟨h1, .inr hk, ?_, h4, h5⟩
          show bitsB 2 s.known _ = true
          rw [hk, bitsB_3]; simp
        · rename_i e4
          rw [if_neg e4]
          have hu : 0 ≤ x.unit ∧ x.unit < f.cons.length := by
            simp [rngB] at hg; omega
          exact rt_set hr hu (chg_right h2 (rt_unit hr hu.1 hu.2) hs)
theorem step_gone {f : Flt} {s : Rot} {x : Stp} (h : aplE f s x = 0) (hg : bits .and .i64 s.valid 1 = 0) : bits .and .i64 (stepS f s x).1.valid 1 = 0 := by
  obtain ⟨hr, _, hs⟩ := aplE_0.1 h
  have hv : s.valid = 2 := by
    rcases rt_val hr with e | e | e
    · rw [e] at hg; exact absurd hg (by decide +kernel)
    · exact e
    · rw [e] at hg; exact absurd hg (by decide +kernel)
  unfold stepS at hs ⊢
  split at hs
  · rename_i e; rw [if_pos e]; exact hg
  · rename_i e1
    rw [if_neg e1]
    split at hs
    · simp [hv] at hs
    · rename_i e2
      rw [if_neg e2]
      split at hs
      · simp [hv] at hs
      · rename_i e3
        rw [if_neg e3]
        split at hs
        · simp [hv] at hs
        · rename_i e4
          rw [if_neg e4]; exact hg
def AllS (f : Flt) (s : Rot) : Prop := ∀ i : Int, 0 ≤ i → i < f.cons.length → ∃ j : Int, 0 ≤ j ∧ j < f.cons.length ∧ (gt f.cons j).pool = (gt f.cons i).pool ∧ sv (gt s.units j).used s.valid = true
theorem cs_mem {l : List Int} {x : Int} : x ∈ Lib.compact (srt l) ↔ x ∈ l := by
  rw [compact_ded]
  unfold ded
  rw [ded_mem, srt_mem]; simp
theorem cs_ord (l : List Int) : (Lib.compact (srt l)).Pairwise (· < ·) := by
  rw [compact_ded]
  exact ded_sorted _ .nil (srt_ord l) (fun y hy => by cases hy)
theorem ord_ext : ∀ {a b : List Int}, a.Pairwise (· < ·) → b.Pairwise (· < ·) → (∀ x, x ∈ a ↔ x ∈ b) → a = b
  | [], [], _, _, _ => rfl
  | [], y :: b, _, _, h => by have := (h y).2 List.mem_cons_self; cases this
  | x :: a, [], _, _, h => by have := (h x).1 List.mem_cons_self; cases this
  | x :: a, y :: b, ha, hb, h => by
    rw [List.pairwise_cons] at ha hb
    have hxy : x = y := by
      have h1 := (h x).1 List.mem_cons_self
      have h2 := (h y).2 List.mem_cons_self
      rcases List.mem_cons.1 h1 with e | e
      · exact e
      · rcases List.mem_cons.1 h2 with e' | e'
        · exact e'.symm
        · have := ha.1 y e'; have := hb.1 x e; omega
    subst hxy
    rw [ord_ext ha.2 hb.2 fun z => ?_]
    constructor
    · intro hz
      rcases List.mem_cons.1 ((h z).1 (List.mem_cons_of_mem _ hz)) with e | e
      · subst e; have := ha.1 z hz; omega
      · exact e
    · intro hz
      rcases List.mem_cons.1 ((h z).2 (List.mem_cons_of_mem _ hz)) with e | e
      · subst e; have := hb.1 z hz; omega
      · exact e
theorem mem_pools {f : Flt} (hf : fltB f = true) {p : Int} : p ∈ poolsS f ↔ ∃ i : Int, 0 ≤ i ∧ i < f.cons.length ∧ (gt f.cons i).pool = p := by
  unfold poolsS
  rw [if_pos hf, cs_mem, List.mem_map]
  constructor
  · rintro ⟨c, hc, rfl⟩
    obtain ⟨i, hi, rfl⟩ := List.getElem_of_mem hc
    exact ⟨i, by omega, by omega, by rw [gt_nat hi]⟩
  · rintro ⟨i, h0, h1, rfl⟩
    exact ⟨_, gt_mem h0 h1, rfl⟩
theorem mem_serv {f : Flt} {s : Rot} (hr : rightB f s = true) {p : Int} : p ∈ servS f s ↔ ∃ i : Int, 0 ≤ i ∧ i < f.cons.length ∧ (gt f.cons i).pool = p ∧ sv (gt s.units i).used s.valid = true := by
  unfold servS
  rw [if_pos hr, cs_mem, List.mem_map]
  have hl := rt_len hr
  constructor
  · rintro ⟨i, hi, rfl⟩
    obtain ⟨h0, h1, h2⟩ := mem_nums.1 hi
    exact ⟨i, h0, by omega, rfl, h2⟩
  · rintro ⟨i, h0, h1, rfl, h2⟩
    exact ⟨i, mem_nums.2 ⟨h0, by omega, h2⟩, rfl⟩
theorem all_len {f : Flt} {s : Rot} (hr : rightB f s = true) (ha : AllS f s) : servS f s = poolsS f := by
  have hf := (right_iff.1 hr).1
  refine ord_ext ?_ ?_ fun x => ?_
  · unfold servS; rw [if_pos hr]; exact cs_ord _
  · unfold poolsS; rw [if_pos hf]; exact cs_ord _
  · rw [mem_serv hr, mem_pools hf]
    constructor
    · rintro ⟨i, h0, h1, h2, _⟩; exact ⟨i, h0, h1, h2⟩
    · rintro ⟨i, h0, h1, rfl⟩
      obtain ⟨j, j0, j1, j2, j3⟩ := ha i h0 h1
      exact ⟨j, j0, j1, j2, j3⟩
def holdsB (f : Flt) (s t : Rot) : Bool := (servS f s).all fun p => (servS f t).contains p
theorem all_holds {f : Flt} {s t : Rot} (hr : rightB f s = true) (ht : rightB f t = true) (ha : AllS f t) : holdsB f s t = true := by
  unfold holdsB
  rw [List.all_eq_true]
  intro p hp
  rw [List.contains_iff_mem]
  obtain ⟨i, h0, h1, rfl, _⟩ := (mem_serv hr).1 hp
  obtain ⟨j, j0, j1, j2, j3⟩ := ha i h0 h1
  exact (mem_serv ht).2 ⟨j, j0, j1, j2, j3⟩
def RunOk (f : Flt) : Rot → List Stp → Rot → Prop
  | s, [], t => s = t
  | s, x :: l, t => aplE f s x = 0 ∧ holdsB f s (stepS f s x).1 = true ∧ RunOk f (stepS f s x).1 l t
theorem RunOk.snoc {f : Flt} : ∀ {l : List Stp} {s t : Rot} {x : Stp}, RunOk f s l t → aplE f t x = 0 → holdsB f t (stepS f t x).1 = true → RunOk f s (l ++ [x]) (stepS f t x).1
  | [], s, t, x, h, h1, h2 => by cases h; exact ⟨h1, h2, rfl⟩
  | y :: l, s, t, x, h, h1, h2 => ⟨h.1, h.2.1, h.2.2.snoc h1 h2⟩
def doS (f : Flt) (p : Rot × List Stp) (k u : Int) : Rot × List Stp := if aplE f p.1 ⟨k, u⟩ = 0 then ((stepS f p.1 ⟨k, u⟩).1, p.2 ++ [⟨k, u⟩]) else p
structure PI (f : Flt) (s0 : Rot) (p : Rot × List Stp) : Prop where
  run : RunOk f s0 p.2 p.1
  rt : rightB f p.1 = true
  all : AllS f p.1
theorem PI.take {f : Flt} {s0 : Rot} {p : Rot × List Stp} {k u : Int} (h : PI f s0 p) (ha : aplE f p.1 ⟨k, u⟩ = 0 → AllS f (stepS f p.1 ⟨k, u⟩).1) : PI f s0 (doS f p k u) := by
  unfold doS
  split
  · rename_i he
    exact ⟨h.run.snoc he (all_holds h.rt (step_right he) (ha he)), step_right he, ha he⟩
  · exact h
theorem doS_len (f : Flt) (p : Rot × List Stp) (k u : Int) : (doS f p k u).2.length ≤ p.2.length + 1 := by
  unfold doS; split <;> simp
theorem stepS_len (f : Flt) (s : Rot) (x : Stp) : (stepS f s x).1.units.length = s.units.length := by
  unfold stepS; repeat' split
  all_goals simp
theorem doS_units (f : Flt) (p : Rot × List Stp) (k u : Int) : (doS f p k u).1.units.length = p.1.units.length := by
  unfold doS; split
  · exact stepS_len _ _ _
  · rfl
end Go.Proofs.Ytcbppkfnfbdkhaa
