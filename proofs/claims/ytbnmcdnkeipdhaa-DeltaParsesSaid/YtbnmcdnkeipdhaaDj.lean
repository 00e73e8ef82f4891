/- Operations come back. -/
import Derived.Test.YtbnmcdnkeipdhaaDi
set_option linter.all false
set_option maxRecDepth 20000
set_option maxHeartbeats 8000000
namespace Go.Proofs.Ytbnmcdnkeipdhaa
open Go.RowKit Go.Shelf
theorem num_three {n : Int} {r : List Int} (h0 : 0 ≤ n) (h1 : n ≤ 65536) : numS (threeS n ++ r) = (n, r, true) := by
  have hl : ¬ (threeS n ++ r).length < 3 := by simp [threeS]
  have e : num3 (gt (threeS n ++ r) 0) (gt (threeS n ++ r) 1) (gt (threeS n ++ r) 2) = n := by
    show num3 (n / 65536 % 256) (n / 256 % 256) (n % 256) = n
    unfold num3; omega
  unfold numS
  rw [if_neg hl, e, decide_eq_true h1]
  rfl
theorem right_spec {o : Opn} (h : rightO o = true) : (o.sz = 0 ∧ o.frm = 0 ∧ 0 < o.dat.length) ∨ (0 < o.sz ∧ 0 ≤ o.frm ∧ o.dat = []) := by
  unfold rightO rightB at h
  by_cases hs : o.sz = 0
  · simp [hs] at h ⊢
    omega
  · rw [if_neg hs] at h
    simp at h
    exact .inr h
theorem large_spec {o : Opn} (h : largeO o = false) : o.frm ≤ 65536 ∧ o.sz ≤ 65536 ∧ o.dat.length ≤ 65536 := by
  unfold largeO largeB at h
  simp at h
  omega
theorem read_opB {o : Opn} {rest : List Int} (hr : rightO o = true) (hl : largeO o = false) : readS (opB o ++ rest) = (o, rest, true) := by
  obtain ⟨l1, l2, l3⟩ := large_spec hl
  rcases right_spec hr with ⟨r1, r2, r3⟩ | ⟨r1, r2, r3⟩
  · have hb : opB o ++ rest = 0 :: (threeS (o.dat.length : Int) ++ (o.dat ++ rest)) := by
      unfold opB; rw [if_neg (by omega)]; simp
    have hn : numS ((0 :: (threeS (o.dat.length : Int) ++ (o.dat ++ rest))).drop 1) = ((o.dat.length : Int), o.dat ++ rest, true) := num_three (by omega) (by omega)
    have g0 : gt (0 :: (threeS (o.dat.length : Int) ++ (o.dat ++ rest))) 0 = 0 := rfl
    rw [hb]
    unfold readS
    rw [hn, g0]
    rw [if_neg (by simp), if_neg (by simp), if_neg (by dsimp only; rw [List.length_append]; omega)]
    obtain ⟨a, b, c⟩ := o
    simp at r1 r2
    subst r1 r2
    simp
  · have hb : opB o ++ rest = 1 :: (threeS o.frm ++ (threeS o.sz ++ rest)) := by
      unfold opB; rw [if_pos r1]; simp
    have hn : numS ((1 :: (threeS o.frm ++ (threeS o.sz ++ rest))).drop 1) = (o.frm, threeS o.sz ++ rest, true) := num_three (by omega) (by omega)
    have hn2 : numS (threeS o.sz ++ rest) = (o.sz, rest, true) := num_three (by omega) (by omega)
    have g0 : gt (1 :: (threeS o.frm ++ (threeS o.sz ++ rest))) 0 = 1 := rfl
    rw [hb]
    unfold readS
    rw [hn, g0]
    dsimp only
    rw [hn2]
    rw [if_neg (by simp), if_pos rfl]
    obtain ⟨a, b, c⟩ := o
    simp at r1 r3
    subst r3
    simp [r1]
theorem opB_pos (o : Opn) : 0 < (opB o).length := by unfold opB; split <;> simp
theorem parse_fmt : ∀ (l out : List Opn), l.length + out.length ≤ 200 → (∀ o ∈ l, rightO o = true ∧ largeO o = false) → parseR (l.flatMap opB) out = some (out ++ l) := by
  intro l
  induction l with
  | nil => intro out _ _; rw [parseR]; simp
  | cons o l ih =>
    intro out hlen hg
    have hr := read_opB (rest := l.flatMap opB) (hg o (by simp)).1 (hg o (by simp)).2
    have hp := opB_pos o
    rw [List.flatMap_cons, parseR, if_neg (by intro e; have := congrArg List.length e; rw [List.length_append] at this; simp only [List.length_nil] at this; omega)]
    rw [hr]
    simp only [List.length_cons] at hlen
    rw [if_neg (by simp; omega), dif_pos (by simp; omega)]
    rw [ih _ (by simp; omega) (fun o' h => hg o' (by simp [h]))]
    simp
theorem parse_back {l : List Opn} (h : l.length ≤ 200) (hg : ∀ o ∈ l, rightO o = true ∧ largeO o = false) (hb : (l.flatMap opB).length ≤ 131072) : parseS (l.flatMap opB) = (l, 0) := by
  unfold parseS
  rw [if_neg (by omega), parse_fmt l [] (by simpa using h) hg]
  rfl
end Go.Proofs.Ytbnmcdnkeipdhaa
