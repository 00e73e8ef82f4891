/- Makers: findings, shown. -/
import Derived.Test.YtcbppkfnfbdkhaaJp
set_option linter.all false
set_option maxRecDepth 20000
set_option maxHeartbeats 4000000
namespace Go.Proofs.Ytcbppkfnfbdkhaa
open Go.RowKit Go.Shelf
def SpM (w : List Spt) : Prop := (∀ i : Nat, i < w.length → (gt w (i : Int)).pl.sr = i) ∧ ∀ s ∈ w, s.ly = [] ∧ SpOk s ∧ quB s.pl.pa = true
theorem SpM_nil : SpM [] := ⟨fun i hi => absurd hi (by simp), fun s hs => by cases hs⟩
theorem SpM_snoc {w : List Spt} (h : SpM w) (s : Spt) (h1 : s.pl.sr = w.length) (h2 : s.ly = []) (h3 : SpOk s) (h4 : quB s.pl.pa = true) : SpM (w ++ [s]) := by
  refine ⟨fun i hi => ?_, fun x hx => ?_⟩
  · rw [List.length_append, List.length_singleton] at hi
    by_cases e : i < w.length
    · rw [gt_nat (by simp; omega), List.getElem_append_left e, ← gt_nat e]; exact h.1 i e
    · have : i = w.length := by omega
      subst this
      rw [gt_nat (by simp), List.getElem_append_right (by omega)]
      simpa using h1
  · rcases List.mem_append.1 hx with hx | hx
    · exact h.2 x hx
    · rw [List.mem_singleton] at hx; subst hx; exact ⟨h2, h3, h4⟩
theorem SpM.ok {w : List Spt} (h : SpM w) : SpsOk w := by
  refine ⟨fun s hs => (h.2 s hs).1, fun z h1 h2 => ?_⟩
  have e1 := h.1 (z - 1).toNat (by omega)
  have e2 := h.1 z.toNat (by omega)
  rw [show (((z - 1).toNat : Nat) : Int) = z - 1 by omega] at e1
  rw [show ((z.toNat : Nat) : Int) = z by omega] at e2
  unfold cmpSp
  rw [orS_cons, e1, e2, show cmpN (z - 1) z = -1 by unfold cmpN; rw [if_pos (by omega)], if_neg (by decide)]
  decide
def FndM (l : List Fnd) : Prop := (∀ f ∈ l, 0 < f.wh.length ∧ f.wh.length ≤ 3 ∧ SpM f.wh) ∧ (∀ i : Nat, i < l.length → 0 ≤ (gt l (i : Int)).kd ∧ (gt l (i : Int)).kd ≤ (i : Int) + 1 ∧ 0 ≤ (gt l (i : Int)).pr ∧ (gt l (i : Int)).pr ≤ (i : Int) + 1) ∧ ∀ z : Int, 1 ≤ z → z < l.length → fcmp (gt l (z - 1)) (gt l z) < 0
theorem FndM_nil : FndM [] := ⟨fun s hs => (by cases hs), fun i hi => absurd hi (by simp), fun z h1 h2 => absurd h2 (by simp; omega)⟩
theorem gt_appl {α : Type} [Inhabited α] {l r : List α} {z : Int} (h0 : 0 ≤ z) (h : z < l.length) : gt (l ++ r) z = gt l z := by
  rw [gt_eq (by simp; omega), gt_eq (by omega), List.getElem_append_left (by omega)]
theorem gt_last {α : Type} [Inhabited α] {l : List α} {x : α} {z : Int} (h : z = l.length) : gt (l ++ [x]) z = x := by
  subst h
  rw [gt_nat (by simp), List.getElem_append_right (by omega)]
  simp
theorem FndM_snoc {l : List Fnd} (h : FndM l) (f : Fnd) (h1 : 0 < f.wh.length ∧ f.wh.length ≤ 3 ∧ SpM f.wh) (h2 : 0 ≤ f.kd ∧ f.kd ≤ l.length + 1 ∧ 0 ≤ f.pr ∧ f.pr ≤ l.length + 1) (h3 : 0 < (l.length : Int) → (gt l ((l.length : Int) - 1)).kd ≤ f.kd ∧ (gt l ((l.length : Int) - 1)).pr < f.pr) : FndM (l ++ [f]) := by
  refine ⟨fun x hx => ?_, fun i hi => ?_, fun z z1 z2 => ?_⟩
  · rcases List.mem_append.1 hx with hx | hx
    · exact h.1 x hx
    · rw [List.mem_singleton] at hx; subst hx; exact h1
  · rw [List.length_append, List.length_singleton] at hi
    by_cases e : i < l.length
    · rw [gt_appl (by omega) (by omega)]; exact h.2.1 i e
    · rw [gt_last (by omega)]; omega
  · rw [List.length_append, List.length_singleton] at z2
    by_cases e : z < l.length
    · rw [gt_appl (by omega) (by omega), gt_appl (by omega) e]; exact h.2.2 z z1 e
    · have hz : z = l.length := by omega
      obtain ⟨a, b⟩ := h3 (by omega)
      rw [gt_appl (by omega) (by omega), gt_last hz, hz]
      unfold fcmp
      rw [orS_cons, orS_cons]
      generalize gt l ((l.length : Int) - 1) = g at *
      have e2 : cmpN g.pr f.pr = -1 := by unfold cmpN; rw [if_pos b]
      rw [e2]
      by_cases hk : g.kd < f.kd
      · rw [show cmpN g.kd f.kd = -1 by unfold cmpN; rw [if_pos hk]]; decide
      · rw [show cmpN g.kd f.kd = 0 by unfold cmpN; rw [if_neg hk, if_neg (by omega)]]; decide
theorem FndM.ok {l : List Fnd} (h : FndM l) (hl : l.length ≤ 3) : FndOk l ∧ FndA l := by
  refine ⟨⟨fun f hf => ⟨(h.1 f hf).1, (h.1 f hf).2.2.ok⟩, h.2.2⟩, by omega, fun f hf => ⟨by have := (h.1 f hf).2.1; omega, fun s hs => ((h.1 f hf).2.2.2 s hs).2.1⟩⟩
theorem u64_in {x : Int} (h0 : 0 ≤ x) (h1 : x ≤ 1000) : IntKind.u64.wrap x = x := by
  have : IntKind.u64.wrap x = x % 18446744073709551616 := by unfold IntKind.wrap; simp [IntKind.bits, IntKind.signed]
  rw [this]; omega
theorem paths_ok : ∀ t ∈ [(⟨#[97]⟩ : ByteArray), ⟨#[49, 58, 97]⟩, ⟨#[102, 48]⟩, ⟨#[100, 111, 99, 115, 47, 120]⟩, ⟨#[102, 48, 33, 105, 110]⟩], t.size ≤ 10 ∧ quB t = true := by decide
theorem mfind_nd : ICt 12 [.one .tape] (ND (fun l : List Fnd => l.length ≤ 3 ∧ FndM l) fnv) := (mfind_V _).2 (by
  (delta mfind_V; dsimp only [mkV])
  have hp := paths_ok
  have hP : [(⟨#[97]⟩ : ByteArray), ⟨#[49, 58, 97]⟩, ⟨#[102, 48]⟩, ⟨#[100, 111, 99, 115, 47, 120]⟩, ⟨#[102, 48, 33, 105, 110]⟩].length = 5 := rfl
  generalize [(⟨#[97]⟩ : ByteArray), ⟨#[49, 58, 97]⟩, ⟨#[102, 48]⟩, ⟨#[100, 111, 99, 115, 47, 120]⟩, ⟨#[102, 48, 33, 105, 110]⟩] = P at *
  refine Chk.mk (by omega) ?_
  intro n hn
  refine lp2 (fun l k => FndM l ∧ 0 ≤ k ∧ (l.length : Int) + k ≤ 3) (fun _ k => k.toNat) ⟨FndM_nil, by omega, by show (0 : Int) + n ≤ 3; omega⟩ ?_
  intro I μ nx l k hJ
  obtain ⟨j1, j2, j3⟩ := hJ
  refine brn_d (fun h => ?_) (fun h => ⟨l, ⟨by omega, j1⟩, rfl⟩)
  repeat' (first | with_reducible refine brn_d (fun h => ?_) (fun h => ?_) | with_reducible refine Chk.mk ?_ ?_ | with_reducible refine Bth.mk ?_ ?_ | with_reducible refine Fct.mk (fun _ => ?_) | intro _)
  all_goals (try first | omega | (unfold InI; omega))
  · have hl := j1.2.1 (l.length - 1) (by omega)
    rw [show ((l.length - 1 : Nat) : Int) = (l.length : Int) - 1 by omega] at hl
    unfold InI; omega
  · have hl := j1.2.1 (l.length - 1) (by omega)
    rw [show ((l.length - 1 : Nat) : Int) = (l.length : Int) - 1 by omega] at hl
    rw [u64_in (by omega) (by omega)]
    refine lp4 (fun w s x3 x4 => (w.length : Int) = s ∧ s ≤ 3 ∧ SpM w ∧ (0 ≤ x3 ∧ x3 ≤ l.length + 1 ∧ 0 ≤ x4 ∧ x4 ≤ l.length + 1) ∧ (0 < (l.length : Int) → (gt l ((l.length : Int) - 1)).kd ≤ x3 ∧ (gt l ((l.length : Int) - 1)).pr < x4)) (fun _ s _ _ => (3 - s).toNat) ⟨rfl, by omega, SpM_nil, by omega, fun _ => by omega⟩ ?_
    intro I2 μ2 nx2 w s x3 x4 hJ2
    obtain ⟨w1, w2, w3, w4, w5⟩ := hJ2
    repeat' (first | with_reducible refine brn_d (fun h => ?_) (fun h => ?_) | with_reducible refine Chk.mk ?_ ?_ | with_reducible refine Bth.mk ?_ ?_ | with_reducible refine Fct.mk (fun _ => ?_) | intro _)
    all_goals (try first | omega | (unfold InI; omega) | (simp; omega))
    all_goals (try exact nx _ _ _ _ ⟨j1, j2, j3⟩ ⟨FndM_snoc j1 _ ⟨by dsimp only; omega, by dsimp only; omega, w3⟩ w4 w5, by omega, by simp; omega⟩ (by omega))
    all_goals
      refine nx2 _ _ _ _ _ _ _ _ ⟨w1, w2, w3, w4, w5⟩ ⟨by simp; omega, by omega, SpM_snoc w3 _ w1.symm rfl ?_ (hp _ (gt_mem (by omega) (by omega))).2, w4, w5⟩ (by omega)
      refine ⟨?_, ?_, ?_, ?_, ?_⟩ <;> dsimp only
      · exact Nat.le_trans (hp _ (gt_mem (by omega) (by omega))).1 (by omega)
      all_goals omega
  · rw [u64_in (by omega) (by omega)]
    refine lp4 (fun w s x3 x4 => (w.length : Int) = s ∧ s ≤ 3 ∧ SpM w ∧ (0 ≤ x3 ∧ x3 ≤ l.length + 1 ∧ 0 ≤ x4 ∧ x4 ≤ l.length + 1) ∧ (0 < (l.length : Int) → (gt l ((l.length : Int) - 1)).kd ≤ x3 ∧ (gt l ((l.length : Int) - 1)).pr < x4)) (fun _ s _ _ => (3 - s).toNat) ⟨rfl, by omega, SpM_nil, by omega, fun _ => by omega⟩ ?_
    intro I2 μ2 nx2 w s x3 x4 hJ2
    obtain ⟨w1, w2, w3, w4, w5⟩ := hJ2
    repeat' (first | with_reducible refine brn_d (fun h => ?_) (fun h => ?_) | with_reducible refine Chk.mk ?_ ?_ | with_reducible refine Bth.mk ?_ ?_ | with_reducible refine Fct.mk (fun _ => ?_) | intro _)
    all_goals (try first | omega | (unfold InI; omega) | (simp; omega))
    all_goals (try exact nx _ _ _ _ ⟨j1, j2, j3⟩ ⟨FndM_snoc j1 _ ⟨by dsimp only; omega, by dsimp only; omega, w3⟩ w4 w5, by omega, by simp; omega⟩ (by omega))
    all_goals
      refine nx2 _ _ _ _ _ _ _ _ ⟨w1, w2, w3, w4, w5⟩ ⟨by simp; omega, by omega, SpM_snoc w3 _ w1.symm rfl ?_ (hp _ (gt_mem (by omega) (by omega))).2, w4, w5⟩ (by omega)
      refine ⟨?_, ?_, ?_, ?_, ?_⟩ <;> dsimp only
      · exact Nat.le_trans (hp _ (gt_mem (by omega) (by omega))).1 (by omega)
      all_goals omega)
end Go.Proofs.Ytcbppkfnfbdkhaa
