/- Rotations: what a step makes, and what a planner does, in plain Lean. -/
import Derived.Test.YtcbppkfnfbdkhaaPf
import Derived.Test.YtcbppkfnfbdkhaaPg
set_option linter.all false
set_option maxRecDepth 20000
set_option maxHeartbeats 4000000
namespace Go.Proofs.Ytcbppkfnfbdkhaa
open Go.RowKit Go.Shelf
def issB (k : Int) : Bool := !decide (bits .and .i64 k 2 = 0)
def stepS (f : Flt) (s : Rot) (x : Stp) : Rot × Bool :=
  if x.kind = 1 then (⟨bits .or .i64 s.known 2, s.valid, s.units⟩, !issB s.known)
  else if x.kind = 2 then (⟨s.known, 3, s.units⟩, issB s.known && decide (s.valid = 1) && decide (f.slots = 2))
  else if x.kind = 3 then (⟨s.known, 2, s.units⟩, issB s.known && decide (s.valid = 1))
  else if x.kind = 8 then (⟨s.known, 2, s.units⟩, decide (s.valid = 3))
  else (⟨s.known, s.valid, s.units.set x.unit.toNat (chgS (gt f.cons x.unit) (gt s.units x.unit) x.kind (issB s.known)).1⟩, (chgS (gt f.cons x.unit) (gt s.units x.unit) x.kind (issB s.known)).2)
def rngB (s : Rot) (x : Stp) : Bool := decide (1 ≤ x.kind ∧ x.kind ≤ 8) && decide (0 ≤ x.unit ∧ x.unit < s.units.length) && (!decide (x.kind ≤ 3 ∨ x.kind = 8) || decide (x.unit = 0))
def aplE (f : Flt) (s : Rot) (x : Stp) : Int := if rightB f s = false then 36 else if rngB s x = false then 2 else if (stepS f s x).2 = false then 37 else 0
def aplS (f : Flt) (s : Rot) (x : Stp) : Rot := if aplE f s x = 0 then (stepS f s x).1 else ⟨0, 0, []⟩
theorem aplE_0 {f : Flt} {s : Rot} {x : Stp} : aplE f s x = 0 ↔ rightB f s = true ∧ rngB s x = true ∧ (stepS f s x).2 = true := by
  unfold aplE
  cases rightB f s <;> cases rngB s x <;> cases (stepS f s x).2 <;> simp
theorem bitsB_3 (x : Int) (two : Bool) : bitsB x 3 two = (decide (0 < x ∧ x ≤ 3) && (two || decide (x ≠ 3))) := by
  unfold bitsB
  by_cases h : 0 < x ∧ x ≤ 3
  · have : x = 1 ∨ x = 2 ∨ x = 3 := by omega
    rcases this with rfl | rfl | rfl <;> cases two <;> decide +kernel
  · simp [h]
theorem bitsB_1 (x : Int) (two : Bool) : bitsB x 1 two = decide (x = 1) := by
  by_cases h : 0 < x ∧ x ≤ 3
  · have : x = 1 ∨ x = 2 ∨ x = 3 := by omega
    rcases this with rfl | rfl | rfl <;> cases two <;> decide +kernel
  · unfold bitsB
    have e : decide (x = 1) = false := decide_eq_false (by omega)
    rw [e, decide_eq_false h]; rfl
theorem bitsB_bd {x k : Int} {two : Bool} (h : bitsB x k two = true) : 0 < x ∧ x ≤ 3 := by
  simp [bitsB] at h; exact h.1.1
theorem unit_vals {c : Csm} {u : Unt} {k : Int} (h : unitB c u k = true) : (u.stored = 1 ∨ u.stored = 2 ∨ u.stored = 3) ∧ (u.used = 0 ∨ u.used = 1 ∨ u.used = 2 ∨ u.used = 3) := by
  unfold unitB at h
  rw [Bool.and_eq_true] at h
  have h1 := bitsB_bd h.1
  refine ⟨by omega, ?_⟩
  have h2 := h.2
  split at h2
  · rw [Bool.and_eq_true] at h2
    have := bitsB_bd h2.1; omega
  · simp at h2; omega
theorem unit_all (p : Csm → Unt → Prop) (hp : ∀ c c' : Csm, c.dual = c'.dual → c.live = c'.live → ∀ u, p c' u → p c u) (k : Int) (h : ∀ d l up : Bool, ∀ st ∈ ([1, 2, 3] : List Int), ∀ us ∈ ([0, 1, 2, 3] : List Int), unitB ⟨0, d, l⟩ ⟨up, st, us⟩ k = true → p ⟨0, d, l⟩ ⟨up, st, us⟩) {c : Csm} {u : Unt} (hu : unitB c u k = true) : p c u := by
  obtain ⟨h1, h2⟩ := unit_vals hu
  refine hp c ⟨0, c.dual, c.live⟩ rfl rfl u ?_
  refine h c.dual c.live u.up u.stored (by rcases h1 with h | h | h <;> rw [h] <;> simp) u.used (by rcases h2 with h | h | h | h <;> rw [h] <;> simp) hu
theorem chgS_c {c c' : Csm} (h1 : c.dual = c'.dual) (h2 : c.live = c'.live) (u : Unt) (k : Int) (i : Bool) : chgS c u k i = chgS c' u k i := by
  unfold chgS chg0; rw [h1, h2]
theorem unitB_c {c c' : Csm} (h1 : c.dual = c'.dual) (h2 : c.live = c'.live) (u : Unt) (k : Int) : unitB c u k = unitB c' u k := by
  unfold unitB; rw [h1, h2]
theorem chg_right {c : Csm} {u : Unt} {k kind : Int} (hk : k = 1 ∨ k = 3) (hu : unitB c u k = true) (hs : (chgS c u kind (issB k)).2 = true) : unitB c (chgS c u kind (issB k)).1 k = true := by
  by_cases h4 : kind = 4 ∨ kind = 5 ∨ kind = 6 ∨ kind = 7
  · revert hs
    refine unit_all (fun c u => (chgS c u kind (issB k)).2 = true → unitB c (chgS c u kind (issB k)).1 k = true) (fun c c' e1 e2 u => by rw [chgS_c e1 e2, unitB_c e1 e2]; exact id) k ?_ hu
    rcases hk with rfl | rfl <;> rcases h4 with rfl | rfl | rfl | rfl <;> decide +kernel
  · have e : (chgS c u kind (issB k)).2 = false := by
      unfold chgS chg0
      rw [if_neg (show ¬ kind = 5 by omega), if_neg (show ¬ kind = 6 by omega), if_neg (show ¬ kind = 4 by omega), if_neg (show ¬ kind = 7 by omega)]
    rw [e] at hs; cases hs
theorem iss3 : issB 3 = true := by decide +kernel
theorem iss1 : issB 1 = false := by decide +kernel
def uDo (c : Csm) (u : Unt) (kind : Int) : Unt := if (chgS c u kind true).2 = true then (chgS c u kind true).1 else u
theorem uDo_c {c c' : Csm} (h1 : c.dual = c'.dual) (h2 : c.live = c'.live) (u : Unt) (k : Int) : uDo c u k = uDo c' u k := by
  unfold uDo; rw [chgS_c h1 h2]
def uA (c : Csm) (u : Unt) : Unt := uDo c (uDo c u 4) 7
def uB (c : Csm) (u : Unt) : Unt := if (uA c u).used = 2 then uA c u else uDo c (uA c u) 5
def uM (c : Csm) (u : Unt) : Unt := uDo c (uB c u) 6
theorem uA_c {c c' : Csm} (h1 : c.dual = c'.dual) (h2 : c.live = c'.live) (u : Unt) : uA c u = uA c' u := by
  unfold uA; rw [uDo_c h1 h2 u, uDo_c h1 h2]
theorem uB_c {c c' : Csm} (h1 : c.dual = c'.dual) (h2 : c.live = c'.live) (u : Unt) : uB c u = uB c' u := by
  unfold uB; rw [uA_c h1 h2, uDo_c h1 h2]
theorem uM_c {c c' : Csm} (h1 : c.dual = c'.dual) (h2 : c.live = c'.live) (u : Unt) : uM c u = uM c' u := by
  unfold uM; rw [uB_c h1 h2, uDo_c h1 h2]
theorem uM_eq {c : Csm} {u : Unt} (hu : unitB c u 3 = true) : uM c u = ⟨true, 2, 2⟩ := by
  refine unit_all (fun c u => uM c u = ⟨true, 2, 2⟩) (fun c c' e1 e2 u => by rw [uM_c e1 e2]; exact id) 3 ?_ hu
  decide +kernel
def sv (us va : Int) : Bool := !decide (bits .and .i64 us va = 0)
theorem uM_live {c : Csm} {u : Unt} {va : Int} (hu : unitB c u 3 = true) (hl : c.live = true) (hv : va = 2 ∨ va = 3) (hs : sv u.used va = true) : sv (uDo c u 4).used va = true ∧ sv (uA c u).used va = true ∧ sv (uB c u).used va = true := by
  revert hl hs
  refine unit_all (fun c u => c.live = true → sv u.used va = true → sv (uDo c u 4).used va = true ∧ sv (uA c u).used va = true ∧ sv (uB c u).used va = true) (fun c c' e1 e2 u => by rw [e2, uDo_c e1 e2, uA_c e1 e2, uB_c e1 e2]; exact id) 3 ?_ hu
  rcases hv with rfl | rfl <;> decide +kernel
theorem give_live {c : Csm} {u : Unt} (hu : unitB c u 3 = true) (hl : c.live = true) (hd : c.dual = true) (hs : sv u.used 1 = true) (hn : sv u.used 2 = false) : (uDo c u 4).used = 3 := by
  have h : (c.live && c.dual && sv u.used 1 && !sv u.used 2) = true := by rw [hl, hd, hs, hn]; rfl
  revert h
  clear hl hd hs hn
  refine unit_all (fun c u => (c.live && c.dual && sv u.used 1 && !sv u.used 2) = true → (uDo c u 4).used = 3) (fun c c' e1 e2 u => by rw [e1, e2, uDo_c e1 e2]; exact id) 3 ?_ hu
  decide +kernel
theorem unit_grow {c : Csm} {u : Unt} (hu : unitB c u 1 = true) : unitB c u 3 = true := by
  refine unit_all (fun c u => unitB c u 3 = true) (fun c c' e1 e2 u => by rw [unitB_c e1 e2]; exact id) 1 ?_ hu
  decide +kernel
theorem unit_down {c : Csm} {u : Unt} {k va : Int} (hu : unitB c u k = true) (hv : va = 1 ∨ va = 2 ∨ va = 3) (hs : sv u.used va = true) : u.up = true := by
  unfold unitB at hu
  rw [Bool.and_eq_true] at hu
  have h2 := hu.2
  split at h2
  · assumption
  · rw [decide_eq_true_eq] at h2
    rw [h2] at hs
    rcases hv with rfl | rfl | rfl <;> exact absurd hs (by decide +kernel)
end Go.Proofs.Ytcbppkfnfbdkhaa
