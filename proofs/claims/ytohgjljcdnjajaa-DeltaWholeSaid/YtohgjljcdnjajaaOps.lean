/- Operations as the model has them, and the contracts of the small functions on them. -/
import Derived.Test.YtohgjljcdnjajaaBytes
namespace Go.Proofs.Ytohgjljcdnjajaa
open Go.RowKit

/-- An operation is a copy or an insertion. -/
@[irreducible] def rightB (fr sz : Int) (n : Nat) : Bool := if sz = 0 then decide (fr = 0) && decide (0 < n) else decide (0 < sz) && decide (0 ≤ fr) && decide (n = 0)
/-- It fits a base of so many bytes. -/
@[irreducible] def fitsB (fr sz : Int) (n base : Nat) : Bool := rightB fr sz n && (decide (sz = 0) || (decide (fr ≤ base) && decide (sz ≤ base - fr)))

set_option maxHeartbeats 400000 in
theorem right_any (fr sz : Int) (A : Option Addr) (n c : Nat) (hn : n ≤ 9223372036854775807) (w : World) :
    Calls Try.prog 38 #[.agg #[.int .i64 fr, .int .i64 sz, .slice A n c]] w fun e w' => e = .returned (.bool (rightB fr sz n)) ∧ Below w.heap.size w w' := by
  by_cases h1 : sz = 0
  · subst h1
    by_cases h2 : fr = 0
    · subst h2
      go_enter Try.func38, Try.ntmps38
      go_wp2
      go_ret
      exact ⟨ret_bool (by unfold rightB; rw [Bool.eq_iff_iff]; simp), (Below.refl _ _).alloc (Nat.le_refl _) _⟩
    · go_enter Try.func38, Try.ntmps38
      go_wp2
      go_ret
      exact ⟨ret_bool (by unfold rightB; rw [Bool.eq_iff_iff]; simp; omega), (Below.refl _ _).alloc (Nat.le_refl _) _⟩
  · by_cases h2 : 0 < sz
    · by_cases h3 : 0 ≤ fr
      all_goals
        go_enter Try.func38, Try.ntmps38
        go_wp2
        go_ret
        exact ⟨ret_bool (by unfold rightB; rw [if_neg h1, Bool.eq_iff_iff]; simp; omega), (Below.refl _ _).alloc (Nat.le_refl _) _⟩
    · go_enter Try.func38, Try.ntmps38
      go_wp2
      go_ret
      exact ⟨ret_bool (by unfold rightB; rw [if_neg h1, Bool.eq_iff_iff]; simp; omega), (Below.refl _ _).alloc (Nat.le_refl _) _⟩

set_option maxHeartbeats 400000 in
theorem fits_any (fr sz : Int) (A : Option Addr) (n c base : Nat) (hn : n ≤ 9223372036854775807) (hb : base ≤ 9223372036854775807) (w : World) :
    Calls Try.prog 30 #[.agg #[.int .i64 fr, .int .i64 sz, .slice A n c], .int .i64 (base : Int)] w fun e w' => e = .returned (.bool (fitsB fr sz n base)) ∧ Below w.heap.size w w' := by
  have R := fun w => right_any fr sz A n c hn w
  by_cases h0 : rightB fr sz n = true
  · by_cases h1 : sz = 0
    · subst h1
      go_enter Try.func30, Try.ntmps30
      go_wp2_with (go_at_call 38; refine (R _).mono ?_; rintro e w' ⟨rfl, hB⟩; have hN := new_later hB; have c0 := hN.cell 0; have c1 := hN.cell 1; have c2 := hN.cell 2; simp at c0 c1 c2)
      go_ret
      refine ⟨ret_bool ?_, ((Below.refl _ _).alloc (Nat.le_refl _) _).trans (hB.mono (by simp))⟩
      unfold fitsB
      rw [h0, Bool.eq_iff_iff]
      simp
    · obtain ⟨g1, g2⟩ : 0 < sz ∧ 0 ≤ fr := by
        unfold rightB at h0
        rw [if_neg h1] at h0
        simp at h0
        omega
      by_cases g3 : fr ≤ base
      all_goals
        go_enter Try.func30, Try.ntmps30
        go_wp2_with (go_at_call 38; refine (R _).mono ?_; rintro e w' ⟨rfl, hB⟩; have hN := new_later hB; have c0 := hN.cell 0; have c1 := hN.cell 1; have c2 := hN.cell 2; simp at c0 c1 c2)
        go_ret
        refine ⟨ret_bool ?_, ((Below.refl _ _).alloc (Nat.le_refl _) _).trans (hB.mono (by simp))⟩
        unfold fitsB
        rw [h0, Bool.eq_iff_iff]
        simp
        omega
  · have h0' : rightB fr sz n = false := by simpa using h0
    go_enter Try.func30, Try.ntmps30
    go_wp2_with (go_at_call 38; refine (R _).mono ?_; rintro e w' ⟨rfl, hB⟩; have hN := new_later hB; have c0 := hN.cell 0; have c1 := hN.cell 1; have c2 := hN.cell 2; simp at c0 c1 c2)
    go_ret
    refine ⟨ret_bool ?_, ((Below.refl _ _).alloc (Nat.le_refl _) _).trans (hB.mono (by simp))⟩
    unfold fitsB
    rw [h0']
    simp

/-- An operation, with the place of its bytes. -/
structure OpR where
  fr : Int
  sz : Int
  ad : Option Addr
  dat : List UInt8
  cap : Nat
def OpR.cells (r : OpR) : List Value := [.int .i64 r.fr, .int .i64 r.sz, .slice r.ad r.dat.length r.cap]
abbrev OpR.val (r : OpR) : Value := .agg #[.int .i64 r.fr, .int .i64 r.sz, .slice r.ad r.dat.length r.cap]
structure OpR.Ok (S : Nat → Prop) (w : World) (r : OpR) : Prop where
  bts : Bts S w r.ad r.dat
  cap1 : r.dat.length ≤ r.cap
  cap2 : r.cap ≤ maxLen
  fr1 : -9223372036854775808 ≤ r.fr ∧ r.fr ≤ 9223372036854775807
  sz1 : -9223372036854775808 ≤ r.sz ∧ r.sz ≤ 9223372036854775807

theorem flat_len {α : Type} (f : α → List Value) (k : Nat) (hf : ∀ x, (f x).length = k) (xs : List α) : (xs.flatMap f).length = xs.length * k := by
  induction xs with
  | nil => simp
  | cons x xs ih => simp [hf, ih, Nat.add_mul, Nat.add_comm]
theorem flat_get {α : Type} (f : α → List Value) (k : Nat) (hf : ∀ x, (f x).length = k) (xs : List α) (i j : Nat) (hi : i < xs.length) (hj : j < k) : (xs.flatMap f)[i * k + j]? = (f xs[i])[j]? := by
  induction xs generalizing i with
  | nil => simp at hi
  | cons x xs ih =>
    rw [List.flatMap_cons]
    cases i with
    | zero => rw [Nat.zero_mul, Nat.zero_add, List.getElem?_append_left (by rw [hf]; exact hj)]; rfl
    | succ i =>
      rw [List.getElem?_append_right (by rw [hf, Nat.add_mul]; omega), hf]
      have e : (i + 1) * k + j - k = i * k + j := by rw [Nat.add_mul]; omega
      rw [e, ih i (by simpa using hi)]
      rfl

/-- The operations rs can be read from A on. -/
structure OpsAt (S : Nat → Prop) (w : World) (A : Option Addr) (rs : List OpR) : Prop where
  cells : Cells S w A (rs.flatMap OpR.cells)
  ok : ∀ r ∈ rs, r.Ok S w
theorem OpR.cells_len (r : OpR) : r.cells.length = 3 := rfl
theorem OpsAt.below {S : Nat → Prop} {w w' : World} {A : Option Addr} {rs : List OpR} (h : OpsAt S w A rs) (hB : Below w.heap.size w w') : OpsAt S w' A rs :=
  ⟨h.cells.below hB, fun r hr => ⟨(h.ok r hr).bts.below hB, (h.ok r hr).cap1, (h.ok r hr).cap2, (h.ok r hr).fr1, (h.ok r hr).sz1⟩⟩
theorem OpsAt.keep {S S' : Nat → Prop} {w w' : World} {A : Option Addr} {rs : List OpR} (h : OpsAt S w A rs) (hk : Keep S' w w') (hS : ∀ k, k < w.heap.size → S' k → S k) : OpsAt S w' A rs :=
  ⟨h.cells.keep hk hS, fun r hr => ⟨(h.ok r hr).bts.keep hk hS, (h.ok r hr).cap1, (h.ok r hr).cap2, (h.ok r hr).fr1, (h.ok r hr).sz1⟩⟩
theorem OpsAt.mono {S S' : Nat → Prop} {w : World} {A : Option Addr} {rs : List OpR} (h : OpsAt S w A rs) (hS : ∀ k, S' k → S k) : OpsAt S' w A rs :=
  ⟨h.cells.mono hS, fun r hr => ⟨(h.ok r hr).bts.mono hS, (h.ok r hr).cap1, (h.ok r hr).cap2, (h.ok r hr).fr1, (h.ok r hr).sz1⟩⟩
theorem OpsAt.nil (S : Nat → Prop) (w : World) (A : Option Addr) : OpsAt S w A [] := ⟨Cells.nil _ _ _, by simp⟩
/-- Operation i, cell by cell. -/
theorem OpsAt.at_ {S : Nat → Prop} {w : World} {A : Option Addr} {rs : List OpR} (h : OpsAt S w A rs) (i : Nat) (hi : i < rs.length) : ∃ b o, A = some ⟨b, o, none⟩ ∧ ¬ S b ∧
    w.cell? ⟨b, o + i * 3, none⟩ = some (.int .i64 rs[i].fr) ∧ w.cell? ⟨b, o + i * 3 + 1, none⟩ = some (.int .i64 rs[i].sz) ∧ w.cell? ⟨b, o + i * 3 + 2, none⟩ = some (.slice rs[i].ad rs[i].dat.length rs[i].cap) := by
  have hl := flat_len OpR.cells 3 OpR.cells_len rs
  obtain ⟨b, o, e, hs, hc⟩ := h.cells.plain (by omega)
  refine ⟨b, o, e, hs, hc _ _ ?_, ?_, ?_⟩
  · exact (flat_get OpR.cells 3 OpR.cells_len rs i 0 hi (by omega)).trans rfl
  · exact hc (i * 3 + 1) _ ((flat_get OpR.cells 3 OpR.cells_len rs i 1 hi (by omega)).trans rfl)
  · exact hc (i * 3 + 2) _ ((flat_get OpR.cells 3 OpR.cells_len rs i 2 hi (by omega)).trans rfl)

/-- What a search leaves: a number that is not below 0 just if there is one. -/
def Found (b : Bool) (w : World) (e : Ending) (w' : World) : Prop := ∃ k : Int, e = .returned (.int .i64 k) ∧ decide (0 ≤ k) = b ∧ Below w.heap.size w w'

set_option maxHeartbeats 1000000 in
theorem index_any (S : Nat → Prop) (A : Option Addr) (rs : List OpR) (c : Nat) (g : Nat) (cap : Array Value) (p : OpR → Bool) (hn : rs.length ≤ 9223372036854775807) (w : World) (h : OpsAt S w A rs)
    (eg : ∀ args w, (callFunc g args).run Try.prog w = .ok (.enter g args) w)
    (hf : ∀ i (hi : i < rs.length) w', Below w.heap.size w w' → Calls Try.prog g (#[rs[i].val] ++ cap) w' fun e w'' => e = .returned (.bool (p rs[i])) ∧ Below w'.heap.size w' w'') :
    Calls Try.prog 42 #[.slice A rs.length c, .func (.func g) #[] cap] w (Found (rs.any p) w) := by
  go_enter Try.func42, Try.ntmps42
  go_wp2
  go_loopw [8] (fun iv wr => ∃ i : Nat, i ≤ rs.length ∧ iv = .int .i64 (i : Int) ∧ (rs.take i).any p = false ∧ Below w.heap.size w wr) (fun iv _ => rs.length - (intOf iv).toNat)
  case atStart => exact ⟨0, by omega, rfl, by simp, Below.refl _ _⟩
  case round =>
    obtain ⟨i, hi, rfl, hp, hB⟩ := hrel
    have HP := hid hp
    clear hp
    by_cases hlt : i < rs.length
    · obtain ⟨b, o, rfl, hs, c0, c1, c2⟩ := (h.below hB).at_ i hlt
      have F := hid (hf i hlt wr hB)
      have hsn : rs.take (i + 1) = rs.take i ++ [rs[i]] := by rw [List.take_succ_eq_append_getElem hlt]
      have HS := hid hsn
      clear hsn h
      go_wp2
      refine F.out.mono ?_
      rintro e w' ⟨rfl, hB'⟩
      have hB2 := hB.trans (hB'.mono hB.size)
      obtain ⟨v, hv⟩ : ∃ v, p rs[i] = v := ⟨_, rfl⟩
      rw [hv]
      have HV := hid hv
      clear hv hB' hB F
      cases v with
      | true =>
        go_wp2
        go_ret
        refine ⟨i, rfl, ?_, hB2⟩
        have : rs.any p = true := List.any_eq_true.2 ⟨rs[i], List.getElem_mem _, HV.out⟩
        rw [this]
        simp
      | false =>
        go_wp2
        go_roundw
        case rel => exact ⟨i + 1, by omega, by go_num, by rw [HS.out, List.any_append, HP.out]; simp [HV.out], hB2⟩
        case measure => simp [intOf]; omega
    · go_wp2
      go_ret
      have : i = rs.length := by omega
      have h1 := HP.out
      rw [this, List.take_length] at h1
      exact ⟨-1, rfl, by rw [h1]; rfl, hB⟩

set_option maxHeartbeats 400000 in
theorem contains_any (S : Nat → Prop) (A : Option Addr) (rs : List OpR) (c : Nat) (g : Nat) (cap : Array Value) (p : OpR → Bool) (hn : rs.length ≤ 9223372036854775807) (w : World) (h : OpsAt S w A rs)
    (eg : ∀ args w, (callFunc g args).run Try.prog w = .ok (.enter g args) w)
    (hf : ∀ i (hi : i < rs.length) w', Below w.heap.size w w' → Calls Try.prog g (#[rs[i].val] ++ cap) w' fun e w'' => e = .returned (.bool (p rs[i])) ∧ Below w'.heap.size w' w'') :
    Calls Try.prog 28 #[.slice A rs.length c, .func (.func g) #[] cap] w fun e w' => e = .returned (.bool (rs.any p)) ∧ Below w.heap.size w w' := by
  have C := hid (index_any S A rs c g cap p hn w h eg hf)
  clear hf h eg
  go_enter Try.func28, Try.ntmps28
  go_wp2_with (go_at_call 42; refine C.out.mono ?_; rintro e w' ⟨k, rfl, hk, hB⟩)
  go_ret
  exact ⟨rfl, hB⟩

set_option maxHeartbeats 400000 in
/-- The closure of Check. -/
theorem bad_any (bb : Nat) (A : Option Addr) (n c : Nat) (hn : n ≤ 9223372036854775807) (r : OpR) (hr : r.dat.length ≤ 9223372036854775807) (w : World) (hc : w.cell? ⟨bb, 0, none⟩ = some (.slice A n c)) :
    Calls Try.prog 29 (#[r.val] ++ #[.pointer (some ⟨bb, 0, none⟩)]) w fun e w' => e = .returned (.bool (!fitsB r.fr r.sz r.dat.length n)) ∧ Below w.heap.size w w' := by
  have hc' := cell_new hc
  have F := fun w => fits_any r.fr r.sz r.ad r.dat.length r.cap n hr hn w
  show Calls Try.prog 29 #[.agg #[.int .i64 r.fr, .int .i64 r.sz, .slice r.ad r.dat.length r.cap], .pointer (some ⟨bb, 0, none⟩)] w _
  go_enter Try.func29, Try.ntmps29
  go_wp2_with (go_at_call 30; go_must (refine (F _).mono ?_; rintro e w' ⟨rfl, hB⟩))
  go_ret
  exact ⟨rfl, ((Below.refl _ _).alloc (Nat.le_refl _) _).trans (hB.mono (by simp))⟩
end Go.Proofs.Ytohgjljcdnjajaa
