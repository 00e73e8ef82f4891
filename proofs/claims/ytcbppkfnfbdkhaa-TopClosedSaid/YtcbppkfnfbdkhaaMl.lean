/- access.grants, walked. -/
import Derived.Test.YtcbppkfnfbdkhaaMk
import Derived.Maps.OwnSet
import Derived.Maps.RangeWalk
import Derived.WalkKit
set_option linter.all false
set_option maxRecDepth 100000
set_option maxHeartbeats 4000000
namespace Go.Proofs.Ytcbppkfnfbdkhaa
open Go.RowKit Go.Shelf Go.Maps
attribute [local go_sem] Oper.semAt_some
theorem keyI : Keyed Try.prog 3 := int_keyed Try.underlying3
def dStep (t p : Int) (D : DataW Unit) (k : Int) (x : Acc) : DataW Unit := if t < x.time ∨ x.place ≠ p then D else if x.kind = 1 then D.put (.int .i64 x.prin) (.lit (.int .i64 k)) else if x.kind = 2 then D.del (.int .i64 x.prin) else D
def dG (t p : Int) (l : List Acc) : Nat → DataW Unit
  | 0 => .map []
  | k + 1 => dStep t p (dG t p l k) k (gt l (k : Int))
theorem dG_map (t p : Int) (l : List Acc) : ∀ k, IsMap (dG t p l k)
  | 0 => isMap_empty
  | k + 1 => by
    have ih := dG_map t p l k
    rw [dG]; unfold dStep
    split
    · exact ih
    · split
      · exact ih.put _ _
      · split
        · exact ih.del _
        · exact ih
theorem dG_has (t p : Int) (l : List Acc) (q : Int) : ∀ k, k ≤ l.length → (has (dG t p l k) (.int .i64 q) = true ↔ q ∈ grS t p (l.take k))
  | 0, _ => by simp [dG, has, grS]
  | k + 1, hk => by
    have ih := dG_has t p l q k (by omega)
    have hm := dG_map t p l k
    rw [take_snoc (by omega), grS, List.foldl_append, List.foldl_cons, List.foldl_nil, ← grS, dG]
    generalize gt l (k : Int) = x
    unfold dStep grStep
    split
    · exact ih
    · split
      · by_cases e : q = x.prin
        · subst e
          rw [has_put_same hm (by trivial)]
          simp
        · rw [has_put_other (by simpa using e), ih]
          simp [e]
      · split
        · by_cases e : q = x.prin
          · subst e
            rw [has_del_same]
            simp
          · rw [has_del_other (by simpa using e), ih]
            simp [e]
        · exact ih
section
variable {t p : Int} {D : DataW Unit} {k : Int} {x : Acc}
theorem ds0 (h : t < x.time ∨ (x.place != p) = true) : dStep t p D k x = D := by unfold dStep; rw [if_pos (by simpa using h)]
theorem ds0' (h : ¬ x.time ≤ t) : dStep t p D k x = D := ds0 (.inl (by omega))
theorem ds1 (h : x.time ≤ t ∧ (x.place != p) = false) (k1 : (x.kind == 1) = true) : dStep t p D k x = D.put (.int .i64 x.prin) (.lit (.int .i64 k)) := by
  unfold dStep; rw [if_neg (by have := h.2; simp at this; simp [this]; omega), if_pos (by simpa using k1)]
theorem ds2 (h : x.time ≤ t ∧ (x.place != p) = false) (k1 : (x.kind == 1) = false) (k2 : (x.kind == 2) = true) : dStep t p D k x = D.del (.int .i64 x.prin) := by
  unfold dStep; rw [if_neg (by have := h.2; simp at this; simp [this]; omega), if_neg (by simpa using k1), if_pos (by simpa using k2)]
theorem ds3 (h : x.time ≤ t ∧ (x.place != p) = false) (k1 : (x.kind == 1) = false) (k2 : (x.kind == 2) = false) : dStep t p D k x = D := by
  unfold dStep; rw [if_neg (by have := h.2; simp at this; simp [this]; omega), if_neg (by simpa using k1), if_neg (by simpa using k2)]
end
theorem grants_in (A : Option Addr) (cap : Nat) (a : Est) (p t : Int) (hlc : a.evs.length ≤ cap) (hlen : a.evs.length ≤ 1000000) (hwf : ∀ x ∈ a.evs, (Lit.int .i64 x.prin).wf = true) (w : World) (hA : a.evs ≠ [] → ∃ b off, A = some ⟨b, off, none⟩ ∧ b < w.heap.size ∧ AccAt w b off a.evs) :
    Calls Try.prog 206 #[.agg #[.int .i64 a.places, .slice A a.evs.length cap], .int .i64 p, .int .i64 t] w fun e w' => e = .returned (.map (some (w.heap.size + 1))) ∧
      w'.ownsMap Try.prog 3 (plainElem (H := Unit) Try.prog 3) (w.heap.size + 1) a.evs.length (dG t p a.evs a.evs.length) ∧ Below w.heap.size w w' := by
  have hmm := @run_makeMap Try.prog
  go_enter Try.func206, Try.ntmps206
  go_wp2
  go_loopw [14] (fun i wr => ∃ k : Nat, k ≤ a.evs.length ∧ i = .int .i64 k ∧ wr.ownsMap Try.prog 3 (plainElem (H := Unit) Try.prog 3) (w.heap.size + 1) k (dG t p a.evs k) ∧ Below w.heap.size w wr)
    (fun i _ => a.evs.length - (intOf i).toNat)
  case atStart =>
    refine ⟨0, Nat.zero_le _, rfl, ?_, ((Below.refl _ w).alloc (Nat.le_refl _) _).alloc (by simp) _⟩
    have := World.ownsMap_made (w.alloc (.cells #[.int .i64 a.places, .slice A a.evs.length cap] 76)) Try.prog 3 (plainElem (H := Unit) Try.prog 3)
    rwa [World.size_alloc] at this
  case round =>
    obtain ⟨k, hk, rfl, hown, hnx⟩ := hrel
    have hws := hnx.size
    by_cases hlt : k < a.evs.length
    · obtain ⟨b, off, rfl, hb, hc⟩ := hA (fun e => by rw [e] at hlt; simp at hlt)
      obtain ⟨c0, c1, c2, c3, c4, c5, c6⟩ := (hc.below hnx hb) k a.evs[k] (List.getElem?_eq_getElem hlt)
      have hx : gt a.evs (k : Int) = a.evs[k] := gt_nat hlt
      have hwp := hwf _ (List.getElem_mem hlt)
      have hst : dG t p a.evs (k + 1) = dStep t p (dG t p a.evs k) k a.evs[k] := by rw [dG, hx]
      generalize a.evs[k] = x at *
      go_wp2_with (first
        | (at_mapUpdate; refine wpList_mapUpdate_own _ rfl _ _ _ 276 rfl 3 3 keyI Try.underlying276 _ (w.heap.size + 1) k _ rfl (hown.alloc _) (by unfold maxLen; omega) _ _ _ rfl rfl (keyOf_int_mk Try.underlying3 hwp) _ [] (plainElem_int Try.underlying3 (WalkArith.wf_i64 (by omega))) ?_; intro w1 hown1 hgrow1)
        | (at_delete; refine wpList_delete_own _ rfl _ _ 276 3 rfl 3 keyI Try.underlying276 _ (w.heap.size + 1) k _ rfl (hown.alloc _) _ _ rfl (keyOf_int_mk Try.underlying3 hwp) ?_; intro w1 hown1 hturn1)
        | go_in)
      all_goals first
        | exact ⟨⟨k + 1, hlt, by simp, by rw [hst]; first | rw [ds0 (by assumption)] | rw [ds0' (by assumption)] | rw [ds3 (by assumption) (by assumption) (by assumption)]
                                          exact (hown.alloc _).mono (Nat.le_succ k), hnx.alloc hws _⟩, by simp [intOf]; omega⟩
        | exact ⟨⟨k + 1, hlt, by simp, by rw [hst, ds1 (by assumption) (by assumption)]; exact hown1, (hnx.alloc hws _).grown hgrow1 (by simp; omega) (fun j e => by cases e; omega)⟩, by simp [intOf]; omega⟩
        | exact ⟨⟨k + 1, hlt, by simp, by rw [hst, ds2 (by assumption) (by assumption) (by assumption)]; exact hown1.mono (Nat.le_succ k), (hnx.alloc hws _).grown hturn1.grown (by simp; omega) (fun j e => by cases e; omega)⟩, by simp [intOf]; omega⟩
    · have hke : k = a.evs.length := by omega
      subst hke
      go_wp2
      go_ret
      exact ⟨rfl, hown, hnx⟩
end Go.Proofs.Ytcbppkfnfbdkhaa
