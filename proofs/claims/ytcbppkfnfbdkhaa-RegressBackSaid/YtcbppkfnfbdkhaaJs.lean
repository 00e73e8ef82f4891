/- Regress: changes back, and where a change stands. -/
import Derived.Test.YtcbppkfnfbdkhaaJr
set_option linter.all false
set_option maxRecDepth 20000
set_option maxHeartbeats 4000000
namespace Go.Proofs.Ytcbppkfnfbdkhaa
open Go.RowKit Go.Shelf
theorem gt_map' {α β : Type} [Inhabited α] [Inhabited β] {xs : List α} {h : α → β} {i : Int} (h0 : 0 ≤ i) (h1 : i < xs.length) : gt (xs.map h) i = h (gt xs i) := by
  rw [gt_eq (by simp; omega), gt_eq (by omega), List.getElem_map]
theorem upto_map {α β : Type} (h : α → β) (g : Int → List α) (n : Int) : upto (fun i => (g i).map h) n = (upto g n).map h := by
  unfold upto; rw [List.map_flatMap]
theorem upto_congr {α : Type} {g g2 : Int → List α} {n : Int} (h : ∀ i : Int, 0 ≤ i → i < n → g i = g2 i) : upto g n = upto g2 n := by
  unfold upto
  have h' : ∀ i ∈ List.range n.toNat, g (i : Int) = g2 (i : Int) := fun i hi => h i (by omega) (by rw [List.mem_range] at hi; omega)
  generalize List.range n.toNat = m at *
  induction m with
  | nil => rfl
  | cons x m ih => rw [List.flatMap_cons, List.flatMap_cons, h' x (by simp), ih fun i hi => h' i (List.mem_cons_of_mem _ hi)]
theorem upto_nil {α : Type} {g : Int → List α} {n : Int} (h : ∀ i : Int, 0 ≤ i → i < n → g i = []) : upto g n = [] := by
  rw [upto_congr h]; unfold upto; simp
theorem upto_ext {α : Type} {g : Int → List α} {k n : Int} (h0 : 0 ≤ k) (h1 : k ≤ n) : ∃ r, upto g n = upto g k ++ r := by
  obtain ⟨m, rfl⟩ : ∃ m : Nat, n = k + m := ⟨(n - k).toNat, by omega⟩
  clear h1
  induction m with
  | zero => exact ⟨[], by simp⟩
  | succ m ih =>
    obtain ⟨r, e⟩ := ih
    refine ⟨r ++ g (k + m), ?_⟩
    rw [show k + ((m + 1 : Nat) : Int) = k + m + 1 by omega, upto_s _ (by omega), e, List.append_assoc]
theorem upto_pre {α : Type} {g : Int → List α} {k n : Int} (h0 : 0 ≤ k) (h1 : k < n) : ∃ r, upto g n = upto g k ++ (g k ++ r) := by
  obtain ⟨r, e⟩ := upto_ext (g := g) (k := k + 1) (n := n) (by omega) (by omega)
  exact ⟨r, by rw [e, upto_s _ h0, List.append_assoc]⟩
def Chg.sw (c : Chg) : Chg := ⟨c.fi, c.sp, c.af, c.be, c.by_, c.rb⟩
theorem cgOne_sw (a b : List Rul) (kinds : List Knd) (f : List Fnd) (i k : Int) : cgOne b a kinds f i k = (cgOne a b kinds f i k).map Chg.sw := by
  unfold cgOne
  by_cases e : decV a kinds (gt f i) (gt (gt f i).wh k) = decV b kinds (gt f i) (gt (gt f i).wh k)
  · rw [if_pos e, if_pos e.symm]; rfl
  · rw [if_neg e, if_neg fun h => e h.symm]; rfl
theorem chgS_sw (a b : List Rul) (kinds : List Knd) (f : List Fnd) : chgS b a kinds f = (chgS a b kinds f).map Chg.sw := by
  unfold chgS
  rw [← upto_map]
  refine upto_congr fun i _ _ => ?_
  unfold cgRow
  rw [← upto_map]
  exact upto_congr fun k _ _ => cgOne_sw ..
theorem chgS_sw_len (a b : List Rul) (kinds : List Knd) (f : List Fnd) : (chgS b a kinds f).length = (chgS a b kinds f).length := by rw [chgS_sw a b]; simp
theorem chgS_self (a : List Rul) (kinds : List Knd) (f : List Fnd) : chgS a a kinds f = [] :=
  upto_nil fun i _ _ => upto_nil fun k _ _ => by unfold cgOne; rw [if_pos rfl]
noncomputable def cgBef (a b : List Rul) (kinds : List Knd) (f : List Fnd) (k s : Int) : Int := ((upto (cgRow a b kinds f) k ++ upto (cgOne a b kinds f k) s).length : Nat)
theorem cgBef_0 (a b : List Rul) (kinds : List Knd) (f : List Fnd) : cgBef a b kinds f 0 0 = 0 := by unfold cgBef upto; simp
theorem cgBef_row (a b : List Rul) (kinds : List Knd) (f : List Fnd) {k : Int} (h0 : 0 ≤ k) : cgBef a b kinds f k (gt f k).wh.length = cgBef a b kinds f (k + 1) 0 := by
  unfold cgBef
  rw [upto_s _ h0, show upto (cgOne a b kinds f (k + 1)) 0 = [] by unfold upto; simp, List.append_nil]; rfl
theorem cgBef_all (a b : List Rul) (kinds : List Knd) (f : List Fnd) : cgBef a b kinds f f.length 0 = (chgS a b kinds f).length := by
  unfold cgBef
  rw [show upto (cgOne a b kinds f f.length) 0 = [] by unfold upto; simp, List.append_nil]; rfl
theorem cgBef_no {a b : List Rul} {kinds : List Knd} {f : List Fnd} {k s : Int} (s0 : 0 ≤ s) (e : decV a kinds (gt f k) (gt (gt f k).wh s) = decV b kinds (gt f k) (gt (gt f k).wh s)) : cgBef a b kinds f k (s + 1) = cgBef a b kinds f k s := by
  unfold cgBef
  rw [upto_s _ s0, show cgOne a b kinds f k s = [] by unfold cgOne; rw [if_pos e], List.append_nil]
theorem cgBef_at {a b : List Rul} {kinds : List Knd} {f : List Fnd} {k s : Int} (k0 : 0 ≤ k) (k1 : k < f.length) (s0 : 0 ≤ s) (s1 : s < (gt f k).wh.length) (e : ¬ decV a kinds (gt f k) (gt (gt f k).wh s) = decV b kinds (gt f k) (gt (gt f k).wh s)) :
    cgBef a b kinds f k (s + 1) = cgBef a b kinds f k s + 1 ∧ 0 ≤ cgBef a b kinds f k s ∧ cgBef a b kinds f k s < (chgS a b kinds f).length ∧
    gt (chgS a b kinds f) (cgBef a b kinds f k s) = ⟨k, s, decV a kinds (gt f k) (gt (gt f k).wh s), decV b kinds (gt f k) (gt (gt f k).wh s), decN a kinds (gt f k) (gt (gt f k).wh s), decN b kinds (gt f k) (gt (gt f k).wh s)⟩ := by
  obtain ⟨r1, e1⟩ := upto_pre (g := cgRow a b kinds f) k0 k1
  obtain ⟨r2, e2⟩ := upto_pre (g := cgOne a b kinds f k) s0 s1
  have e3 : cgOne a b kinds f k s = [⟨k, s, decV a kinds (gt f k) (gt (gt f k).wh s), decV b kinds (gt f k) (gt (gt f k).wh s), decN a kinds (gt f k) (gt (gt f k).wh s), decN b kinds (gt f k) (gt (gt f k).wh s)⟩] := by unfold cgOne; rw [if_neg e]
  have e4 : chgS a b kinds f = (upto (cgRow a b kinds f) k ++ upto (cgOne a b kinds f k) s) ++ (⟨k, s, decV a kinds (gt f k) (gt (gt f k).wh s), decV b kinds (gt f k) (gt (gt f k).wh s), decN a kinds (gt f k) (gt (gt f k).wh s), decN b kinds (gt f k) (gt (gt f k).wh s)⟩ :: (r2 ++ r1)) := by
    unfold chgS
    rw [e1, show cgRow a b kinds f k = upto (cgOne a b kinds f k) (gt f k).wh.length from rfl, e2, e3]
    simp
  refine ⟨?_, by unfold cgBef; omega, ?_, ?_⟩
  · unfold cgBef; rw [upto_s _ s0, e3]; simp; omega
  · unfold cgBef; rw [e4]; simp; omega
  · rw [gt_eq (by unfold cgBef; rw [e4]; simp; omega)]
    simp only [e4, cgBef, Int.toNat_natCast]
    rw [List.getElem_append_right (by omega)]
    simp
theorem verS_len (l : List Rul) (kinds : List Knd) (f : List Fnd) : (verS l kinds f).length = f.length := by unfold verS; simp
theorem verS_row {l : List Rul} {kinds : List Knd} {f : List Fnd} {k : Int} (k0 : 0 ≤ k) (k1 : k < f.length) : gt (verS l kinds f) k = (gt f k).wh.map fun s => decV l kinds (gt f k) s := by
  unfold verS; rw [gt_map' k0 k1]
theorem verS_at {l : List Rul} {kinds : List Knd} {f : List Fnd} {k s : Int} (k0 : 0 ≤ k) (k1 : k < f.length) (s0 : 0 ≤ s) (s1 : s < (gt f k).wh.length) : gt (gt (verS l kinds f) k) s = decV l kinds (gt f k) (gt (gt f k).wh s) := by
  rw [verS_row k0 k1, gt_map' s0 s1]
end Go.Proofs.Ytcbppkfnfbdkhaa
