/- Archives: an archive is read, shown. -/
import Derived.Test.YtbnmcdnkeipdhaaFi
set_option linter.all false
set_option maxRecDepth 20000
set_option maxHeartbeats 4000000
namespace Go.Proofs.Ytbnmcdnkeipdhaa
open Go.RowKit Go.Shelf
theorem InB_app {a b : List Int} (ha : InB a) (hb : InB b) : InB (a ++ b) := fun z hz => by
  rcases List.mem_append.1 hz with h | h
  · exact ha z h
  · exact hb z h
theorem InB_nil : InB [] := fun z hz => by cases hz
theorem unpS_facts (b data : List Int) (size : Int) (hb : InB b) (hd : InB data) : InB (unpS b data size).1 ∧ InB (unpS b data size).2.1 ∧ (unpS b data size).2.1.length ≤ b.length ∧ ((unpS b data size).2.2 = true → ((unpS b data size).1.length : Int) = size) := by
  induction b, data using unpS.induct (size := size) with
  | case1 b data h1 h2 => rw [unpS, if_pos h1, dif_pos h2]; exact ⟨InB_nil, InB_nil, Nat.zero_le _, fun h => by cases h⟩
  | case2 b data h1 h2 h3 h4 => rw [unpS, if_pos h1, dif_neg h2, if_pos h3, if_pos h4]; exact ⟨InB_nil, InB_nil, Nat.zero_le _, fun h => by cases h⟩
  | case3 b data h1 h2 h3 h4 ih =>
    rw [unpS, if_pos h1, dif_neg h2, if_pos h3, if_neg h4]
    obtain ⟨q1, q2, q3, q4⟩ := ih (InB_drop _ hb) (InB_app hd (InB_take _ (InB_drop _ hb)))
    exact ⟨q1, q2, Nat.le_trans q3 (by simp), q4⟩
  | case4 b data h1 h2 h3 ih =>
    rw [unpS, if_pos h1, dif_neg h2, if_neg h3]
    obtain ⟨q1, q2, q3, q4⟩ := ih (InB_drop _ hb) (InB_app hd (fun z hz => by rw [(List.mem_replicate.1 hz).2]; exact InB_gt hb (by omega) (by omega)))
    exact ⟨q1, q2, Nat.le_trans q3 (by simp), q4⟩
  | case5 b data h1 => rw [unpS, if_neg h1]; exact ⟨hd, hb, Nat.le_refl _, fun h => by simpa using h⟩
theorem dtN_in {bs : List Int} (w : Bool) (hb : InB bs) : 0 ≤ dtN bs w ∧ dtN bs w ≤ 16777215 := by
  have l3 := tkO_len bs w (n := 3) (by omega)
  have i3 := tkO_in w 3 hb
  have a0 := InB_gt i3 (i := 0) (by omega) (by omega)
  have a1 := InB_gt i3 (i := 1) (by omega) (by omega)
  have a2 := InB_gt i3 (i := 2) (by omega) (by omega)
  unfold dtN numI num3; omega
theorem dtR_facts {bs : List Int} (w : Bool) (most : Int) (hb : InB bs) : InB (dtR bs w most).1 ∧ InB (dtR bs w most).2.1 ∧ (dtR bs w most).2.1.length ≤ bs.length ∧ ((dtR bs w most).2.2 = false → ((dtR bs w most).1.length : Int) = dtN bs w ∧ dtN bs w ≤ most) := by
  have hB : InB (dtB bs w) := tkB_in _ _ (tkB_in _ _ hb)
  have hl : (dtB bs w).length ≤ bs.length := Nat.le_trans (tkB_len _ _ _) (tkB_len _ _ _)
  unfold dtR
  split
  · exact ⟨InB_nil, hB, hl, fun h => by cases h⟩
  · rename_i ok
    have ok2 : dtN bs w ≤ most := by omega
    split
    · exact ⟨tkO_in _ _ hB, tkB_in _ _ hB, Nat.le_trans (tkB_len _ _ _) hl, fun _ => ⟨tkO_len _ _ (dtN_in w hb).1, ok2⟩⟩
    · obtain ⟨q1, q2, q3, q4⟩ := unpS_facts (dtB bs w) [] (dtN bs w) hB InB_nil
      exact ⟨q1, q2, Nat.le_trans q3 hl, fun h => ⟨q4 (by simpa using h), ok2⟩⟩
def rdK (bs : List Int) (w : Bool) : Int := gt (tkO bs w 1) 0
def rdN (bs : List Int) (w : Bool) : List Int := tkO (tkB bs w 1) (tkW bs w 1) (rdK bs w)
def rdD (bs : List Int) (w : Bool) (left : Int) : List Int × List Int × Bool := dtR (tkB (tkB bs w 1) (tkW bs w 1) (rdK bs w)) (tkW (tkB bs w 1) (tkW bs w 1) (rdK bs w)) left
def prsL : Nat → List Int → Bool → Int → List Ent → Option (List Ent × List Int × Bool)
  | 0, bs, w, _, out => some (out, bs, w)
  | k + 1, bs, w, left, out => if (rdD bs w left).2.2 = true then none else prsL k (rdD bs w left).2.1 (rdD bs w left).2.2 (left - (rdD bs w left).1.length) (out ++ [⟨bsI (rdN bs w), (rdD bs w left).1⟩])
def prsN (b : List Int) : Int := gt (tkO (tkB b false 4) (tkW b false 4) 1) 0
def prsB (b : List Int) : List Int := tkB (tkB b false 4) (tkW b false 4) 1
def prsW (b : List Int) : Bool := tkW (tkB b false 4) (tkW b false 4) 1
noncomputable def parS (b : List Int) : List Ent × Bool :=
  if bsI (tkO b false 4) = ⟨#[65, 82, 67, 49]⟩ then
    match prsL (prsN b).toNat (prsB b) (prsW b) 65536 [] with
    | none => ([], false)
    | some r => (r.1, !r.2.2 && (decide ((r.2.1.length : Int) = 0) && decide (valS r.1 = 0)))
  else ([], false)
theorem bsI_size (l : List Int) : (bsI l).size = l.length := by simp [bsI, ByteArray.size]
theorem prs_ic (b : List Int) : ICp (b.length ≤ 1000000000) 69 [by_ b] (fun v => v = .tup [ev (parS b).1, bv (parS b).2]) := fun hl => (prs_V b _).2 (by
  (delta prs_V; dsimp only [mkV])
  (repeat' (first | with_reducible refine brn_nd (fun h => ?_) (fun h => ?_) | with_reducible refine brn_d (fun h => ?_) (fun h => ?_) | with_reducible refine brn_nn (fun h => ?_) (fun h => ?_) | with_reducible refine brn_nb (fun h => ?_) (fun h => ?_) | with_reducible refine Brn.mk (fun h => ?_) (fun h => ?_) | with_reducible refine Chk.mk ?_ ?_ | with_reducible refine Bth.mk ?_ ?_ | with_reducible refine Fct.mk (fun hf => ?_)))
  · omega
  · rw [parS, if_neg (by assumption)]; rfl
  · omega
  · have := tkO_len (tkB b false 4) (tkW b false 4) (n := 1) (by omega); omega
  all_goals
    have hb : InB b := InB_ok (by assumption : b.length ≤ _ ∧ _).2
    have hN := InB_gt (tkO_in (tkW b false 4) 1 (tkB_in false 4 hb)) (i := 0) (by omega) (by have := tkO_len (tkB b false 4) (tkW b false 4) (n := 1) (by omega); omega)
  · unfold InI; omega
  have hp : parS b = match prsL (prsN b).toNat (prsB b) (prsW b) 65536 [] with
    | none => ([], false)
    | some r => (r.1, !r.2.2 && (decide ((r.2.1.length : Int) = 0) && decide (valS r.1 = 0))) := by rw [parS, if_pos (by assumption)]
  have hlb : (prsB b).length ≤ b.length := Nat.le_trans (tkB_len _ _ _) (tkB_len _ _ _)
  refine lp5 (fun out left bs w i => (0 ≤ i ∧ i ≤ prsN b) ∧ (out.length : Int) = i ∧ InB bs ∧ bs.length ≤ b.length ∧ left ≤ 65536 ∧ 0 ≤ left ∧ (∀ x ∈ out, x.nm.size ≤ 1000000000 ∧ x.dat.length ≤ 1000000000) ∧ prsL (prsN b - i).toNat bs w left out = prsL (prsN b).toNat (prsB b) (prsW b) 65536 []) (fun _ _ _ _ i => (prsN b - i).toNat) ⟨⟨by omega, hN.1⟩, by simp, tkB_in _ _ (tkB_in _ _ hb), hlb, by omega, by omega, by simp, by rw [Int.sub_zero]; rfl⟩ ?_
  rintro I μ nx out left bs w i ⟨⟨j0, j1⟩, j2, j3, j4, j5, j6, j7, j8⟩
  have k1 := tkO_len bs w (n := 1) (by omega)
  have hK := InB_gt (tkO_in w 1 j3) (i := 0) (by omega) (by omega)
  have hB : InB (tkB (tkB bs w 1) (tkW bs w 1) (gt (tkO bs w 1) 0)) := tkB_in _ _ (tkB_in _ _ j3)
  have hBl : (tkB (tkB bs w 1) (tkW bs w 1) (gt (tkO bs w 1) 0)).length ≤ bs.length := Nat.le_trans (tkB_len _ _ _) (tkB_len _ _ _)
  obtain ⟨d1, d2, d3, d4⟩ := dtR_facts (tkW (tkB bs w 1) (tkW bs w 1) (gt (tkO bs w 1) 0)) left hB
  have hstep : i < prsN b → prsL (prsN b - i).toNat bs w left out = if (rdD bs w left).2.2 = true then none else prsL (prsN b - (i + 1)).toNat (rdD bs w left).2.1 (rdD bs w left).2.2 (left - (rdD bs w left).1.length) (out ++ [⟨bsI (rdN bs w), (rdD bs w left).1⟩]) := fun h => by
    rw [show (prsN b - i).toNat = (prsN b - (i + 1)).toNat + 1 by omega, prsL]
  have hNe : prsN b = gt (tkO (tkB b false 4) (tkW b false 4) 1) 0 := rfl
  have hd0 := dtN_in (tkW (tkB bs w 1) (tkW bs w 1) (gt (tkO bs w 1) 0)) hB
  have hfin : ¬ i < prsN b → prsL (prsN b).toNat (prsB b) (prsW b) 65536 [] = some (out, bs, w) := fun h => by
    rw [← j8, show (prsN b - i).toNat = 0 by omega]; rfl
  (repeat' (first | with_reducible refine brn_nd (fun h => ?_) (fun h => ?_) | with_reducible refine brn_d (fun h => ?_) (fun h => ?_) | with_reducible refine brn_nn (fun h => ?_) (fun h => ?_) | with_reducible refine brn_nb (fun h => ?_) (fun h => ?_) | with_reducible refine Brn.mk (fun h => ?_) (fun h => ?_) | with_reducible refine Chk.mk ?_ ?_ | with_reducible refine Bth.mk ?_ ?_ | with_reducible refine Fct.mk (fun hf => ?_)))
  · omega
  · unfold InI; omega
  · omega
  · exact ⟨hB, j5, by omega⟩
  · rw [hp, ← j8, hstep (by assumption), if_pos (by assumption)]; rfl
  all_goals (try have hd5 := d4 (by assumption))
  · unfold InI; omega
  · simp only [List.length_append, List.length_singleton]; omega
  · unfold InI; omega
  · have hw : ¬ (rdD bs w left).2.2 = true := by unfold rdD rdK; rw [Bool.not_eq_true]; assumption
    refine nx _ _ _ _ _ _ _ _ _ _ ⟨⟨j0, j1⟩, j2, j3, j4, j5, j6, j7, j8⟩ ⟨⟨by omega, by omega⟩, by simp; omega, d2, by omega, by omega, by omega, fun x hx => ?_, ?_⟩ (by omega)
    · rcases List.mem_append.1 hx with hx | hx
      · exact j7 x hx
      · rw [List.mem_singleton] at hx
        subst hx
        refine ⟨?_, by dsimp only; omega⟩
        have h9 := tkO_len (tkB bs w 1) (tkW bs w 1) hK.1
        dsimp only
        rw [bsI_size]; omega
    · rw [← j8, hstep (by assumption), if_neg hw]; rfl
  · exact ⟨by omega, j7⟩
  all_goals rw [hp, hfin (by assumption)]
  · simp [*]
  · dsimp only
    rw [show decide ((bs.length : Int) = 0) = false from decide_eq_false (by assumption), Bool.false_and, Bool.and_false]
  · simp [*])
end Go.Proofs.Ytbnmcdnkeipdhaa
