/- Archives: archives in archives, shown. -/
import Derived.Test.YtbnmcdnkeipdhaaIm
set_option linter.all false
set_option maxRecDepth 20000
set_option maxHeartbeats 4000000
namespace Go.Proofs.Ytbnmcdnkeipdhaa
open Go.RowKit Go.Shelf
theorem nmF_ok : ∀ i : Nat, i < 9 → nmB (nmF i) = true := by decide
theorem nmF_inj : ∀ i : Nat, i < 9 → ∀ j : Nat, j < 9 → nmF i = nmF j → i = j := by decide
theorem EntN_val {l : List Ent} (h : ∀ i : Nat, i < l.length → (gt l (i : Int)).nm = nmF i) (hl : l.length ≤ 9) (hs : sumE l ≤ 65536) : valS l = 0 := by
  have hn : (l.map Ent.nm).Nodup := by
    refine List.pairwise_iff_getElem.2 fun i j hi hj hij e => ?_
    rw [List.length_map] at hi hj
    rw [List.getElem_map, List.getElem_map] at e
    have e1 := h i hi
    have e2 := h j hj
    rw [gt_nat hi] at e1
    rw [gt_nat hj] at e2
    have := nmF_inj i (by omega) j (by omega) (e1.symm.trans (e.trans e2))
    omega
  have ha : ¬ l.all (fun x => nmB x.nm) = false := by
    intro hh
    obtain ⟨x, hx, hq⟩ := List.all_eq_false.1 hh
    obtain ⟨i, hi, rfl⟩ := mem_gt hx
    rw [h i hi] at hq
    exact hq (nmF_ok i (by omega))
  rw [valS, if_neg (by omega), if_neg ha, if_neg (fun h => h hn)]
def szE (q : List Ent) : Int := (q.map fun x => (5 + (x.nm.size : Int) + (x.dat.length : Int))).sum
theorem szE_cons (x : Ent) (q : List Ent) : szE (x :: q) = 5 + (x.nm.size : Int) + (x.dat.length : Int) + szE q := by unfold szE; rw [List.map_cons, List.sum_cons]
theorem fm_le (q : List Ent) : ((q.flatMap encE).length : Int) ≤ szE q := by
  induction q with
  | nil => simp [szE]
  | cons x q ih =>
    have := encE_len x
    rw [List.flatMap_cons, List.length_append, szE_cons]
    omega
theorem szE_EntP {l : List Ent} (h : EntP l) : szE l ≤ 707 * l.length ∧ sumE l ≤ 700 * l.length := by
  have hs : ∀ x ∈ l, x.nm.size ≤ 2 ∧ x.dat.length ≤ 700 := fun x hx => by
    obtain ⟨i, hi, rfl⟩ := mem_gt hx
    rw [h.1 i hi]
    refine ⟨?_, (h.2 _ (gt_mem (by omega) (by omega))).1⟩
    unfold nmF
    rw [ByteArray.size_append, bsI_size]; exact Nat.le_refl 2
  clear h
  induction l with
  | nil => simp [szE, sumE]
  | cons x l ih =>
    have h1 := ih fun y hy => hs y (List.mem_cons_of_mem _ hy)
    have h2 := hs x List.mem_cons_self
    have e : sumE (x :: l) = x.dat.length + sumE l := by simp [sumE]
    rw [szE_cons, e, List.length_cons]; omega
theorem szE_set (l : List Ent) (k : Nat) (d : List Int) (n : ByteArray) (hn : ∀ x, l[k]? = some x → n = x.nm) : szE (l.set k ⟨n, d⟩) ≤ szE l + d.length ∧ sumE (l.set k ⟨n, d⟩) ≤ sumE l + d.length := by
  induction l generalizing k with
  | nil => simp [szE, sumE]
  | cons x l ih =>
    have e : ∀ (y : Ent) (q : List Ent), sumE (y :: q) = y.dat.length + sumE q := fun y q => by simp [sumE]
    cases k with
    | zero =>
      have := hn x rfl
      subst this
      rw [List.set_cons_zero, szE_cons, szE_cons, e, e]
      simp only []
      omega
    | succ k =>
      obtain ⟨h1, h2⟩ := ih k fun y hy => hn y (by simpa using hy)
      rw [List.set_cons_succ, szE_cons, szE_cons, e, e]; omega
theorem fmtB_len (l : List Ent) : 5 ≤ (fmtB l).length ∧ ((fmtB l).length : Int) ≤ 5 + szE l := by
  have := fm_le l
  unfold fmtB
  simp only [List.length_append, List.length_cons, List.length_nil]
  omega
theorem szE_mem {l : List Ent} {x : Ent} (h : x ∈ l) : (x.nm.size : Int) + x.dat.length ≤ szE l := by
  have hp : ∀ q : List Ent, 0 ≤ szE q := fun q => by
    induction q with
    | nil => simp [szE]
    | cons y q ih => rw [szE_cons]; omega
  induction l with
  | nil => cases h
  | cons y l ih =>
    have := hp l
    rw [szE_cons]
    rcases List.mem_cons.1 h with h | h
    · subst h; omega
    · have := ih h; omega
theorem Nest_step (deep : Int) (ih : ∀ dp : Int, ICp (1 < deep ∧ deep ≤ 5 ∧ dp = deep - 1) 42 [.one .tape, iv dp] (ND (fun b : List Int => 5 ≤ b.length ∧ (b.length : Int) ≤ nstL dp) by_)) : ICp (deep ≤ 5) 42 [.one .tape, iv deep] (ND (fun b : List Int => 5 ≤ b.length ∧ (b.length : Int) ≤ nstL deep) by_) := fun hd => (Nest_V deep ih _).2 (by
  (delta Nest_V; dsimp only [mkV])
  (repeat' (first | with_reducible refine brn_nd (fun h => ?_) (fun h => ?_) | with_reducible refine brn_d (fun h => ?_) (fun h => ?_) | with_reducible refine brn_nn (fun h => ?_) (fun h => ?_) | with_reducible refine brn_nb (fun h => ?_) (fun h => ?_) | with_reducible refine Brn.mk (fun h => ?_) (fun h => ?_) | with_reducible refine Chk.mk ?_ ?_ | with_reducible refine Bth.mk ?_ ?_ | with_reducible refine Fct.mk (fun hf => ?_)))
  · omega
  intro n hn
  (repeat' (first | with_reducible refine brn_nd (fun h => ?_) (fun h => ?_) | with_reducible refine brn_d (fun h => ?_) (fun h => ?_) | with_reducible refine brn_nn (fun h => ?_) (fun h => ?_) | with_reducible refine brn_nb (fun h => ?_) (fun h => ?_) | with_reducible refine Brn.mk (fun h => ?_) (fun h => ?_) | with_reducible refine Chk.mk ?_ ?_ | with_reducible refine Bth.mk ?_ ?_ | with_reducible refine Fct.mk (fun hf => ?_)))
  · omega
  rintro l ⟨hl, he⟩
  obtain ⟨hz, hs⟩ := szE_EntP he
  have plain : ∀ q : List Ent, (∀ i : Nat, i < q.length → (gt q (i : Int)).nm = nmF i) → q.length ≤ 9 → sumE q ≤ 65536 → 5 + szE q ≤ nstL deep → ND (fun b : List Int => 5 ≤ b.length ∧ (b.length : Int) ≤ nstL deep) by_ (by_ (fmtS q)) := fun q h1 h2 h3 h4 => by
    refine ⟨fmtS q, ?_, rfl⟩
    rw [fmtS, if_pos (EntN_val h1 h2 h3)]
    obtain ⟨a1, a2⟩ := fmtB_len q
    exact ⟨a1, by omega⟩
  have small : ∀ q : List Ent, szE q ≤ 20000 → q.length ≤ 3 → q.length ≤ 1000 ∧ ∀ x ∈ q, x.nm.size ≤ 1000000000 ∧ x.dat.length ≤ 1000000000 := fun q h1 h2 => ⟨by omega, fun x hx => by have := szE_mem hx; omega⟩
  have hpl : ND (fun b : List Int => 5 ≤ b.length ∧ (b.length : Int) ≤ nstL deep) by_ (by_ (fmtS l)) := plain l he.1 (by omega) (by omega) (by unfold nstL; omega)
  (repeat' (first | with_reducible refine brn_nd (fun h => ?_) (fun h => ?_) | with_reducible refine brn_d (fun h => ?_) (fun h => ?_) | with_reducible refine brn_nn (fun h => ?_) (fun h => ?_) | with_reducible refine brn_nb (fun h => ?_) (fun h => ?_) | with_reducible refine Brn.mk (fun h => ?_) (fun h => ?_) | with_reducible refine Chk.mk ?_ ?_ | with_reducible refine Bth.mk ?_ ?_ | with_reducible refine Fct.mk (fun hf => ?_)))
  · omega
  · intro k hk
    (repeat' (first | with_reducible refine brn_nd (fun h => ?_) (fun h => ?_) | with_reducible refine brn_d (fun h => ?_) (fun h => ?_) | with_reducible refine brn_nn (fun h => ?_) (fun h => ?_) | with_reducible refine brn_nb (fun h => ?_) (fun h => ?_) | with_reducible refine Brn.mk (fun h => ?_) (fun h => ?_) | with_reducible refine Chk.mk ?_ ?_ | with_reducible refine Bth.mk ?_ ?_ | with_reducible refine Fct.mk (fun hf => ?_)))
    · unfold InI; omega
    · omega
    rintro d ⟨hd1, hd2⟩
    have hdl : nstL (deep - 1) + 2200 = nstL deep := by unfold nstL; omega
    have hdm : nstL deep ≤ 11000 := by unfold nstL; omega
    obtain ⟨z1, z2⟩ := szE_set l k.toNat d (gt l k).nm fun x hx => by
      have hlt := (List.getElem?_eq_some_iff.1 hx).1
      rw [List.getElem?_eq_getElem hlt] at hx
      injection hx with hx
      rw [← hx, ← gt_nat hlt, show ((k.toNat : Nat) : Int) = k by omega]
    (repeat' (first | with_reducible refine brn_nd (fun h => ?_) (fun h => ?_) | with_reducible refine brn_d (fun h => ?_) (fun h => ?_) | with_reducible refine brn_nn (fun h => ?_) (fun h => ?_) | with_reducible refine brn_nb (fun h => ?_) (fun h => ?_) | with_reducible refine Brn.mk (fun h => ?_) (fun h => ?_) | with_reducible refine Chk.mk ?_ ?_ | with_reducible refine Bth.mk ?_ ?_ | with_reducible refine Fct.mk (fun hf => ?_)))
    · exact small _ (by omega) (by rw [List.length_set]; omega)
    · refine plain _ (fun i hi => ?_) (by rw [List.length_set]; omega) (by omega) (by omega)
      rw [List.length_set] at hi
      rw [gt_nat (by rw [List.length_set]; exact hi), List.getElem_set]
      split
      · rename_i e
        show (gt l k).nm = nmF i
        rw [← he.1 i hi, ← e, show ((k.toNat : Nat) : Int) = k by omega]
      · rw [← gt_nat hi]; exact he.1 i hi
  · exact small l (by omega) (by omega)
  · exact hpl
  · exact small l (by omega) (by omega)
  · exact hpl)
theorem Nest_x (n : Nat) : ∀ deep : Int, deep.toNat ≤ n → ICp (deep ≤ 5) 42 [.one .tape, iv deep] (ND (fun b : List Int => 5 ≤ b.length ∧ (b.length : Int) ≤ nstL deep) by_) := by
  induction n with
  | zero => intro deep hd; exact Nest_step deep fun dp h => by omega
  | succ n ih => intro deep hd; exact Nest_step deep fun dp h => ih dp (by omega) (by omega)
theorem Nest_nd (deep : Int) : ICp (deep ≤ 5) 42 [.one .tape, iv deep] (ND (fun b : List Int => 5 ≤ b.length ∧ (b.length : Int) ≤ nstL deep) by_) := Nest_x _ deep (Nat.le_refl _)
end Go.Proofs.Ytbnmcdnkeipdhaa
