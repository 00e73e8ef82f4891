/- Regress: a rule more. -/
import Derived.Test.YtcbppkfnfbdkhaaKh
set_option linter.all false
set_option maxRecDepth 20000
set_option maxHeartbeats 4000000
namespace Go.Proofs.Ytcbppkfnfbdkhaa
open Go.RowKit Go.Shelf
theorem insL_0 (l : List Rul) (r : Rul) : insL l r 0 = r :: l := by unfold insL; simp
theorem insL_mem {l : List Rul} {r x : Rul} {z : Int} (h : x ∈ insL l r z) : x = r ∨ x ∈ l := by
  unfold insL at h
  rcases List.mem_append.1 h with h | h
  · exact .inr (List.mem_of_mem_take h)
  · rcases List.mem_cons.1 h with h | h
    · exact .inl h
    · exact .inr (List.mem_of_mem_drop h)
theorem insL_ok {l : List Rul} {r : Rul} {z : Int} (hl : RulOk l) (h40 : l.length < 40) (h1 : r.nm.size ≤ 1000000000 ∧ r.wh.ok ∧ ckS r = 0) (h2 : ∀ x ∈ l, x.nm ≠ r.nm) (hz : 0 ≤ z ∧ z ≤ l.length) : RulOk (insL l r z) := by
  refine ⟨by rw [insL_len hz.1 hz.2]; omega, fun x hx => ?_, ?_⟩
  · rcases insL_mem hx with rfl | h
    · exact h1
    · exact hl.2.1 x h
  · unfold insL
    rw [List.map_append, List.map_cons, List.map_take, List.map_drop]
    have hp : (r.nm :: ((l.map Rul.nm).take z.toNat ++ (l.map Rul.nm).drop z.toNat)).Nodup := by
      rw [List.take_append_drop]
      refine List.nodup_cons.2 ⟨fun h => ?_, hl.2.2⟩
      obtain ⟨x, hx, e⟩ := List.mem_map.1 h
      exact h2 x hx e
    exact (List.perm_middle.nodup_iff).2 hp
theorem decN_at {l : List Rul} {kinds : List Knd} {f : Fnd} {s : Spt} {i : Nat} (hi : i < l.length) (h1 : rho kinds f s l[i] = true) (h2 : ∀ j (hj : j < i), rho kinds f s (l[j]'(by omega)) = false) : decN l kinds f s = i := idxOf_at hi h1 h2
theorem mem_upto {α : Type} {g : Int → List α} {n : Int} {x : α} : x ∈ upto g n ↔ ∃ i : Int, 0 ≤ i ∧ i < n ∧ x ∈ g i := by
  unfold upto
  rw [List.mem_flatMap]
  constructor
  · rintro ⟨i, hi, hx⟩
    rw [List.mem_range] at hi
    exact ⟨i, by omega, by omega, hx⟩
  · rintro ⟨i, h0, h1, hx⟩
    exact ⟨i.toNat, by rw [List.mem_range]; omega, by rwa [Int.toNat_of_nonneg h0]⟩
theorem mem_nums {l : List Rul} {kinds : List Knd} {f : List Fnd} {n : Int} : n ∈ nums l kinds f ↔ ∃ x ∈ f, ∃ s ∈ x.wh, decN l kinds x s = n := by
  unfold nums
  rw [mem_upto]
  constructor
  · rintro ⟨i, i0, i1, h⟩
    unfold nuRow at h
    obtain ⟨k, k0, k1, h⟩ := mem_upto.1 h
    rw [List.mem_singleton] at h
    exact ⟨_, gt_mem i0 i1, _, gt_mem k0 k1, h.symm⟩
  · rintro ⟨x, hx, s, hs, h⟩
    obtain ⟨i, hi, rfl⟩ := mem_gt hx
    obtain ⟨k, hk, rfl⟩ := mem_gt hs
    refine ⟨i, by omega, by omega, ?_⟩
    unfold nuRow
    exact mem_upto.2 ⟨k, by omega, by omega, by rw [h]; simp⟩
theorem upto_but0 {n : Int} (h : 1 ≤ n) : (upto (fun i : Int => if i = 0 then [] else [i]) n).length = (n - 1).toNat := by
  obtain ⟨m, rfl⟩ : ∃ m : Nat, n = m + 1 := ⟨(n - 1).toNat, by omega⟩
  clear h
  induction m with
  | zero => rfl
  | succ m ih =>
    rw [upto_s _ (by omega), List.length_append, show ((m + 1 : Nat) : Int) = (m : Int) + 1 by omega, ih, if_neg (by omega)]
    simp only [List.length_singleton]; omega
theorem all_dec (l : List Rul) (kinds : List Knd) (f : Fnd) (s : Spt) (v : Int) : decN (rAll v :: l) kinds f s = 0 ∧ decV (rAll v :: l) kinds f s = v := by
  have h := decN_at (l := rAll v :: l) (kinds := kinds) (f := f) (s := s) (i := 0) (by simp) (hoS_all kinds f s v) (fun j hj => by omega)
  refine ⟨h, ?_⟩
  unfold decV; rw [h]; rfl
theorem opnS_all1 (l : List Rul) (kinds : List Knd) (f : List Fnd) (hf : ∀ x ∈ f, 0 < x.wh.length) : opnS (rAll 1 :: l) kinds f = f := by
  induction f with
  | nil => rfl
  | cons x f ih =>
    have e : opnS (rAll 1 :: l) kinds (x :: f) = opOne (rAll 1 :: l) kinds x ++ opnS (rAll 1 :: l) kinds f := by unfold opnS; rw [List.flatMap_cons]
    have ew : opW (rAll 1 :: l) kinds x x.wh = x.wh := by
      unfold opW
      rw [List.filter_eq_self]
      intro s _
      rw [(all_dec l kinds x s 1).2]; rfl
    rw [e, ih fun y hy => hf y (List.mem_cons_of_mem _ hy)]
    unfold opOne
    rw [ew, if_pos (hf x (List.mem_cons_self ..))]; rfl
theorem opnS_all2 (l : List Rul) (kinds : List Knd) (f : List Fnd) : opnS (rAll 2 :: l) kinds f = [] := by
  induction f with
  | nil => rfl
  | cons x f ih =>
    have e : opnS (rAll 2 :: l) kinds (x :: f) = opOne (rAll 2 :: l) kinds x ++ opnS (rAll 2 :: l) kinds f := by unfold opnS; rw [List.flatMap_cons]
    have ew : opW (rAll 2 :: l) kinds x x.wh = [] := by
      unfold opW
      rw [List.filter_eq_nil_iff]
      intro s _
      rw [(all_dec l kinds x s 2).2]; simp
    rw [e, ih]
    unfold opOne
    rw [ew, if_neg (by simp)]; rfl
theorem idlS_all (l : List Rul) (kinds : List Knd) (f : List Fnd) (v : Int) (hf : f ≠ []) (hw : ∀ x ∈ f, 0 < x.wh.length) : (idlS (rAll v :: l) kinds f).length = l.length := by
  have hn : ∀ i : Int, i ∈ nums (rAll v :: l) kinds f ↔ i = 0 := fun i => by
    rw [mem_nums]
    constructor
    · rintro ⟨x, _, s, _, h⟩
      rw [(all_dec l kinds x s v).1] at h; exact h.symm
    · rintro rfl
      obtain ⟨x, hx⟩ := List.exists_mem_of_ne_nil f hf
      have h1 := hw x hx
      exact ⟨x, hx, x.wh[0], List.getElem_mem h1, (all_dec l kinds x _ v).1⟩
  have e : idlS (rAll v :: l) kinds f = upto (fun i : Int => if i = 0 then [] else [i]) ((rAll v :: l).length : Nat) := by
    unfold idlS
    refine upto_congr fun i _ _ => ?_
    by_cases h : i = 0
    · rw [if_pos ((hn i).2 h), if_pos h]
    · rw [if_neg fun h' => h ((hn i).1 h'), if_neg h]
  rw [e, upto_but0 (by simp; omega)]
  simp
theorem rnm_sz {l : List Rul} (h : RulM l) (hl : l.length ≤ 9) : ∀ x ∈ l, x.nm.size = 2 := fun x hx => by
  obtain ⟨i, hi, rfl⟩ := mem_gt hx
  rw [h.1 i hi]
  exact (rnm_ok i (by omega)).2
end Go.Proofs.Ytcbppkfnfbdkhaa
