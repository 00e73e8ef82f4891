/- Regress: a rule more. -/
import Derived.Test.YtcbppkfnfbdkhaaKh
set_option linter.all false
set_option maxRecDepth 20000
set_option maxHeartbeats 4000000
namespace Go.Proofs.Ytcbppkfnfbdkhaa
open Go.RowKit Go.Shelf
theorem insL_mem {l : List Rul} {r x : Rul} {z : Int} (h : x ∈ insL l r z) : x = r ∨ x ∈ l := by
  unfold insL at h
  rcases List.mem_append.1 h with h | h
  · exact .inr (List.mem_of_mem_take h)
  · rcases List.mem_cons.1 h with h | h
    · exact .inl h
    · exact .inr (List.mem_of_mem_drop h)
theorem insL_ok {l : List Rul} {r : Rul} {z : Int} (hl : RulOk l) (h40 : l.length < 40) (h1 : r.nm.size ≤ 1000000000 ∧ r.wh.ok ∧ ckS r = 0) (h2 : ∀ x ∈ l, x.nm ≠ r.nm) (hz : 0 ≤ z ∧ z ≤ l.length) : RulOk (insL l r z) := by
  refine ⟨by rw [insL_len hz.1 hz.2]; omega, fun x hx => ?_, ?_⟩
  · rcases insL_mem hx with rfl | h
    · exact h1
    · exact hl.2.1 x h
  · unfold insL
    rw [List.map_append, List.map_cons, List.map_take, List.map_drop]
    have hp : (r.nm :: ((l.map Rul.nm).take z.toNat ++ (l.map Rul.nm).drop z.toNat)).Nodup := by
      rw [List.take_append_drop]
      refine List.nodup_cons.2 ⟨fun h => ?_, hl.2.2⟩
      obtain ⟨x, hx, e⟩ := List.mem_map.1 h
      exact h2 x hx e
    exact (List.perm_middle.nodup_iff).2 hp
theorem decN_at {l : List Rul} {kinds : List Knd} {f : Fnd} {s : Spt} {i : Nat} (hi : i < l.length) (h1 : rho kinds f s l[i] = true) (h2 : ∀ j (hj : j < i), rho kinds f s (l[j]'(by omega)) = false) : decN l kinds f s = i := idxOf_at hi h1 h2
theorem idx_find {α : Type} [Inhabited α] (q : α → Bool) (l : List α) : (idxOf q l < 0 ∧ l.find? q = none) ∨ (0 ≤ idxOf q l ∧ l.find? q = some (gt l (idxOf q l)) ∧ q (gt l (idxOf q l)) = true) := by
  cases h : l.find? q with
  | none =>
    have hn : ∀ x ∈ l, q x = false := fun x hx => by simpa using List.find?_eq_none.1 h x hx
    rw [idxOf_none hn]
    exact .inl ⟨by omega, rfl⟩
  | some x =>
    obtain ⟨hq, i, hi, hx, hj⟩ := List.find?_eq_some_iff_getElem.1 h
    have e := idxOf_at (q := q) (l := l) (i := i) hi (by rw [hx]; exact hq) (fun j hj' => by simpa using hj j hj')
    refine .inr ?_
    rw [e, gt_nat hi, hx]
    exact ⟨by omega, rfl, hq⟩
theorem decV_find (l : List Rul) (kinds : List Knd) (f : Fnd) (s : Spt) : decV l kinds f s = ((l.find? (rho kinds f s)).map Rul.vd).getD 1 := by
  have e1 : decN l kinds f s = idxOf (rho kinds f s) l := rfl
  unfold decV
  rw [e1]
  rcases idx_find (rho kinds f s) l with ⟨h1, h2⟩ | ⟨h1, h2, _⟩
  · rw [if_pos h1, h2]; rfl
  · rw [if_neg (by omega), h2]; rfl
theorem ins_dec {l : List Rul} {r : Rul} {z : Int} {kinds : List Knd} {f : Fnd} {s : Spt} (hz : 0 ≤ z ∧ z ≤ l.length) : (decN (insL l r z) kinds f s = z ∧ rho kinds f s r = true ∧ decV (insL l r z) kinds f s = r.vd) ∨ decV (insL l r z) kinds f s = decV l kinds f s := by
  have hlen : (l.take z.toNat).length = z.toNat := by rw [List.length_take]; omega
  have e1 : l.find? (rho kinds f s) = ((l.take z.toNat).find? (rho kinds f s)).or ((l.drop z.toNat).find? (rho kinds f s)) := by
    rw [← List.find?_append, List.take_append_drop]
  have e2 : (insL l r z).find? (rho kinds f s) = ((l.take z.toNat).find? (rho kinds f s)).or ((r :: l.drop z.toNat).find? (rho kinds f s)) := by
    unfold insL; rw [List.find?_append]
  cases h1 : (l.take z.toNat).find? (rho kinds f s) with
  | some x =>
    right
    rw [decV_find, decV_find, e1, e2, h1]; rfl
  | none =>
    cases h2 : rho kinds f s r with
    | false =>
      right
      rw [decV_find, decV_find, e1, e2, h1, List.find?_cons_of_neg (by simp [h2])]
    | true =>
      left
      refine ⟨?_, rfl, ?_⟩
      · have hl := insL_len (r := r) hz.1 hz.2
        have := decN_at (l := insL l r z) (kinds := kinds) (f := f) (s := s) (i := z.toNat) (by omega)
          (by unfold insL; simp only [List.getElem_append_right (Nat.le_of_eq hlen), hlen, Nat.sub_self, List.getElem_cons_zero]; exact h2)
          (fun j hj => by
            unfold insL
            rw [List.getElem_append_left (by omega)]
            have hm := List.find?_eq_none.1 h1 _ (List.getElem_mem (l := l.take z.toNat) (n := j) (by omega))
            simpa using hm)
        omega
      · rw [decV_find, e2, h1, List.find?_cons_of_pos (by simp [h2])]; rfl
theorem mem_upto {α : Type} {g : Int → List α} {n : Int} {x : α} : x ∈ upto g n ↔ ∃ i : Int, 0 ≤ i ∧ i < n ∧ x ∈ g i := by
  unfold upto
  rw [List.mem_flatMap]
  constructor
  · rintro ⟨i, hi, hx⟩
    rw [List.mem_range] at hi
    exact ⟨i, by omega, by omega, hx⟩
  · rintro ⟨i, h0, h1, hx⟩
    exact ⟨i.toNat, by rw [List.mem_range]; omega, by rwa [Int.toNat_of_nonneg h0]⟩
theorem mem_chgS {a b : List Rul} {kinds : List Knd} {f : List Fnd} {c : Chg} (h : c ∈ chgS a b kinds f) : ∃ i k : Int, (0 ≤ i ∧ i < f.length) ∧ (0 ≤ k ∧ k < (gt f i).wh.length) ∧ decV a kinds (gt f i) (gt (gt f i).wh k) ≠ decV b kinds (gt f i) (gt (gt f i).wh k) ∧
    c = ⟨i, k, decV a kinds (gt f i) (gt (gt f i).wh k), decV b kinds (gt f i) (gt (gt f i).wh k), decN a kinds (gt f i) (gt (gt f i).wh k), decN b kinds (gt f i) (gt (gt f i).wh k)⟩ := by
  unfold chgS at h
  obtain ⟨i, i0, i1, h⟩ := mem_upto.1 h
  unfold cgRow at h
  obtain ⟨k, k0, k1, h⟩ := mem_upto.1 h
  unfold cgOne at h
  split at h
  · cases h
  · rename_i hne
    rw [List.mem_singleton] at h
    exact ⟨i, k, ⟨i0, i1⟩, ⟨k0, k1⟩, hne, h⟩
theorem mem_nums {l : List Rul} {kinds : List Knd} {f : List Fnd} {n : Int} : n ∈ nums l kinds f ↔ ∃ x ∈ f, ∃ s ∈ x.wh, decN l kinds x s = n := by
  unfold nums
  rw [mem_upto]
  constructor
  · rintro ⟨i, i0, i1, h⟩
    unfold nuRow at h
    obtain ⟨k, k0, k1, h⟩ := mem_upto.1 h
    rw [List.mem_singleton] at h
    exact ⟨_, gt_mem i0 i1, _, gt_mem k0 k1, h.symm⟩
  · rintro ⟨x, hx, s, hs, h⟩
    obtain ⟨i, hi, rfl⟩ := mem_gt hx
    obtain ⟨k, hk, rfl⟩ := mem_gt hs
    refine ⟨i, by omega, by omega, ?_⟩
    unfold nuRow
    exact mem_upto.2 ⟨k, by omega, by omega, by rw [h]; simp⟩
theorem mem_idlS {l : List Rul} {kinds : List Knd} {f : List Fnd} {n : Int} (h : n ∈ idlS l kinds f) : 0 ≤ n ∧ n < l.length ∧ n ∉ nums l kinds f := by
  unfold idlS at h
  obtain ⟨i, i0, i1, h⟩ := mem_upto.1 h
  split at h
  · cases h
  · rw [List.mem_singleton] at h; subst h
    exact ⟨i0, i1, by assumption⟩
theorem rnm_sz {l : List Rul} (h : RulM l) (hl : l.length ≤ 9) : ∀ x ∈ l, x.nm.size = 2 := fun x hx => by
  obtain ⟨i, hi, rfl⟩ := mem_gt hx
  rw [h.1 i hi]
  exact (rnm_ok i (by omega)).2
end Go.Proofs.Ytcbppkfnfbdkhaa
