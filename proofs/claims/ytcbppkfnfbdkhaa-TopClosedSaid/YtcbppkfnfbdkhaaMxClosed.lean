/- The law TopClosed, shown. -/
import Derived.Test.YtcbppkfnfbdkhaaMg
import Derived.Test.YtcbppkfnfbdkhaaMvClosed
set_option linter.all false
set_option maxRecDepth 20000
set_option maxHeartbeats 4000000
namespace Go.Proofs.Ytcbppkfnfbdkhaa
open Go.RowKit Go.Shelf
theorem closed_il (tape : List Int) : ILt 7 [lv tape] := (lawClosed_V tape).2 (by
  (delta lawClosed_V; dsimp only [mkV])
  refine Fct.mk fun _ => brn_d (fun _ => rfl) fun _ => ?_
  intro d hd
  refine Chk.mk (by have := hd.n; omega) ?_
  intro a ha
  refine Chk.mk (by omega) ?_
  intro c hc3
  have he := ha.v
  have hc : 0 ≤ c ∧ c ≤ 63 := by omega
  have htl0 := timesS_len he
  have hpl := ha.n
  have hdn0 := hd.n
  have hdm0 := hd.m.1
  have hx00 : xckS d a c = 0 := by
    unfold xckS
    rw [if_pos (rck_iff.2 ⟨hd.v, he⟩), if_pos ((inB_iff ..).2 hc)]
  refine Chk.mk ⟨by omega, by omega, by omega, hx00⟩ (Fct.mk fun _ => brn_d (fun hlen => Fct.mk fun _ => Chk.mk (by unfold InI; omega) (Chk.mk (by omega) ?_)) fun hlen => ?_)
  · have hpr : prevA a.evs a.evs.length = (gt a.evs ((a.evs.length : Int) - 1)).time := by unfold prevA; rw [if_neg (by omega)]
    have hL := evs_le he (Int.le_of_eq hpr)
    have ht := ha.t
    have hnn := prevA_nn (i := a.evs.length) fun j hj => (estB_iff.1 he).2.2.2 j hj
    rw [hpr] at ht hnn
    refine Fct.mk fun _ => ?_
    refine lp2 (fun e z => 0 ≤ z ∧ z ≤ d.evs.length ∧ (gt a.evs ((a.evs.length : Int) - 1)).time ≤ e ∧ e ≤ 1000 ∧ ∀ i : Nat, (i : Int) < z → (gt d.evs (i : Int)).time ≤ e) (fun _ z => (d.evs.length - z).toNat) ⟨by omega, by omega, by omega, by omega, fun i hi => by omega⟩ ?_
    rintro I μ nx E z ⟨z0, z1, hE1, hE2, hE3⟩
    refine brn_d (fun hz => ?_) fun hz => ?_
    · have h100 := hd.m.2 _ (gt_mem z0 hz)
      refine Chk.mk ⟨z0, hz⟩ (Chk.mk (by unfold InI; omega) (nx _ _ _ _ ⟨z0, z1, hE1, hE2, hE3⟩ ⟨by omega, by omega, by omega, by omega, fun i hi => ?_⟩ (by omega)))
      by_cases e : (i : Int) < z
      · have := hE3 i e; omega
      · rw [show (i : Int) = z by omega]; omega
    · have hEd : ∀ x ∈ d.evs, x.time ≤ E := fun x hx => by
        obtain ⟨i, hi, rfl⟩ := mem_gt hx
        exact hE3 i (by omega)
      have hW : ∀ p ∈ whereS a c (gt a.evs ((a.evs.length : Int) - 1)).time, 0 ≤ p ∧ p < a.places := fun p hp => by
        unfold whereS at hp
        split at hp
        · have := (rg'_mem).1 (List.mem_filter.1 hp).1
          omega
        · cases hp
      have hWl : (whereS a c (gt a.evs ((a.evs.length : Int) - 1)).time).length ≤ 16 := by
        unfold whereS
        split
        · have := fl_len (fun p => inT a c p (gt a.evs ((a.evs.length : Int) - 1)).time) a.places.toNat
          omega
        · simp
      have hm : estB (remE a c E (whereS a c (gt a.evs ((a.evs.length : Int) - 1)).time)) = true := remE_ok he hc (by omega) (by omega) hW (by omega)
      refine Chk.mk (by omega) (Fct.mk fun _ => ?_)
      refine lp3 (fun (evs : List Acc) (pl k : Int) => 0 ≤ k ∧ k ≤ (whereS a c (gt a.evs ((a.evs.length : Int) - 1)).time).length ∧ pl = a.places ∧ evs = a.evs ++ ((whereS a c (gt a.evs ((a.evs.length : Int) - 1)).time).take k.toNat).map fun p => (⟨E + 1, 6, p, 0, 0, c, 0⟩ : Acc)) (fun _ _ k => ((whereS a c (gt a.evs ((a.evs.length : Int) - 1)).time).length - k).toNat) ⟨by omega, by omega, rfl, by simp⟩ ?_
      rintro I2 μ2 nx2 evs pl k ⟨k0, k1, rfl, hev⟩
      have hel : evs.length ≤ 200 := by rw [hev]; simp; omega
      refine brn_d (fun hk => ?_) fun hk => ?_
      · refine Chk.mk ⟨k0, hk⟩ (Chk.mk (by unfold InI; omega) (Chk.mk (by simp; omega) (Chk.mk (by unfold InI; omega) (nx2 _ _ _ _ _ _ ⟨k0, k1, rfl, hev⟩ ⟨by omega, by omega, rfl, ?_⟩ (by omega)))))
        obtain ⟨i, rfl, hi⟩ := natz k0 hk
        rw [show ((i : Int) + 1).toNat = i + 1 by omega, take_snoc (by omega), List.map_append, ← List.append_assoc]
        rw [Int.toNat_natCast] at hev
        rw [← hev]; rfl
      · have e1 : (⟨a.places, evs⟩ : Est) = remE a c E (whereS a c (gt a.evs ((a.evs.length : Int) - 1)).time) := by
          rw [hev, show k.toNat = (whereS a c (gt a.evs ((a.evs.length : Int) - 1)).time).length by omega, List.take_length]; rfl
        rw [e1, show (⟨d.kinds, d.evs⟩ : Dir) = d from rfl, rem_all he hm hc hL hE1 hEd]
        have hx0 : xckS d (remE a c E (whereS a c (gt a.evs ((a.evs.length : Int) - 1)).time)) c = 0 := by
          unfold xckS
          rw [if_pos (rck_iff.2 ⟨hd.v, hm⟩), if_pos ((inB_iff ..).2 hc)]
        have htl := timesS_len hm
        have hgone := fun t ht => rem_gone (t := t) he hc hL hE1 ht
        have hdn := hd.n
        have hdm := hd.m.1
        generalize remE a c E (whereS a c (gt a.evs ((a.evs.length : Int) - 1)).time) = m at *
        refine Chk.mk ⟨by omega, by omega, by omega, hx0⟩ (Fct.mk fun hal => Fct.mk fun _ => brn_nd (fun h => absurd rfl h) fun _ => Fct.mk fun _ => ?_)
        refine lp1 (fun z => 0 ≤ z ∧ z ≤ (allS d a c).length) (fun z => ((allS d a c).length - z).toNat) ⟨by omega, by omega⟩ ?_
        rintro I3 μ3 nx3 y ⟨y0, y1⟩
        refine brn_d (fun hy => Chk.mk ⟨y0, hy⟩ (Chk.mk ⟨y0, hy⟩ (brn_nd (fun h => absurd rfl h) fun _ => Chk.mk (by unfold InI; omega) (nx3 _ _ ⟨y0, y1⟩ ⟨by omega, by omega⟩ (by omega))))) fun _ => ?_
        refine lp1 (fun p => -1 ≤ p ∧ p ≤ d.kinds.length) (fun p => (d.kinds.length - p).toNat) ⟨by omega, by omega⟩ ?_
        rintro I4 μ4 nx4 p ⟨p0, p1⟩
        refine Fct.mk fun _ => brn_d (fun hp => Chk.mk (by unfold InI; omega) ?_) fun _ => Chk.mk (by unfold InI; omega) (Fct.mk fun _ => ?_)
        · refine lp1 (fun t => E + 1 ≤ t ∧ t ≤ E + 4) (fun t => (E + 4 - t).toNat) ⟨by omega, by omega⟩ ?_
          rintro I5 μ5 nx5 t ⟨t0, t1⟩
          refine Chk.mk (by unfold InI; omega) (brn_d (fun ht => Chk.mk hx0 ?_) fun _ => Chk.mk (by unfold InI; omega) (nx4 _ _ ⟨p0, p1⟩ ⟨by omega, by omega⟩ (by omega)))
          rw [pl_none (hgone t t0)]
          refine ⟨fun h => by simp at h, fun _ => Chk.mk (by unfold InI; omega) (nx5 _ _ ⟨t0, t1⟩ ⟨by omega, by omega⟩ (by omega))⟩
        · rw [hgone (E + 1) (Int.le_refl _)]
          refine brn_d (fun _ => ?_) fun h => absurd rfl h
          exact ⟨fun _ => rfl, fun h => by rw [hm] at h; cases h⟩
  · have hnil : a.evs = [] := List.eq_nil_of_length_eq_zero (by omega)
    have hL : ∀ x ∈ a.evs, x.time ≤ 0 := fun x hx => by rw [hnil] at hx; cases hx
    have hpr : prevA a.evs a.evs.length = 0 := by rw [hnil]; rfl
    refine Fct.mk fun _ => ?_
    refine lp2 (fun e z => 0 ≤ z ∧ z ≤ d.evs.length ∧ (0 : Int) ≤ e ∧ e ≤ 1000 ∧ ∀ i : Nat, (i : Int) < z → (gt d.evs (i : Int)).time ≤ e) (fun _ z => (d.evs.length - z).toNat) ⟨by omega, by omega, by omega, by omega, fun i hi => by omega⟩ ?_
    rintro I μ nx E z ⟨z0, z1, hE1, hE2, hE3⟩
    refine brn_d (fun hz => ?_) fun hz => ?_
    · have h100 := hd.m.2 _ (gt_mem z0 hz)
      refine Chk.mk ⟨z0, hz⟩ (Chk.mk (by unfold InI; omega) (nx _ _ _ _ ⟨z0, z1, hE1, hE2, hE3⟩ ⟨by omega, by omega, by omega, by omega, fun i hi => ?_⟩ (by omega)))
      by_cases e : (i : Int) < z
      · have := hE3 i e; omega
      · rw [show (i : Int) = z by omega]; omega
    · have hEd : ∀ x ∈ d.evs, x.time ≤ E := fun x hx => by
        obtain ⟨i, hi, rfl⟩ := mem_gt hx
        exact hE3 i (by omega)
      have hW : ∀ p ∈ whereS a c (0 : Int), 0 ≤ p ∧ p < a.places := fun p hp => by
        unfold whereS at hp
        split at hp
        · have := (rg'_mem).1 (List.mem_filter.1 hp).1
          omega
        · cases hp
      have hWl : (whereS a c (0 : Int)).length ≤ 16 := by
        unfold whereS
        split
        · have := fl_len (fun p => inT a c p (0 : Int)) a.places.toNat
          omega
        · simp
      have hm : estB (remE a c E (whereS a c (0 : Int))) = true := remE_ok he hc (by omega) (by omega) hW (by omega)
      refine Chk.mk (by omega) (Fct.mk fun _ => ?_)
      refine lp3 (fun (evs : List Acc) (pl k : Int) => 0 ≤ k ∧ k ≤ (whereS a c (0 : Int)).length ∧ pl = a.places ∧ evs = a.evs ++ ((whereS a c (0 : Int)).take k.toNat).map fun p => (⟨E + 1, 6, p, 0, 0, c, 0⟩ : Acc)) (fun _ _ k => ((whereS a c (0 : Int)).length - k).toNat) ⟨by omega, by omega, rfl, by simp⟩ ?_
      rintro I2 μ2 nx2 evs pl k ⟨k0, k1, rfl, hev⟩
      have hel : evs.length ≤ 200 := by rw [hev]; simp; omega
      refine brn_d (fun hk => ?_) fun hk => ?_
      · refine Chk.mk ⟨k0, hk⟩ (Chk.mk (by unfold InI; omega) (Chk.mk (by simp; omega) (Chk.mk (by unfold InI; omega) (nx2 _ _ _ _ _ _ ⟨k0, k1, rfl, hev⟩ ⟨by omega, by omega, rfl, ?_⟩ (by omega)))))
        obtain ⟨i, rfl, hi⟩ := natz k0 hk
        rw [show ((i : Int) + 1).toNat = i + 1 by omega, take_snoc (by omega), List.map_append, ← List.append_assoc]
        rw [Int.toNat_natCast] at hev
        rw [← hev]; rfl
      · have e1 : (⟨a.places, evs⟩ : Est) = remE a c E (whereS a c (0 : Int)) := by
          rw [hev, show k.toNat = (whereS a c (0 : Int)).length by omega, List.take_length]; rfl
        rw [e1, show (⟨d.kinds, d.evs⟩ : Dir) = d from rfl, rem_all he hm hc hL hE1 hEd]
        have hx0 : xckS d (remE a c E (whereS a c (0 : Int))) c = 0 := by
          unfold xckS
          rw [if_pos (rck_iff.2 ⟨hd.v, hm⟩), if_pos ((inB_iff ..).2 hc)]
        have htl := timesS_len hm
        have hgone := fun t ht => rem_gone (t := t) he hc hL hE1 ht
        have hdn := hd.n
        have hdm := hd.m.1
        generalize remE a c E (whereS a c (0 : Int)) = m at *
        refine Chk.mk ⟨by omega, by omega, by omega, hx0⟩ (Fct.mk fun hal => Fct.mk fun _ => brn_nd (fun h => absurd rfl h) fun _ => Fct.mk fun _ => ?_)
        refine lp1 (fun z => 0 ≤ z ∧ z ≤ (allS d a c).length) (fun z => ((allS d a c).length - z).toNat) ⟨by omega, by omega⟩ ?_
        rintro I3 μ3 nx3 y ⟨y0, y1⟩
        refine brn_d (fun hy => Chk.mk ⟨y0, hy⟩ (Chk.mk ⟨y0, hy⟩ (brn_nd (fun h => absurd rfl h) fun _ => Chk.mk (by unfold InI; omega) (nx3 _ _ ⟨y0, y1⟩ ⟨by omega, by omega⟩ (by omega))))) fun _ => ?_
        refine lp1 (fun p => -1 ≤ p ∧ p ≤ d.kinds.length) (fun p => (d.kinds.length - p).toNat) ⟨by omega, by omega⟩ ?_
        rintro I4 μ4 nx4 p ⟨p0, p1⟩
        refine Fct.mk fun _ => brn_d (fun hp => Chk.mk (by unfold InI; omega) ?_) fun _ => Chk.mk (by unfold InI; omega) (Fct.mk fun _ => ?_)
        · refine lp1 (fun t => E + 1 ≤ t ∧ t ≤ E + 4) (fun t => (E + 4 - t).toNat) ⟨by omega, by omega⟩ ?_
          rintro I5 μ5 nx5 t ⟨t0, t1⟩
          refine Chk.mk (by unfold InI; omega) (brn_d (fun ht => Chk.mk hx0 ?_) fun _ => Chk.mk (by unfold InI; omega) (nx4 _ _ ⟨p0, p1⟩ ⟨by omega, by omega⟩ (by omega)))
          rw [pl_none (hgone t t0)]
          refine ⟨fun h => by simp at h, fun _ => Chk.mk (by unfold InI; omega) (nx5 _ _ ⟨t0, t1⟩ ⟨by omega, by omega⟩ (by omega))⟩
        · rw [hgone (E + 1) (Int.le_refl _)]
          refine brn_d (fun _ => ?_) fun h => absurd rfl h
          exact ⟨fun _ => rfl, fun h => by rw [hm] at h; cases h⟩)
end Go.Proofs.Ytcbppkfnfbdkhaa
