/- Archives: the reference reads, shown. -/
import Derived.Test.YtbnmcdnkeipdhaaIb
set_option linter.all false
set_option maxRecDepth 20000
set_option maxHeartbeats 4000000
namespace Go.Proofs.Ytbnmcdnkeipdhaa
open Go.RowKit Go.Shelf
theorem tk_ok {c : List Int} {n : Int} (h0 : 0 ≤ n) (h : n ≤ c.length) : tkW c false n = false ∧ tkO c false n = c.take n.toNat ∧ tkB c false n = c.drop n.toNat := by
  have h1 : tkW c false n = false := by unfold tkW; simp; omega
  unfold tkO tkB
  rw [h1]
  simp
theorem tkW_true (c : List Int) (n : Int) : tkW c true n = true := by unfold tkW; rfl
theorem tkW_short {c : List Int} {n : Int} (w : Bool) (h : (c.length : Int) < n) : tkW c w n = true := by unfold tkW; simp [h]
theorem dtR_wrong {c : List Int} {w : Bool} (most : Int) (h : dtW c w = true) : (dtR c w most).2.2 = true := by
  unfold dtR; rw [if_pos (.inr (.inr h))]
theorem dtW_true (c : List Int) : dtW c true = true := by unfold dtW; rw [tkW_true, tkW_true]
theorem rdD_short {c : List Int} (left : Int) (h : c.length < 1) : (rdD c false left).2.2 = true := by
  unfold rdD
  rw [tkW_short (c := c) false (n := 1) (by omega), tkW_true]
  exact dtR_wrong _ (dtW_true _)
theorem tk1 {c : List Int} (h : 1 ≤ c.length) : tkW c false 1 = false ∧ tkB c false 1 = c.drop 1 ∧ rdK c false = gt c 0 := by
  obtain ⟨a1, a2, a3⟩ := tk_ok (c := c) (n := 1) (by omega) (by omega)
  refine ⟨a1, a3, ?_⟩
  unfold rdK
  rw [a2]
  match c, h with
  | x :: t, _ => rfl
theorem rdD_short2 {c : List Int} (left : Int) (h : 1 ≤ c.length) (hk : 0 ≤ gt c 0) (hs : (c.length : Int) < gt c 0 + 5) : (rdD c false left).2.2 = true := by
  obtain ⟨a1, a2, a3⟩ := tk1 h
  unfold rdD
  rw [a1, a2, a3]
  by_cases h1 : ((c.drop 1).length : Int) < gt c 0
  · rw [tkW_short _ h1]; exact dtR_wrong _ (dtW_true _)
  · obtain ⟨b1, b2, b3⟩ := tk_ok (c := c.drop 1) (n := gt c 0) hk (by omega)
    rw [b1, b3]
    refine dtR_wrong _ ?_
    unfold dtW
    by_cases h2 : (((c.drop 1).drop (gt c 0).toNat).length : Int) < 3
    · rw [tkW_short _ h2]; exact tkW_true _ _
    · obtain ⟨c1, c2, c3⟩ := tk_ok (c := (c.drop 1).drop (gt c 0).toNat) (n := 3) (by omega) (by omega)
      rw [c1, c3]
      refine tkW_short _ ?_
      simp only [List.length_drop] at h1 h2 ⊢
      omega
theorem gt_takeI {c : List Int} {m : Nat} {i : Int} (h0 : 0 ≤ i) (h1 : i < m) (h2 : i < c.length) : gt (c.take m) i = gt c i := by
  obtain ⟨k, rfl⟩ : ∃ k : Nat, i = k := ⟨i.toNat, by omega⟩
  rw [gt_nat (by rw [List.length_take]; omega), gt_nat (by omega), List.getElem_take]
theorem rdD_head {c : List Int} (left : Int) (hk : 0 ≤ gt c 0) (hs : gt c 0 + 5 ≤ (c.length : Int)) {n : Int} (hn : n = num3 (gt c (gt c 0 + 1)) (gt c (gt c 0 + 2)) (gt c (gt c 0 + 3))) {r : List Int} (hr : r = c.drop ((gt c 0).toNat + 5)) :
    rdN c false = (c.drop 1).take (gt c 0).toNat ∧ rdD c false left = if left < n ∨ 1 < gt c (gt c 0 + 4) then ([], r, true) else if gt c (gt c 0 + 4) = 0 then (tkO r false n, tkB r false n, tkW r false n) else ((unpS r [] n).1, (unpS r [] n).2.1, !(unpS r [] n).2.2) := by
  obtain ⟨a1, a2, a3⟩ := tk1 (c := c) (by omega)
  obtain ⟨b1, b2, b3⟩ := tk_ok (c := c.drop 1) (n := gt c 0) hk (by rw [List.length_drop]; omega)
  obtain ⟨c1, c2, c3⟩ := tk_ok (c := (c.drop 1).drop (gt c 0).toNat) (n := 3) (by omega) (by simp only [List.length_drop]; omega)
  obtain ⟨d1, d2, d3⟩ := tk_ok (c := ((c.drop 1).drop (gt c 0).toNat).drop (3 : Int).toNat) (n := 1) (by omega) (by simp only [List.length_drop]; omega)
  have e0 : (c.drop 1).drop (gt c 0).toNat = c.drop ((gt c 0).toNat + 1) := by rw [List.drop_drop]; congr 1; omega
  have e3 : (c.drop ((gt c 0).toNat + 1)).drop (3 : Int).toNat = c.drop ((gt c 0).toNat + 4) := by rw [List.drop_drop]; congr 1
  have e4 : (c.drop ((gt c 0).toNat + 4)).drop (1 : Int).toNat = r := by rw [List.drop_drop, hr]; congr 1
  rw [e0] at b3 c1 c2 c3 d1 d2 d3
  rw [e3] at c3 d1 d2 d3
  rw [e4] at d3
  have hF : dtF (c.drop ((gt c 0).toNat + 1)) false = gt c (gt c 0 + 4) := by
    unfold dtF
    rw [c1, c3, d2, gt_takeI (by omega) (by simp) (by simp only [List.length_drop]; omega), gt_dropI (by omega) (by omega)]
    congr 1; omega
  have hN : dtN (c.drop ((gt c 0).toNat + 1)) false = n := by
    unfold dtN
    rw [c2, hn]
    unfold numI
    rw [gt_takeI (by omega) (by simp) (by simp only [List.length_drop]; omega), gt_takeI (by omega) (by simp) (by simp only [List.length_drop]; omega), gt_takeI (by omega) (by simp) (by simp only [List.length_drop]; omega), gt_dropI (by omega) (by omega), gt_dropI (by omega) (by omega), gt_dropI (by omega) (by omega)]
    congr 2 <;> omega
  have hB : dtB (c.drop ((gt c 0).toNat + 1)) false = r := by unfold dtB; rw [c1, c3, d3]
  have hW : dtW (c.drop ((gt c 0).toNat + 1)) false = false := by unfold dtW; rw [c1, c3, d1]
  refine ⟨by unfold rdN; rw [a1, a2, a3, b2], ?_⟩
  unfold rdD
  rw [a1, a2, a3, b1, b3, dtR, hF, hN, hB, hW]
  simp
theorem unpS_suf (b data : List Int) (size : Int) : (unpS b data size).2.1.length ≤ b.length ∧ (unpS b data size).2.1 = b.drop (b.length - (unpS b data size).2.1.length) := by
  induction b, data using unpS.induct (size := size) with
  | case1 b data h1 h2 => rw [unpS, if_pos h1, dif_pos h2]; exact ⟨Nat.zero_le _, by simp⟩
  | case2 b data h1 h2 h3 h4 => rw [unpS, if_pos h1, dif_neg h2, if_pos h3, if_pos h4]; exact ⟨Nat.zero_le _, by simp⟩
  | case3 b data h1 h2 h3 h4 ih =>
    rw [unpS, if_pos h1, dif_neg h2, if_pos h3, if_neg h4]
    obtain ⟨q1, q2⟩ := ih
    rw [List.length_drop] at q1 q2
    refine ⟨by omega, ?_⟩
    conv => lhs; rw [q2]
    rw [List.drop_drop]; congr 1; omega
  | case4 b data h1 h2 h3 ih =>
    rw [unpS, if_pos h1, dif_neg h2, if_neg h3]
    obtain ⟨q1, q2⟩ := ih
    rw [List.length_drop] at q1 q2
    refine ⟨by omega, ?_⟩
    conv => lhs; rw [q2]
    rw [List.drop_drop]; congr 1; omega
  | case5 b data h1 => rw [unpS, if_neg h1]; exact ⟨Nat.le_refl _, by simp⟩
theorem parS_short {b : List Int} (h : b.length < 5) : (parS b).2 = false := by
  unfold parS
  split
  · rename_i e
    by_cases h4 : b.length < 4
    · exfalso
      unfold tkO at e
      rw [tkW_short (c := b) false (n := 4) (by omega), if_pos rfl] at e
      exact absurd (congrArg (fun s : ByteArray => s.data.toList) e) (by decide)
    · obtain ⟨a1, a2, a3⟩ := tk_ok (c := b) (n := 4) (by omega) (by omega)
      have hd : b.drop (4 : Int).toNat = [] := List.drop_eq_nil_of_le (by show b.length ≤ 4; omega)
      have hW : prsW b = true := by unfold prsW; rw [a1, a3, hd]; rfl
      have hN : (prsN b).toNat = 0 := by unfold prsN; rw [a1, a3, hd]; rfl
      rw [hW, hN, prsL]; rfl
  · rfl
theorem parS_head {b : List Int} (h : 5 ≤ b.length) : tkO b false 4 = b.take 4 ∧ prsN b = gt b 4 ∧ prsB b = b.drop 5 ∧ prsW b = false := by
  obtain ⟨a1, a2, a3⟩ := tk_ok (c := b) (n := 4) (by omega) (by omega)
  have hd : b.drop (4 : Int).toNat = b.drop 4 := rfl
  rw [hd] at a3
  obtain ⟨c1, c2, c3⟩ := tk_ok (c := b.drop 4) (n := 1) (by omega) (by rw [List.length_drop]; omega)
  refine ⟨a2, ?_, ?_, ?_⟩
  · unfold prsN
    rw [a1, a3, c2, gt_takeI (by omega) (by decide) (by rw [List.length_drop]; omega), gt_dropI (by omega) (by omega)]; rfl
  · unfold prsB
    rw [a1, a3, c3, List.drop_drop]; rfl
  · unfold prsW
    rw [a1, a3, c1]
theorem read_nd (b : List Int) : ICp (b.length ≤ 100000000) 71 [by_ b] (ND (fun l : List Ent => (parS b).2 = true → l = (parS b).1) (fun l => .tup [ev l, bv (parS b).2])) := fun hl => (read_V b _).2 (by
  (delta read_V; dsimp only [mkV])
  (repeat' (first | with_reducible refine brn_nd (fun h => ?_) (fun h => ?_) | with_reducible refine brn_d (fun h => ?_) (fun h => ?_) | with_reducible refine brn_nn (fun h => ?_) (fun h => ?_) | with_reducible refine brn_nb (fun h => ?_) (fun h => ?_) | with_reducible refine Brn.mk (fun h => ?_) (fun h => ?_) | with_reducible refine Chk.mk ?_ ?_ | with_reducible refine Bth.mk ?_ ?_ | with_reducible refine Fct.mk (fun hf => ?_)))
  all_goals (have hb : InB b := InB_ok (by assumption : b.length ≤ _ ∧ _).2)
  all_goals (have hF : (parS b).2 = false → ND (fun l : List Ent => (parS b).2 = true → l = (parS b).1) (fun l => .tup [ev l, bv (parS b).2]) (SV.tup [SV.one (CV.d (Cell.list [])), SV.one (CV.d (Cell.bool false))]) := fun h => ⟨[], (fun h2 => (by rw [h] at h2; cases h2) : (parS b).2 = true → ([] : List Ent) = (parS b).1), by rw [h]; rfl⟩)
  · exact hF (parS_short (by omega))
  · omega
  · obtain ⟨p1, p2, p3, p4⟩ := parS_head (b := b) (by omega)
    refine hF ?_
    unfold parS
    rw [p1, if_neg (by assumption)]
  obtain ⟨p1, p2, p3, p4⟩ := parS_head (b := b) (by omega)
  have hin : ∀ i : Int, 0 ≤ i → i < b.length → 0 ≤ gt b i ∧ gt b i ≤ 255 := fun i h0 h1 => InB_gt hb h0 h1
  have hP : parS b = match prsL (gt b 4).toNat (b.drop 5) false 65536 [] with | none => ([], false) | some r => (r.1, !r.2.2 && (decide ((r.2.1.length : Int) = 0) && decide (valS r.1 = 0))) := by
    unfold parS
    rw [p1, if_pos (by assumption), p2, p3, p4]
    cases prsL (gt b 4).toNat (List.drop 5 b) false 65536 [] <;> rfl
  have h4 := hin 4 (by omega) (by omega)
  refine lp4 (fun out x total z => ∃ a : Nat, x = a ∧ a ≤ b.length ∧ 0 ≤ z ∧ z ≤ gt b 4 ∧ 0 ≤ total ∧ total ≤ 65536 ∧ (out.length : Int) = z ∧ (∀ y ∈ out, y.nm.size ≤ 255 ∧ y.dat.length ≤ 65536) ∧ prsL (gt b 4 - z).toNat (b.drop a) false (65536 - total) out = prsL (gt b 4).toNat (b.drop 5) false 65536 []) (fun _ _ _ z => (gt b 4 - z).toNat) ⟨5, rfl, by omega, by omega, by omega, by omega, by omega, rfl, by simp, by simp⟩ ?_
  rintro I μ nx out x total z ⟨a, rfl, ha, z0, z1, t0, t1, ol, os, hp⟩
  have ld : (b.drop a).length = b.length - a := List.length_drop
  have hnone : prsL (gt b 4 - z).toNat (b.drop a) false (65536 - total) out = none → (parS b).2 = false := fun h => by rw [hP, ← hp, h]
  by_cases hz : z < gt b 4
  · obtain ⟨m, hm⟩ : ∃ m : Nat, (gt b 4 - z).toNat = m + 1 := ⟨(gt b 4 - z).toNat - 1, by omega⟩
    have hm2 : (gt b 4 - (z + 1)).toNat = m := by omega
    have hbad : (rdD (b.drop a) false (65536 - total)).2.2 = true → (parS b).2 = false := fun h => hnone (by rw [hm, prsL, if_pos h])
    have hgood : (rdD (b.drop a) false (65536 - total)).2.2 = false → prsL m (rdD (b.drop a) false (65536 - total)).2.1 false (65536 - total - (rdD (b.drop a) false (65536 - total)).1.length) (out ++ [⟨bsI (rdN (b.drop a) false), (rdD (b.drop a) false (65536 - total)).1⟩]) = prsL (gt b 4).toNat (b.drop 5) false 65536 [] := fun h => by
      rw [hm, prsL, h] at hp
      exact hp
    by_cases hla : a < b.length
    · have hk := hin a (by omega) (by omega)
      have e0 : gt (b.drop a) 0 = gt b a := by rw [gt_dropI (by omega) (by omega)]; congr 1
      by_cases hs : (a : Int) + gt b a + 5 ≤ b.length
      · have q1 := hin (a + 1 + gt b a) (by omega) (by omega)
        have q2 := hin (a + 1 + gt b a + 1) (by omega) (by omega)
        have q3 := hin (a + 1 + gt b a + 2) (by omega) (by omega)
        have q4 := hin (a + 1 + gt b a + 3) (by omega) (by omega)
        rw [or3 q1 q2 q3]
        have hn0 : 0 ≤ num3 (gt b (a + 1 + gt b a)) (gt b (a + 1 + gt b a + 1)) (gt b (a + 1 + gt b a + 2)) ∧ num3 (gt b (a + 1 + gt b a)) (gt b (a + 1 + gt b a + 1)) (gt b (a + 1 + gt b a + 2)) ≤ 16777215 := by unfold num3; omega
        obtain ⟨hN, hD⟩ := rdD_head (c := b.drop a) (65536 - total) (by omega) (by omega) (n := num3 (gt b (a + 1 + gt b a)) (gt b (a + 1 + gt b a + 1)) (gt b (a + 1 + gt b a + 2))) (by
          rw [e0, gt_dropI (by omega) (by omega), gt_dropI (by omega) (by omega), gt_dropI (by omega) (by omega)]
          congr 2 <;> omega) rfl
        have e4 : gt (b.drop a) (gt b a + 4) = gt b (a + 1 + gt b a + 3) := by rw [gt_dropI (by omega) (by omega)]; congr 1; omega
        rw [e0, List.drop_drop] at hN
        rw [e0, e4, List.drop_drop] at hD
        have hnm : part b ((a : Int) + 1) (a + 1 + gt b a) = (b.drop (a + 1)).take (gt b a).toNat := part_natI b (i := a + 1) (n := (gt b a).toNat) (by omega) (by omega)
        generalize num3 (gt b (a + 1 + gt b a)) (gt b (a + 1 + gt b a + 1)) (gt b (a + 1 + gt b a + 2)) = n at *
        have lA : a + ((gt b a).toNat + 5) ≤ b.length := by omega
        generalize hA : a + ((gt b a).toNat + 5) = A at *
        have fin : ∀ (d : List Int) (a' : Nat), rdD (b.drop a) false (65536 - total) = (d, b.drop a', false) → (d.length : Int) = n → a' ≤ b.length → total + n ≤ 65536 → ∀ x' : Int, x' = a' → I (out ++ [⟨bsI (part b ((a : Int) + 1) (a + 1 + gt b a)), d⟩]) x' (total + n) (z + 1) ∧ μ (out ++ [⟨bsI (part b ((a : Int) + 1) (a + 1 + gt b a)), d⟩]) x' (total + n) (z + 1) < μ out a total z := by
          intro d a' h1 h2 h3 h4 x' hx
          subst hx
          have g := hgood (by rw [h1])
          rw [h1] at g
          refine nx _ _ _ _ _ _ _ _ ⟨a, rfl, ha, z0, z1, t0, t1, ol, os, hp⟩ ⟨a', rfl, h3, by omega, by omega, by omega, by omega, by simp; omega, fun y hy => ?_, ?_⟩ (by omega)
          · rcases List.mem_append.1 hy with hy | hy
            · exact os y hy
            · rw [List.mem_singleton] at hy
              subst hy
              refine ⟨?_, by show d.length ≤ 65536; omega⟩
              show (bsI _).size ≤ 255
              rw [bsI_size, hnm, List.length_take]; omega
          · rw [hm2, hnm, ← hN, ← g, show 65536 - (total + n) = 65536 - total - d.length by omega]
        have hr : (b.drop A).length = b.length - A := List.length_drop
        have hpt : n.toNat + A ≤ b.length → part b ((a : Int) + 1 + gt b a + 4) (a + 1 + gt b a + 4 + n) = (b.drop A).take n.toNat := fun h => part_natI b (i := A) (n := n.toNat) (by omega) (by omega)
        have hsl : List.drop ((a : Int) + 1 + gt b a + 4).toNat b = b.drop A := by congr 1; omega
        rw [hsl]
        have hu := unpS_facts (b.drop A) [] n (InB_drop _ hb) InB_nil
        have hsu := unpS_suf (b.drop A) [] n
        have hE : ((unpS (b.drop A) [] n).2.2 = false ∧ (expS (b.drop A) n).2 = -1) ∨ ((unpS (b.drop A) [] n).2.2 = true ∧ (expS (b.drop A) n).1 = (unpS (b.drop A) [] n).1 ∧ (expS (b.drop A) n).2 = ((b.drop A).length : Int) - (unpS (b.drop A) [] n).2.1.length) := by
          cases hok : (unpS (b.drop A) [] n).2.2 with
          | false => refine .inl ⟨rfl, ?_⟩; unfold expS; rw [if_neg (by rw [hok]; simp)]
          | true => refine .inr ⟨rfl, ?_, ?_⟩ <;> (unfold expS; rw [if_pos hok])
        (repeat' (first | with_reducible refine brn_nd (fun h => ?_) (fun h => ?_) | with_reducible refine brn_d (fun h => ?_) (fun h => ?_) | with_reducible refine brn_nn (fun h => ?_) (fun h => ?_) | with_reducible refine brn_nb (fun h => ?_) (fun h => ?_) | with_reducible refine Brn.mk (fun h => ?_) (fun h => ?_) | with_reducible refine Chk.mk ?_ ?_ | with_reducible refine Bth.mk ?_ ?_ | with_reducible refine Fct.mk (fun hf => ?_)))
        all_goals first | omega | (unfold InI; omega) | skip
        · exact hF (hbad (by rw [hD, if_pos (.inl (by omega))]))
        · exact hF (hbad (by rw [hD, if_neg (by omega), if_pos (by assumption)]; show tkW (b.drop A) false n = true; exact tkW_short _ (by omega)))
        · rw [hpt (by omega)]; simp only [List.length_nil, List.length_take]; omega
        · simp only [List.length_singleton]; omega
        · obtain ⟨k1, k2, k3⟩ := tk_ok (c := b.drop A) (n := n) (by omega) (by omega)
          rw [hpt (by omega), List.nil_append]
          refine fin _ (A + n.toNat) ?_ (by rw [List.length_take]; omega) (by omega) (by omega) _ (by omega)
          rw [hD, if_neg (by omega), if_pos (by assumption), k1, k2, k3, List.drop_drop]
        · have hnk : (unpS (b.drop A) [] n).2.2 = false := by
            rcases hE with ⟨h1, h2⟩ | ⟨h1, h2, h3⟩
            · exact h1
            · omega
          exact hF (hbad (by rw [hD, if_neg (by omega), if_neg (by omega)]; show (!_) = true; rw [hnk]; rfl))
        · simp only [List.length_singleton]; omega
        · rcases hE with ⟨h1, h2⟩ | ⟨h1, h2, h3⟩
          · omega
          · rw [h2]
            have hd : (unpS (b.drop A) [] n).2.1 = b.drop (A + ((b.drop A).length - (unpS (b.drop A) [] n).2.1.length)) := by
              conv => lhs; rw [hsu.2]
              rw [List.drop_drop]
            refine fin _ (A + ((b.drop A).length - (unpS (b.drop A) [] n).2.1.length)) ?_ (hu.2.2.2 h1) (by omega) (by omega) _ (by omega)
            rw [hD, if_neg (by omega), if_neg (by omega), h1, ← hd]; rfl
        · exact hF (hbad (by rw [hD, if_pos (.inr (by omega))]))
      · have hbd := hbad (rdD_short2 _ (by omega) (by omega) (by omega))
        (repeat' (first | with_reducible refine brn_nd (fun h => ?_) (fun h => ?_) | with_reducible refine brn_d (fun h => ?_) (fun h => ?_) | with_reducible refine brn_nn (fun h => ?_) (fun h => ?_) | with_reducible refine brn_nb (fun h => ?_) (fun h => ?_) | with_reducible refine Brn.mk (fun h => ?_) (fun h => ?_) | with_reducible refine Chk.mk ?_ ?_ | with_reducible refine Bth.mk ?_ ?_ | with_reducible refine Fct.mk (fun hf => ?_)))
        all_goals first | omega | (unfold InI; omega) | exact hF hbd | skip
        all_goals (trace_state; sorry)
    · have hbd := hbad (rdD_short _ (by omega))
      (repeat' (first | with_reducible refine brn_nd (fun h => ?_) (fun h => ?_) | with_reducible refine brn_d (fun h => ?_) (fun h => ?_) | with_reducible refine brn_nn (fun h => ?_) (fun h => ?_) | with_reducible refine brn_nb (fun h => ?_) (fun h => ?_) | with_reducible refine Brn.mk (fun h => ?_) (fun h => ?_) | with_reducible refine Chk.mk ?_ ?_ | with_reducible refine Bth.mk ?_ ?_ | with_reducible refine Fct.mk (fun hf => ?_)))
      all_goals first | omega | (unfold InI; omega) | exact hF hbd | skip
      all_goals (trace_state; sorry)
  · have e : (gt b 4 - z).toNat = 0 := by omega
    rw [e, prsL] at hp
    rw [← hp] at hP
    (repeat' (first | with_reducible refine brn_nd (fun h => ?_) (fun h => ?_) | with_reducible refine brn_d (fun h => ?_) (fun h => ?_) | with_reducible refine brn_nn (fun h => ?_) (fun h => ?_) | with_reducible refine brn_nb (fun h => ?_) (fun h => ?_) | with_reducible refine Brn.mk (fun h => ?_) (fun h => ?_) | with_reducible refine Chk.mk ?_ ?_ | with_reducible refine Bth.mk ?_ ?_ | with_reducible refine Fct.mk (fun hf => ?_)))
    all_goals first | omega | (unfold InI; omega) | skip
    all_goals (have hP2 : parS b = (out, (decide (((b.drop a).length : Int) = 0) && decide (valS out = 0))) := hP)
    · exact ⟨by omega, fun y hy => by have := os y hy; omega⟩
    · refine ⟨out, (fun _ => (by rw [hP2]) : (parS b).2 = true → out = (parS b).1), ?_⟩
      rw [hP2, show decide (((b.drop a).length : Int) = 0) = true from decide_eq_true (by omega)]; rfl
    · refine ⟨out, (fun _ => (by rw [hP2]) : (parS b).2 = true → out = (parS b).1), ?_⟩
      rw [hP2, show decide (((b.drop a).length : Int) = 0) = false from decide_eq_false (by omega)]; rfl)
end Go.Proofs.Ytbnmcdnkeipdhaa
