/- The law OwnersNobody, shown. -/
import Derived.Test.YtcjcndgfjaaklaaOq
import Derived.Test.YtcjcndgfjaaklaaOp
set_option linter.all false
set_option maxRecDepth 20000
set_option maxHeartbeats 4000000
namespace Go.Proofs.Ytcjcndgfjaaklaa
open Go.RowKit Go.Shelf
theorem nob_facts {d : Dir} {s : List Stw} (hd : DirOk d) (hs : StsOk d s) {last : Int} (hl : last = prevS s s.length) {p : Int} (hp : 0 ≤ p ∧ p < d.kinds.length) :
    wayS d (s ++ [⟨last, p, -1⟩]) p last = [p] ∧ ofO d (s ++ [⟨last, p, -1⟩]) p last = -1 ∧ ∀ q : Int, 0 ≤ q → q < d.kinds.length → hasB (pickS d (s ++ [⟨last, p, -1⟩]) last fun _ ok => !ok) q = !((wayS d (s ++ [⟨last, p, -1⟩]) q last).any fun x => decide (gt d.kinds x = 1)) := by
  have hb := prevS_bd hs
  have hn := hd.n
  have hm : stE d (s ++ [⟨last, p, -1⟩]) = 0 := sts_more hd hs (stOk_iff.2 ⟨by simp only; omega, by simp only; omega, ex_iff.2 hp, .inl rfl⟩)
  have ho : ofS (s ++ [⟨last, p, -1⟩]) p last = -1 := by rw [ofS_snoc, if_pos ⟨rfl, Int.le_refl _⟩]
  refine ⟨?_, by rw [ofO_ok hm hp, ho], fun q h0 h1 => ?_⟩
  · unfold wayS
    rw [if_pos (knB_iff.2 ⟨hm, ex_iff.2 hp⟩)]
    obtain ⟨k, hk⟩ : ∃ k, d.kinds.length = k + 1 := ⟨d.kinds.length - 1, by omega⟩
    rw [hk]
    simp only [wayN]
    rw [if_neg (by simp; omega), ho, if_pos (.inl rfl)]
    rfl
  · rw [Bool.eq_iff_iff, hasB_iff]
    unfold pickS
    rw [if_pos hm, mem_selN]
    unfold ownS firstP
    cases hf : List.find? (fun q => decide (gt d.kinds q = 1)) (wayS d (s ++ [⟨last, p, -1⟩]) q last) with
    | none =>
      rw [List.find?_eq_none] at hf
      have : (wayS d (s ++ [⟨last, p, -1⟩]) q last).any (fun x => decide (gt d.kinds x = 1)) = false := by
        rw [List.any_eq_false]; exact hf
      simp [this, h0, h1]
    | some x =>
      have h2 := List.mem_of_find?_eq_some hf
      have h3 := List.find?_some hf
      have : (wayS d (s ++ [⟨last, p, -1⟩]) q last).any (fun x => decide (gt d.kinds x = 1)) = true := List.any_eq_true.2 ⟨x, h2, h3⟩
      simp [this]
theorem Nobody_il (l : List Int) : ILt 13 [lv l] := (OwnersNobody_V l).2 (by
  (delta OwnersNobody_V; dsimp only [mkV])
  (repeat' (first | with_reducible refine brn_nd (fun h => ?_) (fun h => ?_) | with_reducible refine brn_d (fun h => ?_) (fun h => ?_) | with_reducible refine brn_nn (fun h => ?_) (fun h => ?_) | with_reducible refine brn_nb (fun h => ?_) (fun h => ?_) | with_reducible refine Brn.mk (fun h => ?_) (fun h => ?_) | with_reducible refine Chk.mk ?_ ?_ | with_reducible refine Bth.mk ?_ ?_ | with_reducible refine Fct.mk (fun hf => ?_)))
  · rfl
  intro d hd
  have hn := hd.n
  (repeat' (first | with_reducible refine brn_nd (fun h => ?_) (fun h => ?_) | with_reducible refine brn_d (fun h => ?_) (fun h => ?_) | with_reducible refine brn_nn (fun h => ?_) (fun h => ?_) | with_reducible refine brn_nb (fun h => ?_) (fun h => ?_) | with_reducible refine Brn.mk (fun h => ?_) (fun h => ?_) | with_reducible refine Chk.mk ?_ ?_ | with_reducible refine Bth.mk ?_ ?_ | with_reducible refine Fct.mk (fun hf => ?_)))
  · exact hd
  intro s hs
  have hsn := hs.n
  have hb := prevS_bd hs
  (repeat' (first | with_reducible refine brn_nd (fun h => ?_) (fun h => ?_) | with_reducible refine brn_d (fun h => ?_) (fun h => ?_) | with_reducible refine brn_nn (fun h => ?_) (fun h => ?_) | with_reducible refine brn_nb (fun h => ?_) (fun h => ?_) | with_reducible refine Brn.mk (fun h => ?_) (fun h => ?_) | with_reducible refine Chk.mk ?_ ?_ | with_reducible refine Bth.mk ?_ ?_ | with_reducible refine Fct.mk (fun hf => ?_)))
  · omega
  · omega
  · omega
  · intro p hp
    have hlast : (gt s ((s.length : Int) - 1)).time = prevS s s.length := by unfold prevS; rw [if_neg (by omega)]
    have hf := nob_facts hd hs hlast hp
    refine Chk.mk (by omega) (Chk.mk (by simp; omega) ?_)
    obtain ⟨m, hm⟩ : ∃ m, m = s ++ [⟨(gt s ((s.length : Int) - 1)).time, p, -1⟩] := ⟨_, rfl⟩
    rw [← hm] at hf ⊢
    have hkey := hf.2.2
    (repeat' (first | with_reducible refine brn_nd (fun h => ?_) (fun h => ?_) | with_reducible refine brn_d (fun h => ?_) (fun h => ?_) | with_reducible refine brn_nn (fun h => ?_) (fun h => ?_) | with_reducible refine brn_nb (fun h => ?_) (fun h => ?_) | with_reducible refine Brn.mk (fun h => ?_) (fun h => ?_) | with_reducible refine Chk.mk ?_ ?_ | with_reducible refine Bth.mk ?_ ?_ | with_reducible refine Fct.mk (fun hf => ?_)))
    all_goals (first | exact absurd hf.2.1 (by assumption) | exact absurd hf.1 (by assumption) | skip)
    refine up0 (by omega) (by omega) ?_ ?_
    · intro I μ q h0 h1 nx
      have hwl := wayN_len (d := d) (l := m) (p := q) (t := (gt s ((s.length : Int) - 1)).time)
      (repeat' (first | with_reducible refine brn_nd (fun h => ?_) (fun h => ?_) | with_reducible refine brn_d (fun h => ?_) (fun h => ?_) | with_reducible refine brn_nn (fun h => ?_) (fun h => ?_) | with_reducible refine brn_nb (fun h => ?_) (fun h => ?_) | with_reducible refine Brn.mk (fun h => ?_) (fun h => ?_) | with_reducible refine Chk.mk ?_ ?_ | with_reducible refine Bth.mk ?_ ?_ | with_reducible refine Fct.mk (fun hf => ?_)))
      all_goals (first | omega | exact nx | skip)
      refine up2 (fun b z => b = ((wayS d m q ((gt s ((s.length : Int) - 1)).time)).take z.toNat).any (fun x => decide (gt d.kinds x = 1))) (by omega) rfl ?_ ?_
      · rintro I2 μ2 b z z0 z1 rfl nx2
        obtain ⟨i, rfl, hi⟩ := natz z0 z1
        have hx := ex_iff.1 (way_ex (gt_mem z0 z1))
        have e : ((i : Int) + 1).toNat = i + 1 := by omega
        have hs2 : ((wayS d m q ((gt s ((s.length : Int) - 1)).time)).take (i + 1)).any (fun x => decide (gt d.kinds x = 1)) = (((wayS d m q ((gt s ((s.length : Int) - 1)).time)).take i).any (fun x => decide (gt d.kinds x = 1)) || decide (gt d.kinds (gt (wayS d m q ((gt s ((s.length : Int) - 1)).time)) (i : Int)) = 1)) := by rw [take_snoc (by omega), List.any_append]; simp
        simp only [e, hs2, Int.toNat_natCast] at nx2 ⊢
        (repeat' (first | with_reducible refine brn_nd (fun h => ?_) (fun h => ?_) | with_reducible refine brn_d (fun h => ?_) (fun h => ?_) | with_reducible refine brn_nn (fun h => ?_) (fun h => ?_) | with_reducible refine brn_nb (fun h => ?_) (fun h => ?_) | with_reducible refine Brn.mk (fun h => ?_) (fun h => ?_) | with_reducible refine Chk.mk ?_ ?_ | with_reducible refine Bth.mk ?_ ?_ | with_reducible refine Fct.mk (fun hf => ?_)))
        all_goals (first | omega | (refine nx2 _ ?_; rw [h]; rfl) | (refine nx2 _ ?_; have hb2 : ((wayS d m q ((gt s ((s.length : Int) - 1)).time)).take i).any (fun x => decide (gt d.kinds x = 1)) = false := (by assumption); rw [hb2]; rfl) | (exfalso; omega) | skip)
      · rintro I2 μ2 b rfl
        have hk := hkey q h0 h1
        simp only [Int.toNat_natCast, List.take_length]
        (repeat' (first | with_reducible refine brn_nd (fun h => ?_) (fun h => ?_) | with_reducible refine brn_d (fun h => ?_) (fun h => ?_) | with_reducible refine brn_nn (fun h => ?_) (fun h => ?_) | with_reducible refine brn_nb (fun h => ?_) (fun h => ?_) | with_reducible refine Brn.mk (fun h => ?_) (fun h => ?_) | with_reducible refine Chk.mk ?_ ?_ | with_reducible refine Bth.mk ?_ ?_ | with_reducible refine Fct.mk (fun hf => ?_)))
        all_goals (first | exact nx | omega | (exfalso; rw [hk] at *; simp_all; done))
    · intro I μ
      rfl
  · omega
  · intro p hp
    have hlast : 0 = prevS s s.length := by unfold prevS; rw [if_pos (by omega)]
    have hf := nob_facts hd hs hlast hp
    refine Chk.mk (by omega) (Chk.mk (by simp; omega) ?_)
    obtain ⟨m, hm⟩ : ∃ m, m = s ++ [⟨0, p, -1⟩] := ⟨_, rfl⟩
    rw [← hm] at hf ⊢
    have hkey := hf.2.2
    (repeat' (first | with_reducible refine brn_nd (fun h => ?_) (fun h => ?_) | with_reducible refine brn_d (fun h => ?_) (fun h => ?_) | with_reducible refine brn_nn (fun h => ?_) (fun h => ?_) | with_reducible refine brn_nb (fun h => ?_) (fun h => ?_) | with_reducible refine Brn.mk (fun h => ?_) (fun h => ?_) | with_reducible refine Chk.mk ?_ ?_ | with_reducible refine Bth.mk ?_ ?_ | with_reducible refine Fct.mk (fun hf => ?_)))
    all_goals (first | exact absurd hf.2.1 (by assumption) | exact absurd hf.1 (by assumption) | skip)
    refine up0 (by omega) (by omega) ?_ ?_
    · intro I μ q h0 h1 nx
      have hwl := wayN_len (d := d) (l := m) (p := q) (t := 0)
      (repeat' (first | with_reducible refine brn_nd (fun h => ?_) (fun h => ?_) | with_reducible refine brn_d (fun h => ?_) (fun h => ?_) | with_reducible refine brn_nn (fun h => ?_) (fun h => ?_) | with_reducible refine brn_nb (fun h => ?_) (fun h => ?_) | with_reducible refine Brn.mk (fun h => ?_) (fun h => ?_) | with_reducible refine Chk.mk ?_ ?_ | with_reducible refine Bth.mk ?_ ?_ | with_reducible refine Fct.mk (fun hf => ?_)))
      all_goals (first | omega | exact nx | skip)
      refine up2 (fun b z => b = ((wayS d m q (0)).take z.toNat).any (fun x => decide (gt d.kinds x = 1))) (by omega) rfl ?_ ?_
      · rintro I2 μ2 b z z0 z1 rfl nx2
        obtain ⟨i, rfl, hi⟩ := natz z0 z1
        have hx := ex_iff.1 (way_ex (gt_mem z0 z1))
        have e : ((i : Int) + 1).toNat = i + 1 := by omega
        have hs2 : ((wayS d m q (0)).take (i + 1)).any (fun x => decide (gt d.kinds x = 1)) = (((wayS d m q (0)).take i).any (fun x => decide (gt d.kinds x = 1)) || decide (gt d.kinds (gt (wayS d m q (0)) (i : Int)) = 1)) := by rw [take_snoc (by omega), List.any_append]; simp
        simp only [e, hs2, Int.toNat_natCast] at nx2 ⊢
        (repeat' (first | with_reducible refine brn_nd (fun h => ?_) (fun h => ?_) | with_reducible refine brn_d (fun h => ?_) (fun h => ?_) | with_reducible refine brn_nn (fun h => ?_) (fun h => ?_) | with_reducible refine brn_nb (fun h => ?_) (fun h => ?_) | with_reducible refine Brn.mk (fun h => ?_) (fun h => ?_) | with_reducible refine Chk.mk ?_ ?_ | with_reducible refine Bth.mk ?_ ?_ | with_reducible refine Fct.mk (fun hf => ?_)))
        all_goals (first | omega | (refine nx2 _ ?_; rw [h]; rfl) | (refine nx2 _ ?_; have hb2 : ((wayS d m q (0)).take i).any (fun x => decide (gt d.kinds x = 1)) = false := (by assumption); rw [hb2]; rfl) | (exfalso; omega) | skip)
      · rintro I2 μ2 b rfl
        have hk := hkey q h0 h1
        simp only [Int.toNat_natCast, List.take_length]
        (repeat' (first | with_reducible refine brn_nd (fun h => ?_) (fun h => ?_) | with_reducible refine brn_d (fun h => ?_) (fun h => ?_) | with_reducible refine brn_nn (fun h => ?_) (fun h => ?_) | with_reducible refine brn_nb (fun h => ?_) (fun h => ?_) | with_reducible refine Brn.mk (fun h => ?_) (fun h => ?_) | with_reducible refine Chk.mk ?_ ?_ | with_reducible refine Bth.mk ?_ ?_ | with_reducible refine Fct.mk (fun hf => ?_)))
        all_goals (first | exact nx | omega | (exfalso; rw [hk] at *; simp_all; done))
    · intro I μ
      rfl)
end Go.Proofs.Ytcjcndgfjaaklaa
