/- The contract of the reference's Check. -/
import Derived.Test.YtohgjljcdnjajaaCheck
set_option linter.unusedVariables false
namespace Go.Proofs.Ytohgjljcdnjajaa
open Go.RowKit Go.Shelf

set_option maxHeartbeats 400000 in
theorem amount_any (r : OpR) (hn : r.dat.length ≤ 9223372036854775807) (w : World) :
    Calls Try.prog 34 #[r.val] w fun e w' => e = .returned (.int .i64 (amountZ r)) ∧ Below w.heap.size w w' := by
  show Calls Try.prog 34 #[.agg #[.int .i64 r.fr, .int .i64 r.sz, .slice r.ad r.dat.length r.cap]] w _
  by_cases h : 1 ≤ r.sz
  · go_enter Try.func34, Try.ntmps34
    go_wp2
    go_ret
    exact ⟨ret_int (by unfold amountZ; rw [if_pos h]), (Below.refl _ _).alloc (Nat.le_refl _) _⟩
  · go_enter Try.func34, Try.ntmps34
    go_wp2
    go_ret
    exact ⟨ret_int (by unfold amountZ; rw [if_neg (by omega)]), (Below.refl _ _).alloc (Nat.le_refl _) _⟩

set_option maxHeartbeats 1000000 in
theorem rright_any (r : OpR) (n : Nat) (hn : r.dat.length ≤ 9223372036854775807) (hb : n ≤ 9223372036854775807) (w : World) :
    Calls Try.prog 35 #[r.val, .int .i64 (n : Int)] w fun e w' => e = .returned (.bool (fitsB r.fr r.sz r.dat.length n)) ∧ Below w.heap.size w w' := by
  show Calls Try.prog 35 #[.agg #[.int .i64 r.fr, .int .i64 r.sz, .slice r.ad r.dat.length r.cap], .int .i64 (n : Int)] w _
  obtain ⟨fr, sz, A, l, c⟩ := r
  simp only at hn ⊢
  generalize l.length = m at hn ⊢
  by_cases h : 1 ≤ sz
  · by_cases h0 : 0 ≤ fr
    · by_cases h1 : fr ≤ n
      · by_cases h2 : sz ≤ n - fr
        all_goals
          go_enter Try.func35, Try.ntmps35
          go_wp2
          go_ret
          exact ⟨ret_bool (by unfold fitsB rightB; rw [if_neg (by omega), Bool.eq_iff_iff]; simp; omega), (Below.refl _ _).alloc (Nat.le_refl _) _⟩
      · go_enter Try.func35, Try.ntmps35
        go_wp2
        go_ret
        exact ⟨ret_bool (by unfold fitsB rightB; rw [if_neg (by omega), Bool.eq_iff_iff]; simp; omega), (Below.refl _ _).alloc (Nat.le_refl _) _⟩
    · go_enter Try.func35, Try.ntmps35
      go_wp2
      go_ret
      exact ⟨ret_bool (by unfold fitsB rightB; rw [if_neg (by omega), Bool.eq_iff_iff]; simp; omega), (Below.refl _ _).alloc (Nat.le_refl _) _⟩
  · by_cases h0 : sz = 0
    · subst h0
      by_cases h1 : fr = 0
      · subst h1
        go_enter Try.func35, Try.ntmps35
        go_wp2
        go_ret
        exact ⟨ret_bool (by unfold fitsB rightB; rw [Bool.eq_iff_iff]; simp), (Below.refl _ _).alloc (Nat.le_refl _) _⟩
      · go_enter Try.func35, Try.ntmps35
        go_wp2
        go_ret
        exact ⟨ret_bool (by unfold fitsB rightB; rw [Bool.eq_iff_iff]; simp; omega), (Below.refl _ _).alloc (Nat.le_refl _) _⟩
    · go_enter Try.func35, Try.ntmps35
      go_wp2
      go_ret
      exact ⟨ret_bool (by unfold fitsB rightB; rw [if_neg h0, Bool.eq_iff_iff]; simp; omega), (Below.refl _ _).alloc (Nat.le_refl _) _⟩

theorem any_take {α : Type} (p : α → Bool) (rs : List α) (i : Nat) (hi : i < rs.length) (h : (rs.take i).any p = false) : (rs.take (i + 1)).any p = p rs[i] := by
  rw [List.take_succ_eq_append_getElem hi, List.any_append, h]; simp
theorem any_hit {α : Type} (p : α → Bool) (rs : List α) (i : Nat) (hi : i < rs.length) (h : p rs[i] = true) : rs.any p = true :=
  List.any_eq_true.2 ⟨rs[i], List.getElem_mem _, h⟩

set_option maxHeartbeats 2000000 in
theorem rcheck_any (S : Nat → Prop) (A : Option Addr) (base : Nat) (cb : Nat) (hbase : base ≤ 9223372036854775807) (B : Option Addr) (rs : List OpR) (c : Nat) (hn : rs.length ≤ 9223372036854775807) (w : World) (h : OpsAt S w B rs) :
    Calls Try.prog 20 #[.slice A base cb, .slice B rs.length c] w fun e w' => e = .returned (.int .i64 (checkS base rs)) ∧ Below w.heap.size w w' := by
  by_cases hlim : 200 < rs.length ∨ 65536 < base
  · have hS : checkS base rs = 3 := by unfold checkS; rw [if_pos hlim]
    rw [hS]
    by_cases h2 : 200 < rs.length
    · clear h
      go_enter Try.func20, Try.ntmps20
      go_wp2
      go_ret
      exact ⟨rfl, Below.refl _ _⟩
    · have h3 : 65536 < base := by omega
      clear h
      go_enter Try.func20, Try.ntmps20
      go_wp2
      go_ret
      exact ⟨rfl, Below.refl _ _⟩
  · have b1 : rs.length ≤ 200 := by omega
    have b2 : base ≤ 65536 := by omega
    have HL0 := hid hlim
    clear hlim
    go_enter Try.func20, Try.ntmps20
    go_wp2
    go_loopw [5, 6] (fun lv iv wr => ∃ (i : Nat) (left : Int), i ≤ rs.length ∧ iv = .int .i64 (i : Int) ∧ lv = .int .i64 left ∧ 0 ≤ left ∧ left ≤ 65536 ∧ limB 65536 rs = limB left (rs.drop i) ∧ Below w.heap.size w wr) (fun _ iv _ => rs.length - (intOf iv).toNat)
    case atStart => exact ⟨0, 65536, by omega, rfl, rfl, by omega, by omega, rfl, Below.refl _ _⟩
    case round =>
      obtain ⟨i, left, hi, rfl, rfl, hl0, hl1, hlim, hB⟩ := hrel
      have HL := hid hlim
      clear hlim
      by_cases hlt : i < rs.length
      · have hr := h.below hB
        obtain ⟨b, o, rfl, hs, c0, c1, c2⟩ := hr.at_ i hlt
        have hm : rs[i].dat.length ≤ 9223372036854775807 := by have := (h.ok _ (List.getElem_mem hlt)).cap1; have := (h.ok _ (List.getElem_mem hlt)).cap2; unfold maxLen at this; omega
        have HR := hid hr
        clear h hr
        have hp := amount_pos rs[i]
        by_cases hov : left < amountZ rs[i]
        · go_wp2_with (go_at_call 34; refine (amount_any rs[i] hm _).mono ?_; rintro e w' ⟨rfl, hB'⟩)
          go_ret
          refine ⟨ret_int ?_, hB.trans (hB'.mono hB.size)⟩
          unfold checkS
          rw [if_neg HL0.out, if_pos (lim_over hlt HL.out hov)]
        · go_wp2_with fail
          refine (amount_any rs[i] hm _).mono ?_
          rintro e w1 ⟨rfl, hB1⟩
          have d0 := cell_later hB1 c0
          have d1 := cell_later hB1 c1
          have d2 := cell_later hB1 c2
          go_wp2_with fail
          refine (amount_any rs[i] hm _).mono ?_
          rintro e w2 ⟨rfl, hB2⟩
          have hBB := (hB.trans (hB1.mono hB.size)).trans (hB2.mono (Nat.le_trans hB.size hB1.size))
          go_wp2_with fail
          go_roundw
          case rel => exact ⟨i + 1, left - amountZ rs[i], by omega, by go_num, rfl, by omega, by omega, lim_step hlt HL.out (by omega), hBB⟩
          case measure => simp [intOf]; omega
      · have hnl : limB 65536 rs = false := by
          rw [HL.out, List.drop_of_length_le (by omega)]; rfl
        have HN := hid hnl
        clear hnl
        go_wp2
        go_loopw [7] (fun iv wr => ∃ (j : Nat), j ≤ rs.length ∧ iv = .int .i64 (j : Int) ∧ (rs.take j).any (badB base) = false ∧ Below w.heap.size w wr) (fun iv _ => rs.length - (intOf iv).toNat)
        case atStart => exact ⟨0, by omega, rfl, by simp, hB⟩
        case round =>
          obtain ⟨j, hj, rfl, hany, hB2⟩ := hrel
          have HA := hid hany
          clear hany
          by_cases hlt2 : j < rs.length
          · obtain ⟨b, o, rfl, hs, c0, c1, c2⟩ := (h.below hB2).at_ j hlt2
            have hm : rs[j].dat.length ≤ 9223372036854775807 := by have := (h.ok _ (List.getElem_mem hlt2)).cap1; have := (h.ok _ (List.getElem_mem hlt2)).cap2; unfold maxLen at this; omega
            clear h
            obtain ⟨v, hv⟩ : ∃ v, fitsB rs[j].fr rs[j].sz rs[j].dat.length base = v := ⟨_, rfl⟩
            cases v with
            | true =>
              go_wp2_with (go_at_call 35; refine (rright_any rs[j] base hm (by omega) _).mono ?_; rintro e w' ⟨rfl, hB'⟩)
              go_roundw
              case rel => exact ⟨j + 1, by omega, by go_num, by rw [any_take _ _ _ hlt2 HA.out]; unfold badB; rw [hv]; rfl, hB2.trans (hB'.mono hB2.size)⟩
              case measure => simp [intOf]; omega
            | false =>
              go_wp2_with (go_at_call 35; refine (rright_any rs[j] base hm (by omega) _).mono ?_; rintro e w' ⟨rfl, hB'⟩)
              go_ret
              refine ⟨ret_int ?_, hB2.trans (hB'.mono hB2.size)⟩
              unfold checkS
              rw [if_neg HL0.out, HN.out, any_hit (badB base) rs j hlt2 (by unfold badB; rw [hv]; rfl)]
              rfl
          · go_wp2
            go_ret
            refine ⟨ret_int ?_, hB2⟩
            unfold checkS
            have h1 := HA.out
            rw [show j = rs.length by omega, List.take_length] at h1
            rw [if_neg HL0.out, HN.out, h1]
            rfl
end Go.Proofs.Ytohgjljcdnjajaa
