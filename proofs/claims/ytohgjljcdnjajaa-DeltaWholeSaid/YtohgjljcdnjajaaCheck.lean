/- The contracts of the two Checks. -/
import Derived.Test.YtohgjljcdnjajaaOps
namespace Go.Proofs.Ytohgjljcdnjajaa
open Go.RowKit Go.Shelf

def amountZ (r : OpR) : Int := if 1 ≤ r.sz then r.sz else (r.dat.length : Int)
def limB : Int → List OpR → Bool
  | _, [] => false
  | left, r :: rs => if left < amountZ r then true else limB (left - amountZ r) rs
def badB (base : Nat) (r : OpR) : Bool := !fitsB r.fr r.sz r.dat.length base
@[irreducible] def checkS (base : Nat) (rs : List OpR) : Int :=
  if 200 < rs.length ∨ 65536 < base then 3 else if limB 65536 rs = true then 3 else if rs.any (badB base) = true then 2 else 0

theorem limB_cons (left : Int) (r : OpR) (rs : List OpR) : limB left (r :: rs) = if left < amountZ r then true else limB (left - amountZ r) rs := rfl
theorem amount_pos (r : OpR) : 0 ≤ amountZ r := by unfold amountZ; split <;> omega
/-- The round of the limit. -/
theorem lim_step {rs : List OpR} {left : Int} {i : Nat} (hi : i < rs.length) (h : limB 65536 rs = limB left (rs.drop i)) (hl : amountZ rs[i] ≤ left) : limB 65536 rs = limB (left - amountZ rs[i]) (rs.drop (i + 1)) := by
  rw [h, List.drop_eq_getElem_cons hi, limB_cons, if_neg (by omega)]
theorem lim_over {rs : List OpR} {left : Int} {i : Nat} (hi : i < rs.length) (h : limB 65536 rs = limB left (rs.drop i)) (hl : left < amountZ rs[i]) : limB 65536 rs = true := by
  rw [h, List.drop_eq_getElem_cons hi, limB_cons, if_pos hl]

set_option maxHeartbeats 2000000 in
theorem check_any (S : Nat → Prop) (A : Option Addr) (base : Nat) (cb : Nat) (hbase : base ≤ 9223372036854775807) (B : Option Addr) (rs : List OpR) (c : Nat) (hn : rs.length ≤ 9223372036854775807) (w : World) (h : OpsAt S w B rs) :
    Calls Try.prog 17 #[.slice A base cb, .slice B rs.length c] w fun e w' => e = .returned (.int .i64 (checkS base rs)) ∧ Below w.heap.size w w' := by
  by_cases hlim : 200 < rs.length ∨ 65536 < base
  · have hS : checkS base rs = 3 := by unfold checkS; rw [if_pos hlim]
    rw [hS]
    by_cases h2 : 200 < rs.length
    · clear h
      go_enter Try.func17, Try.ntmps17
      go_wp2
      go_ret
      exact ⟨rfl, (Below.refl _ _).alloc (Nat.le_refl _) _⟩
    · have h3 : 65536 < base := by omega
      clear h
      go_enter Try.func17, Try.ntmps17
      go_wp2
      go_ret
      exact ⟨rfl, (Below.refl _ _).alloc (Nat.le_refl _) _⟩
  · have b1 : rs.length ≤ 200 := by omega
    have b2 : base ≤ 65536 := by omega
    have HL0 := hid hlim
    clear hlim
    go_enter Try.func17, Try.ntmps17
    go_wp2
    go_loopw [5, 19] (fun lv iv wr => ∃ (i : Nat) (left : Int), i ≤ rs.length ∧ iv = .int .i64 (i : Int) ∧ lv = .int .i64 left ∧ 0 ≤ left ∧ left ≤ 65536 ∧ limB 65536 rs = limB left (rs.drop i) ∧ Blk wr w.heap.size 23 #[.slice A base cb] ∧ Below w.heap.size w wr) (fun _ iv _ => rs.length - (intOf iv).toNat)
    case atStart => exact ⟨0, 65536, by omega, rfl, rfl, by omega, by omega, rfl, Blk.new _ _ _, (Below.refl _ _).alloc (Nat.le_refl _) _⟩
    case round =>
      obtain ⟨i, left, hi, rfl, rfl, hl0, hl1, hlim, hbx, hB⟩ := hrel
      have HL := hid hlim
      have HX := hid hbx
      clear hlim hbx
      by_cases hlt : i < rs.length
      · obtain ⟨b, o, rfl, hs, c0, c1, c2⟩ := (h.below hB).at_ i hlt
        have hm : rs[i].dat.length ≤ 9223372036854775807 := by have := (h.ok _ (List.getElem_mem hlt)).cap1; have := (h.ok _ (List.getElem_mem hlt)).cap2; unfold maxLen at this; omega
        clear h
        by_cases hz : 1 ≤ rs[i].sz
        · have ha : amountZ rs[i] = rs[i].sz := by unfold amountZ; rw [if_pos hz]
          have HA := hid ha
          clear ha
          by_cases hov : left < rs[i].sz
          · go_wp2
            go_ret
            refine ⟨ret_int ?_, hB.alloc hB.size _⟩
            unfold checkS
            rw [if_neg HL0.out, if_pos (lim_over hlt HL.out (by rw [HA.out]; exact hov))]
          · go_wp2
            go_roundw
            case rel => exact ⟨i + 1, left - rs[i].sz, by omega, by go_num, rfl, by omega, by omega, by rw [lim_step hlt HL.out (by rw [HA.out]; omega), HA.out], HX.out.alloc _, hB.alloc hB.size _⟩
            case measure => simp [intOf]; omega
        · have ha : amountZ rs[i] = rs[i].dat.length := by unfold amountZ; rw [if_neg hz]
          have HA := hid ha
          clear ha
          by_cases hov : left < rs[i].dat.length
          · go_wp2
            go_ret
            refine ⟨ret_int ?_, hB.alloc hB.size _⟩
            unfold checkS
            rw [if_neg HL0.out, if_pos (lim_over hlt HL.out (by rw [HA.out]; exact hov))]
          · go_wp2
            go_roundw
            case rel => exact ⟨i + 1, left - rs[i].dat.length, by omega, by go_num, rfl, by omega, by omega, by rw [lim_step hlt HL.out (by rw [HA.out]; omega), HA.out], HX.out.alloc _, hB.alloc hB.size _⟩
            case measure => simp [intOf]; omega
      · have hnl : limB 65536 rs = false := by
          rw [HL.out, List.drop_of_length_le (by omega)]; rfl
        have HN := hid hnl
        clear hnl
        have hC := contains_any S B rs c 29 #[.pointer (some ⟨w.heap.size, 0, none⟩)] (badB base) (by omega) wr (h.below hB) (enters_of Try.func29 (by kernel_rfl) rfl)
          (fun j hj w' hw' => bad_any w.heap.size A base cb (by omega) rs[j] (by have := (h.ok _ (List.getElem_mem hj)).cap1; have := (h.ok _ (List.getElem_mem hj)).cap2; unfold maxLen at this; omega) w' (cell_later hw' (by have := HX.out.cell 0; simpa using this)))
        have HC := hid hC
        clear hC h
        obtain ⟨v, hv⟩ : ∃ v, rs.any (badB base) = v := ⟨_, rfl⟩
        cases v with
        | true =>
          go_wp2_with (go_at_call 28; refine HC.out.mono ?_; rintro e w' ⟨rfl, hB'⟩)
          go_ret
          refine ⟨ret_int ?_, hB.trans (hB'.mono hB.size)⟩
          unfold checkS
          rw [if_neg HL0.out, HN.out, hv]
          rfl
        | false =>
          go_wp2_with (go_at_call 28; refine HC.out.mono ?_; rintro e w' ⟨rfl, hB'⟩)
          go_ret
          refine ⟨ret_int ?_, hB.trans (hB'.mono hB.size)⟩
          unfold checkS
          rw [if_neg HL0.out, HN.out, hv]
          rfl
end Go.Proofs.Ytohgjljcdnjajaa
