/- The walk of the law that states the fingerprint. -/
import Derived.Test.YtbfjfcengmkgmaaLawLength
namespace Go.Proofs.Ytbfjfcengmkgmaa
open Go.RowKit

theorem of_int (S : Nat → Prop) (n : Nat) (hn : n < 18446744073709551616) (kind : Int) (A : Option Addr) (l : List UInt8) (c : Nat) (w : World) (hb : Bts S w A l) (hl : l.length ≤ 65536) (hcap : l.length ≤ c) :
    Calls Try.prog 10 #[.int .u64 (n : Int), .int .i64 kind, .slice A l.length c] w fun e w' => e = .returned (.int .u64 (ux (ofV (BitVec.ofNat 64 n) kind l))) ∧ Below w.heap.size w w' := by
  have e : (n : Int) = ux (BitVec.ofNat 64 n) := by unfold ux; rw [BitVec.toNat_ofNat, Nat.mod_eq_of_lt (by omega)]
  rw [e]
  exact of_any S _ kind A l c w hb hl hcap
theorem rof_int (S : Nat → Prop) (n : Nat) (hn : n < 18446744073709551616) (kind : Int) (A : Option Addr) (l : List UInt8) (c : Nat) (w : World) (hb : Bts S w A l) (hl : l.length ≤ 65536) :
    Calls Try.prog 11 #[.int .u64 (n : Int), .int .i64 kind, .slice A l.length c] w fun e w' => e = .returned (.int .u64 (ux (ofV (BitVec.ofNat 64 n) kind l))) ∧ w = w' := by
  have e : (n : Int) = ux (BitVec.ofNat 64 n) := by unfold ux; rw [BitVec.toNat_ofNat, Nat.mod_eq_of_lt (by omega)]
  rw [e]
  exact rof_any S _ kind A l c w hb hl

/-- Three slices of bytes in block g. -/
def Three (w : World) (g : Nat) : Prop := ∀ j, j < 3 → ∃ A c, ∃ l : List UInt8, w.cell? ⟨g, j, none⟩ = some (.slice A l.length c) ∧ l.length ≤ c ∧ l.length ≤ maxLen ∧ Bts (fun _ => False) w A l
theorem Three.below {w w' : World} {g : Nat} (h : Three w g) (hb : Below w.heap.size w w') : Three w' g := fun j hj => by
  obtain ⟨A, c, l, h1, h2, h3, h4⟩ := h j hj
  exact ⟨A, c, l, cell_later hb h1, h2, h3, h4.below hb⟩

set_option maxHeartbeats 1000000 in
theorem of_walk (a0 : Option Addr) (len0 cap0 : Nat) (z0 : List Int) (key : BitVec 64) (kind : Int) (a3 : Option Addr) (c3 : Nat) (l3 : List UInt8) (w : World) (w0 : IsRow .i64 w a0 len0 cap0 z0) (h3 : Bts (fun b => w.heap.size ≤ b) w a3 l3) (h3c : l3.length ≤ c3) (h3m : c3 ≤ maxLen) :
    Calls Try.prog 3 #[.slice a0 len0 cap0, .int .u64 (ux key), .int .i64 kind, .slice a3 l3.length c3] w fun e w' => e = .returned (.bool true) ∧ Below w.heap.size w w' := by
  have ht : TapeOK 27 (w.alloc (.cells #[.slice a0 len0 cap0, .int .i64 0] 27)) w.heap.size := w0.tape
  have hm : l3.length ≤ 9223372036854775807 := by unfold maxLen at h3m; omega
  go_enter Try.func3, Try.ntmps3
  go_wp2_with (first
    | (go_at_call 9; refine (next_any _ _ _ ht (by omega) (by omega)).mono ?_; rintro e w1 ⟨x, rfl, hx0, hx1, ht1, hk1⟩; have hs1 : w.heap.size < w1.heap.size := by have := hk1.size; simp at this; omega)
    | (go_at_call 8; refine (bytes_out _ _ _ ht1 (by omega) (by omega) hs1).mono ?_; rintro e w2 ⟨A, c, l, rfl, hl, hlc, hb, ht2, hk2⟩; have hl7 : l.length ≤ 30 := (by omega); clear hl))
  go_loopw [11] (fun iv wr => ∃ i : Nat, i ≤ 3 ∧ iv = .int .i64 (i : Int) ∧ Three wr w2.heap.size ∧ Below w.heap.size w wr) (fun iv _ => 3 - (intOf iv).toNat)
  case atStart =>
    have hs2 := hk2.size
    have hE1 : Below w.heap.size w w1 := ((Below.refl _ _).alloc (Nat.le_refl _) _).trans (hk1.to_below (fun k hk => by omega))
    have hE2 : Below w.heap.size w w2 := hE1.trans (hk2.to_below (fun k hk => by rcases hk with hk | hk <;> omega))
    have hE3 := hE2.alloc (by omega) (.cells #[.slice a3 l3.length c3, .slice A l.length c, .slice none 0 0] 24)
    refine ⟨0, by omega, rfl, fun j hj => ?_, hE3⟩
    rw [(Blk.new w2 24 _).cell j]
    match j, hj with
    | 0, _ => exact ⟨_, _, l3, rfl, h3c, by omega, (h3.below hE3).mono (fun _ h => h.elim)⟩
    | 1, _ => exact ⟨_, _, l, rfl, hlc, by unfold maxLen; omega, Cells.alloc (hb.mono (fun _ h => h.elim)) _⟩
    | 2, _ => exact ⟨_, _, [], rfl, Nat.le_refl _, by simp, Cells.nil _ _ _⟩
  case round =>
    obtain ⟨i, hi, rfl, hT, hB⟩ := hrel
    by_cases hlt : i < 3
    · obtain ⟨A1, c1, l1, hc1, hlc1, hlm1, hb1⟩ := hT i hlt
      have hm1 : l1.length ≤ 9223372036854775807 := by unfold maxLen at hlm1; omega
      have HT := hid hT
      clear hT
      by_cases hlen : 4000 < l1.length
      · go_wp2
        go_roundw
        case rel => exact ⟨i + 1, by omega, by go_num, HT.out, hB⟩
        case measure => simp [intOf]; omega
      · have hX := fun x : Later wr => Later.cell hc1 x
        go_wp2
        refine wp_region_class (fun x : Later wr => x.val) (by kernel_rfl) (by kernel_rfl) (Later.drew wr) rfl ?_
        repeat (go_big_quiet_step ((first
          | (go_at_call 10; with_reducible refine (of_any (fun _ => False) _ _ _ _ _ _ (hb1.below (Later.prop _)) (by omega) hlc1).mono ?_; rintro e w' ⟨he, hB'⟩; exact ⟨he, Later.then_ _ hB'⟩)
          | (go_at_call 10; with_reducible refine (of_int (fun _ => False) _ (by omega) _ _ _ _ _ (hb1.below (Later.prop _)) (by omega) hlc1).mono ?_; rintro e w' ⟨he, hB'⟩; exact ⟨he, Later.then_ _ hB'⟩)
          | (go_at_call 11; with_reducible refine (rof_any (fun _ => False) _ _ _ _ _ _ (hb1.below (Later.prop _)) (by omega)).mono ?_; rintro e w' ⟨he, hB'⟩; exact ⟨he, Later.same _ hB'⟩)
          | (go_at_call 11; with_reducible refine (rof_int (fun _ => False) _ (by omega) _ _ _ _ _ (hb1.below (Later.prop _)) (by omega)).mono ?_; rintro e w' ⟨he, hB'⟩; exact ⟨he, Later.same _ hB'⟩))))
        refine wpQuiet_nil ?_
        rintro w' ⟨x, rfl⟩
        have hxB := x.2
        go_wp2
        go_roundw
        case rel => exact ⟨i + 1, by omega, by go_num, HT.out.below hxB, hB.trans (hxB.mono hB.size)⟩
        case measure => simp [intOf]; omega
    · go_wp2_with (first
        | (go_at_call 12; refine (mix_any _ _).mono ?_; rintro e w' ⟨rfl, rfl⟩)
        | (go_at_call 13; refine (rmix_any _ _).mono ?_; rintro e w' ⟨rfl, rfl⟩)
        | (go_at_call 14; refine (awake_any _).mono ?_; rintro e w' ⟨rfl, hB'⟩))
      go_ret
      exact ⟨rfl, hB.trans (hB'.mono hB.size)⟩
end Go.Proofs.Ytbfjfcengmkgmaa
