/- The walk of the law on texts with the same fingerprint. -/
import Derived.Test.YtbfjfcengmkgmaaLawOf
namespace Go.Proofs.Ytbfjfcengmkgmaa
open Go.RowKit

set_option maxHeartbeats 1000000 in
theorem same_walk (a0 : Option Addr) (len0 cap0 : Nat) (z0 : List Int) (key : BitVec 64) (kind : Int) (A : Option Addr) (c : Nat) (a : List UInt8) (B : Option Addr) (d : Nat) (b : List UInt8) (w : World) (w0 : IsRow .i64 w a0 len0 cap0 z0)
    (ha : Bts (fun b => w.heap.size ≤ b) w A a) (hac : a.length ≤ c) (ham : c ≤ maxLen) (hb : Bts (fun b => w.heap.size ≤ b) w B b) (hbd : b.length ≤ d) (hbm : d ≤ maxLen) :
    Calls Try.prog 6 #[.slice a0 len0 cap0, .int .u64 (ux key), .int .i64 kind, .slice A a.length c, .slice B b.length d] w fun e w' => e = .returned (.bool true) ∧ Below w.heap.size w w' := by
  have ht : TapeOK 27 (w.alloc (.cells #[.slice a0 len0 cap0, .int .i64 0] 27)) w.heap.size := w0.tape
  have hm1 : a.length ≤ 9223372036854775807 := by unfold maxLen at ham; omega
  have hm2 : b.length ≤ 9223372036854775807 := by unfold maxLen at hbm; omega
  by_cases h4 : 4000 < a.length
  · go_enter Try.func6, Try.ntmps6
    go_wp2_with (go_at_call 14; refine (awake_any _).mono ?_; rintro e w' ⟨rfl, hB'⟩)
    go_ret
    exact ⟨rfl, hB'⟩
  by_cases h5 : 4000 < b.length
  · go_enter Try.func6, Try.ntmps6
    go_wp2_with (go_at_call 14; refine (awake_any _).mono ?_; rintro e w' ⟨rfl, hB'⟩)
    go_ret
    exact ⟨rfl, hB'⟩
  go_enter Try.func6, Try.ntmps6
  go_wp2_with (first
    | (go_at_call 9; refine (next_any _ _ _ ht (by omega) (by omega)).mono ?_; rintro e w1 ⟨x, rfl, hx0, hx1, ht1, hk1⟩; have hs1 : w.heap.size < w1.heap.size := by have := hk1.size; simp at this; omega)
    | (go_at_call 8; refine (bytes_out _ _ _ ht1 (by omega) (by omega) hs1).mono ?_; rintro e w2 ⟨X, cx, x, rfl, hl, hlc, hx, ht2, hk2⟩; have hl7 : x.length ≤ 30 := (by omega); clear hl))
  have hs2 := hk2.size
  have hE1 : Below w.heap.size w w1 := ((Below.refl _ _).alloc (Nat.le_refl _) _).trans (hk1.to_below (fun k hk => by omega))
  have hE : Below w.heap.size w w2 := hE1.trans (hk2.to_below (fun k hk => by rcases hk with hk | hk <;> omega))
  have ha2 : Bts (fun _ => False) w2 A a := (ha.below hE).mono (fun _ h => h.elim)
  have hb2 : Bts (fun _ => False) w2 B b := (hb.below hE).mono (fun _ h => h.elim)
  have hx2 : Bts (fun _ => False) w2 X x := hx.mono (fun _ h => h.elim)
  clear ha hb hx hE1 hk1 hk2 ht1 ht
  refine (same_any _ _ _ _ _ _ _ _ _ _ ha2 hb2 (by omega) (by omega) hac hbd).mono ?_
  rintro e w3 ⟨rfl, hB3⟩
  have ha3 := ha2.below hB3
  have hb3 := hb2.below hB3
  have hx3 := hx2.below hB3
  have hE3 := hE.trans (hB3.mono hE.size)
  go_wp2_with fail
  refine (rsame_any _ _ _ _ _ _ _ _ _ _ ha3 hb3 (by omega) (by omega)).mono ?_
  rintro e w4 ⟨rfl, rfl⟩
  go_wp2_with fail
  refine (same_any _ _ _ _ _ _ _ _ _ _ hx3 hx3 (by omega) (by omega) hlc hlc).mono ?_
  rintro e w5 ⟨rfl, hB5⟩
  have ha5 := ha3.below hB5
  have hx5 := hx3.below hB5
  have hE5 := hE3.trans (hB5.mono hE3.size)
  go_wp2_with fail
  refine (same_any _ _ _ _ _ _ _ _ _ _ ha5 hx5 (by omega) (by omega) hac hlc).mono ?_
  rintro e w6 ⟨rfl, hB6⟩
  have ha6 := ha5.below hB6
  have hx6 := hx5.below hB6
  have hE6 := hE5.trans (hB6.mono hE5.size)
  go_wp2_with fail
  refine (rsame_any _ _ _ _ _ _ _ _ _ _ ha6 hx6 (by omega) (by omega)).mono ?_
  rintro e w7 ⟨rfl, rfl⟩
  go_wp2_with (go_at_call 14; refine (awake_any _).mono ?_; rintro e w' ⟨rfl, hB'⟩)
  go_ret
  exact ⟨rfl, hE6.trans (hB'.mono hE6.size)⟩
end Go.Proofs.Ytbfjfcengmkgmaa
