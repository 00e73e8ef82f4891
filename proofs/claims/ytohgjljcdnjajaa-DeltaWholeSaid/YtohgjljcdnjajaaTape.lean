/- The contracts of the tape of numbers. -/
import Derived.Test.YtohgjljcdnjajaaBase
namespace Go.Proofs.Ytohgjljcdnjajaa
open Go.RowKit

theorem and_ffff (x : Int) : 0 ≤ bits .and .i64 x 65535 ∧ bits .and .i64 x 65535 ≤ 65535 := by
  have h0 : bits .and .i64 x 65535 = IntKind.i64.wrap ((BitVec.ofInt 64 x &&& BitVec.ofInt 64 65535).toNat : Int) := rfl
  have h1 : (BitVec.ofInt 64 x &&& BitVec.ofInt 64 65535).toNat ≤ 65535 := by
    rw [BitVec.toNat_and]
    exact Nat.le_trans Nat.and_le_right (by decide)
  rw [h0, Go.IntWalk.i64_in _ (by omega)]
  omega

theorem TapeAt.step {T : TypeId} {w : World} {tb : Nat} {A : Option Addr} {n c : Nat} {zs : Nat → Int} {k m : Nat} (h : TapeAt T w tb A n c zs k) (hk : k < n) :
    TapeOK T ((w.drewN m).setCell ⟨tb, 1, none⟩ (.int .i64 ((k : Int) + 1))) tb := by
  obtain ⟨hb, _, hn, hz⟩ := h
  refine ⟨A, n, c, zs, k + 1, ?_, by omega, hn, fun i hi => ?_⟩
  · have := (hb.drewN m).set_ 1 (.int .i64 ((k : Int) + 1))
    simpa using this
  · obtain ⟨ad, e, had, hc⟩ := hz i hi
    refine ⟨ad, e, had, ?_⟩
    rw [World.cell?_setCell_other _ _ _ _ (fun e => by have := congrArg Addr.block e; rw [block_of_add] at this; simp at this; omega)]
    exact hc

set_option maxHeartbeats 400000 in
theorem next_at (w : World) (tb : Nat) (m : Int) (A : Option Addr) (n c : Nat) (zs : Nat → Int) (k : Nat) (h : TapeAt 27 w tb A n c zs k) (h1 : 1 ≤ m) (h2 : m ≤ 65536) :
    Calls Try.prog 11 #[.pointer (some ⟨tb, 0, none⟩), .int .i64 m] w fun e w' => ∃ x : Int, e = .returned (.int .i64 x) ∧ 0 ≤ x ∧ x < m ∧ TapeOK 27 w' tb ∧ Keep (fun k => k = tb) w w' := by
  have H := hid h
  obtain ⟨hb, hk, hn, hz⟩ := h
  have c0 := hb.cell 0
  have c1 := hb.cell 1
  have f1 := hb.frozen 1
  simp at c0 c1
  have hb' := hid hb
  clear hb
  by_cases hlt : k < n
  · obtain ⟨ad, rfl, had, hc⟩ := hz k hlt
    have HZ := hid hz
    clear hz
    obtain ⟨g0, g1⟩ := and_ffff (zs k)
    go_enter Try.func11, Try.ntmps11
    go_wp2
    go_quiet (fail)
    go_wp2
    go_quiet (fail)
    go_wp2
    go_ret
    exact ⟨bits BinOp.and IntKind.i64 (zs k) 65535 % m, rfl, Int.emod_nonneg _ (by omega), Int.emod_lt_of_pos _ (by omega), H.out.step hlt, ((Keep.refl (fun k => k = tb) w).drewN _).setCell (p := ⟨tb, 1, none⟩) rfl _⟩
  · go_enter Try.func11, Try.ntmps11
    go_wp2
    go_quiet (fail)
    go_wp2
    go_ret
    exact ⟨0, rfl, by omega, by omega, ⟨A, n, c, zs, k, hb'.out, hk, hn, hz⟩, (Keep.refl _ _).drewN _⟩

theorem next_any (w : World) (tb : Nat) (m : Int) (h : TapeOK 27 w tb) (h1 : 1 ≤ m) (h2 : m ≤ 65536) :
    Calls Try.prog 11 #[.pointer (some ⟨tb, 0, none⟩), .int .i64 m] w fun e w' => ∃ x : Int, e = .returned (.int .i64 x) ∧ 0 ≤ x ∧ x < m ∧ TapeOK 27 w' tb ∧ Keep (fun k => k = tb) w w' := by
  obtain ⟨A, n, c, zs, k, h⟩ := h
  exact next_at w tb m A n c zs k h h1 h2

set_option maxHeartbeats 400000 in
theorem between_any (w : World) (tb : Nat) (a b : Int) (h : TapeOK 27 w tb) (h1 : a ≤ b) (h2 : b - a < 65536) (ha : -65536 ≤ a) (hb : b ≤ 65536) :
    Calls Try.prog 27 #[.pointer (some ⟨tb, 0, none⟩), .int .i64 a, .int .i64 b] w fun e w' => ∃ x : Int, e = .returned (.int .i64 x) ∧ a ≤ x ∧ x ≤ b ∧ TapeOK 27 w' tb ∧ Keep (fun k => k = tb) w w' := by
  have H := hid h
  clear h
  go_enter Try.func27, Try.ntmps27
  go_wp2_with (go_at_call 11; refine (next_any _ _ _ H.out (by omega) (by omega)).mono ?_; rintro e w' ⟨x, rfl, hx0, hx1, ht, hk⟩)
  go_ret
  exact ⟨a + x, rfl, by omega, by omega, ht, hk⟩
end Go.Proofs.Ytohgjljcdnjajaa
