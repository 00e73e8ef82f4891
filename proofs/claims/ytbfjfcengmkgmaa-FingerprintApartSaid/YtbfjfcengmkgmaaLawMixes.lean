/- The walk of the law that Mix is one to one. -/
import Derived.Test.YtbfjfcengmkgmaaSame
namespace Go.Proofs.Ytbfjfcengmkgmaa
open Go.RowKit

theorem ux_inj {x y : BitVec 64} (h : ux x = ux y) : x = y := by
  unfold ux at h
  exact BitVec.eq_of_toNat_eq (by omega)
theorem ux_beq (x y : BitVec 64) : (ux x == ux y) = decide (x = y) := by
  by_cases h : x = y
  · subst h; simp
  · have : ¬ ux x = ux y := fun e => h (ux_inj e)
    simp [h, this]
theorem mix_test (x y : BitVec 64) : (!((ux x == ux y) == (ux (Fp.mixB x) == ux (Fp.mixB y)))) = false := by
  rw [ux_beq, ux_beq]
  by_cases h : x = y
  · subst h; simp
  · have : ¬ Fp.mixB x = Fp.mixB y := fun e => h (Fp.mixB_inj _ _ e)
    simp [h, this]
theorem u64_of (v : Int) (h0 : 0 ≤ v) (h1 : v ≤ 18446744073709551615) : v = ux (BitVec.ofInt 64 v) := by
  unfold ux
  rw [BitVec.toNat_ofInt]; simp; omega
theorem wrap_ux (k : Int) : IntKind.u64.wrap k = ux (BitVec.ofInt 64 k) := wrap_int_u64 k

def MixRel (w : World) (wr : World) : Prop := (∃ z : Nat → BitVec 64, ∀ i, i < 6 → wr.cell? ⟨w.heap.size, i, none⟩ = some (.int .u64 (ux (z i)))) ∧ Below w.heap.size w wr
theorem MixRel.drewN {w wr : World} (h : MixRel w wr) (k : Nat) : MixRel w (wr.drewN k) := ⟨h.1, h.2.trans (Keep.to_below ((Keep.refl (fun b => w.heap.size ≤ b) wr).drewN k) (fun _ h => h))⟩

theorem MixRel.new (w : World) (v0 v1 v2 v3 v4 v5 : Int) (h0 : ∃ x, v0 = ux x) (h1 : ∃ x, v1 = ux x) (h2 : ∃ x, v2 = ux x) (h3 : ∃ x, v3 = ux x) (h4 : ∃ x, v4 = ux x) (h5 : ∃ x, v5 = ux x) :
    MixRel w (w.alloc (.cells #[.int .u64 v0, .int .u64 v1, .int .u64 v2, .int .u64 v3, .int .u64 v4, .int .u64 v5] 23)) := by
  obtain ⟨x0, rfl⟩ := h0
  obtain ⟨x1, rfl⟩ := h1
  obtain ⟨x2, rfl⟩ := h2
  obtain ⟨x3, rfl⟩ := h3
  obtain ⟨x4, rfl⟩ := h4
  obtain ⟨x5, rfl⟩ := h5
  refine ⟨⟨fun i => #[x0, x1, x2, x3, x4, x5].getD i 0, fun i hi => ?_⟩, (Below.refl _ _).alloc (Nat.le_refl _) _⟩
  rw [(Blk.new w 23 _).cell i]
  match i, hi with
  | 0, _ => rfl
  | 1, _ => rfl
  | 2, _ => rfl
  | 3, _ => rfl
  | 4, _ => rfl
  | 5, _ => rfl

set_option maxHeartbeats 1000000 in
theorem mixes_walk (x y : BitVec 64) (n : Int) (w : World) :
    Calls Try.prog 4 #[.int .u64 (ux x), .int .u64 (ux y), .int .i64 n] w fun e w' => e = .returned (.bool true) ∧ Below w.heap.size w w' := by
  go_enter Try.func4, Try.ntmps4
  go_wp2
  go_loopw [8] (fun iv wr => ∃ i : Nat, i ≤ 6 ∧ iv = .int .i64 (i : Int) ∧ MixRel w wr) (fun iv _ => 6 - (intOf iv).toNat)
  case atStart => exact ⟨0, by omega, rfl, MixRel.new w _ _ _ _ _ _ ⟨x, rfl⟩ ⟨y, rfl⟩ ⟨_, wrap_ux _⟩ ⟨_, wrap_ux _⟩ ⟨_, wrap_ux _⟩ ⟨0, rfl⟩⟩
  case round =>
    obtain ⟨i, hi, rfl, hrel⟩ := hrel
    by_cases hlt : i < 6
    · go_wp2
      go_loopw [9] (fun kv wr => ∃ k : Nat, k ≤ i ∧ kv = .int .i64 (k : Int) ∧ MixRel w wr) (fun kv _ => i - (intOf kv).toNat)
      case atStart => exact ⟨0, by omega, rfl, hrel⟩
      case round =>
        obtain ⟨k, hk, rfl, hrel2⟩ := hrel
        have H2 := hid hrel2
        by_cases hlt2 : k < i
        · obtain ⟨⟨z, hz⟩, hB⟩ := hrel2
          have ci := hz i (by omega)
          have ck := hz k (by omega)
          have ht := mix_test (z i) (z k)
          clear hz
          go_wp2
          go_quiet ((go_at_call 12; exact Calls.quiet_of_same ((mix_any _ _).mono fun e w' ⟨h1, h2⟩ => ⟨h1, h2.symm⟩)))
          go_wp2
          go_roundw
          case rel => exact ⟨k + 1, by omega, by go_num, H2.out.drewN _⟩
          case measure => simp [intOf]; omega
        · go_wp2
          go_roundw
          case rel => exact ⟨i + 1, by omega, by go_num, H2.out⟩
          case measure => simp [intOf]; omega
    · go_wp2_with (go_at_call 14; refine (awake_any _).mono ?_; rintro e w' ⟨rfl, hB⟩)
      go_ret
      exact ⟨rfl, hrel.2.trans (hB.mono hrel.2.size)⟩
end Go.Proofs.Ytbfjfcengmkgmaa
