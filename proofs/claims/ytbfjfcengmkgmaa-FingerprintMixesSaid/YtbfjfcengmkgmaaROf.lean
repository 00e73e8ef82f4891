/- The contract of the reference's Of. -/
import Derived.Test.YtbfjfcengmkgmaaMix
namespace Go.Proofs.Ytbfjfcengmkgmaa
open Go.RowKit

@[irreducible] def ofV (key : BitVec 64) (kind : Int) (l : List UInt8) : BitVec 64 := if 65536 < l.length then 0 else Fp.ofB key (BitVec.ofInt 64 kind) l

set_option maxHeartbeats 1000000 in
theorem rof_any (S : Nat → Prop) (key : BitVec 64) (kind : Int) (A : Option Addr) (l : List UInt8) (c : Nat) (w : World) (hb : Bts S w A l) (hl : l.length ≤ 65536) :
    Calls Try.prog 11 #[.int .u64 (ux key), .int .i64 kind, .slice A l.length c] w fun e w' => e = .returned (.int .u64 (ux (ofV key kind l))) ∧ w = w' := by
  have e1 := wrap_u64_xor (Fp.mixB key) kind
  have e2 := nat_u64_xor (Fp.mixB (xk (Fp.mixB key) kind)) l.length (by omega)
  go_enter Try.func11, Try.ntmps11
  go_wp2_with (go_at_call 13; refine (rmix_any _ _).mono ?_; rintro e w' ⟨rfl, rfl⟩)
  clear e1 e2
  go_loop [7, 8] (fun h i => ∃ j : Nat, j ≤ (l.length + 7) / 8 ∧ i = .int .i64 ((8 * j : Nat) : Int) ∧ h = .int .u64 (ux (Fp.absN (Fp.start key (BitVec.ofInt 64 kind) l.length) l j))) (fun _ i => l.length + 8 - (intOf i).toNat)
  case atStart => exact ⟨0, by omega, rfl, rfl⟩
  case round =>
    obtain ⟨j, hj, rfl, rfl⟩ := hrel
    by_cases hlt : 8 * j < l.length
    · go_wp2
      go_loop [9, 10] (fun wv kv => ∃ k : Nat, k ≤ 8 ∧ 8 * j + k ≤ l.length ∧ kv = .int .i64 (k : Int) ∧ wv = .int .u64 (ux (Fp.wordN ((l.drop (8 * j)).take 8) k))) (fun _ i => 8 - (intOf i).toNat)
      case atStart => exact ⟨0, by omega, by omega, rfl, rfl⟩
      case round =>
        obtain ⟨k, hk8, hkl, rfl, rfl⟩ := hrel
        by_cases h8 : k < 8
        · by_cases hkk : 8 * j + k < l.length
          · obtain ⟨ad, rfl, hs, hc⟩ := hb.at_ (8 * j + k) hkk
            have hbd := byt_bd l (8 * j + k)
            go_wp2
            go_round
            case rel => exact ⟨k + 1, by omega, by omega, by go_num, by rw [word_next l j k h8]⟩
            case measure => simp [intOf]; omega
          · have e3 := ux_xor (Fp.absN (Fp.start key (BitVec.ofInt 64 kind) l.length) l j) (Fp.wordN ((l.drop (8 * j)).take 8) k)
            go_wp2_with (go_at_call 13; refine (rmix_any _ _).mono ?_; rintro e w' ⟨rfl, rfl⟩)
            go_round
            case rel => exact ⟨j + 1, by omega, by go_num, by rw [step_ux, word_done l j k hk8 hkl (by omega)]; rfl⟩
            case measure => simp [intOf]; omega
        · have e3 := ux_xor (Fp.absN (Fp.start key (BitVec.ofInt 64 kind) l.length) l j) (Fp.wordN ((l.drop (8 * j)).take 8) k)
          go_wp2_with (go_at_call 13; refine (rmix_any _ _).mono ?_; rintro e w' ⟨rfl, rfl⟩)
          go_round
          case rel => exact ⟨j + 1, by omega, by go_num, by rw [step_ux, word_done l j k hk8 hkl (by omega)]; rfl⟩
          case measure => simp [intOf]; omega
    · go_wp2
      go_ret
      have hj' : j = (l.length + 7) / 8 := by omega
      subst hj'
      refine ⟨?_, rfl⟩
      unfold ofV
      rw [if_neg (by omega)]
      rfl
end Go.Proofs.Ytbfjfcengmkgmaa
