/- The contracts of Mix. -/
import Derived.Test.YtbfjfcengmkgmaaBase
import Derived.Test.YtbfjfcengmkgmaaMath
namespace Go.Proofs.Ytbfjfcengmkgmaa
open Go.RowKit

/-- A number of 64 bits as the model has it. -/
def ux (x : BitVec 64) : Int := (x.toNat : Int)
theorem ux_bd (x : BitVec 64) : 0 ≤ ux x ∧ ux x ≤ 18446744073709551615 := by unfold ux; have := x.isLt; omega

theorem bits_u64 (x y : BitVec 64) : bits BinOp.xor IntKind.u64 (x.toNat : Int) (y.toNat : Int) = ((x ^^^ y).toNat : Int) := by
  rw [bits_xor_u64_nat _ _ x.isLt y.isLt, BitVec.toNat_xor]
theorem bor_u64 (x y : BitVec 64) : bits BinOp.or IntKind.u64 (x.toNat : Int) (y.toNat : Int) = ((x ||| y).toNat : Int) := by
  rw [bits_or_u64_nat _ _ x.isLt y.isLt, BitVec.toNat_or]
theorem mul_u64 (x : BitVec 64) (c : Nat) (hc : c < 18446744073709551616) : IntKind.u64.wrap ((x.toNat : Int) * (c : Int)) = ((x * BitVec.ofNat 64 c).toNat : Int) := by
  rw [IntKind.wrap_u64, BitVec.toNat_mul, BitVec.toNat_ofNat, Nat.mod_eq_of_lt hc]
  simp
theorem add_u64 (x : BitVec 64) (c : Nat) (hc : c < 18446744073709551616) : IntKind.u64.wrap ((x.toNat : Int) + (c : Int)) = ((x + BitVec.ofNat 64 c).toNat : Int) := by
  rw [IntKind.wrap_u64, BitVec.toNat_add, BitVec.toNat_ofNat, Nat.mod_eq_of_lt hc]
  simp
theorem shr_u64 (x : BitVec 64) (s : Nat) : (x.toNat : Int) / ((2 ^ s : Nat) : Int) = ((x >>> s).toNat : Int) := by
  rw [BitVec.toNat_ushiftRight, Nat.shiftRight_eq_div_pow]; simp
theorem wrap_nat_u64 (x : BitVec 64) : IntKind.u64.wrap (x.toNat : Int) = (x.toNat : Int) := by
  rw [IntKind.wrap_u64]; have := x.isLt; omega
theorem wrap_int_u64 (k : Int) : IntKind.u64.wrap k = ((BitVec.ofInt 64 k).toNat : Int) := by
  rw [IntKind.wrap_u64, BitVec.toNat_ofInt]; simp; omega

theorem mix_eq (x : BitVec 64) : Fp.mixB x = (((x ^^^ (x >>> 30)) * 13787848793156543929#64) ^^^ (((x ^^^ (x >>> 30)) * 13787848793156543929#64) >>> 27)) * 10723151780598845931#64 ^^^
    ((((x ^^^ (x >>> 30)) * 13787848793156543929#64) ^^^ (((x ^^^ (x >>> 30)) * 13787848793156543929#64) >>> 27)) * 10723151780598845931#64) >>> 31 := rfl

theorem mix_val (x : BitVec 64) : bits BinOp.xor IntKind.u64
    (IntKind.u64.wrap (bits BinOp.xor IntKind.u64 (IntKind.u64.wrap (bits BinOp.xor IntKind.u64 (x.toNat : Int) ((x.toNat : Int) / 1073741824) * 13787848793156543929))
      (IntKind.u64.wrap (bits BinOp.xor IntKind.u64 (x.toNat : Int) ((x.toNat : Int) / 1073741824) * 13787848793156543929) / 134217728) * 10723151780598845931))
    (IntKind.u64.wrap (bits BinOp.xor IntKind.u64 (IntKind.u64.wrap (bits BinOp.xor IntKind.u64 (x.toNat : Int) ((x.toNat : Int) / 1073741824) * 13787848793156543929))
      (IntKind.u64.wrap (bits BinOp.xor IntKind.u64 (x.toNat : Int) ((x.toNat : Int) / 1073741824) * 13787848793156543929) / 134217728) * 10723151780598845931) / 2147483648)
    = ((Fp.mixB x).toNat : Int) := by
  have s30 := fun x : BitVec 64 => shr_u64 x 30
  have s27 := fun x : BitVec 64 => shr_u64 x 27
  have s31 := fun x : BitVec 64 => shr_u64 x 31
  have m1 := fun x : BitVec 64 => mul_u64 x 13787848793156543929 (by omega)
  have m2 := fun x : BitVec 64 => mul_u64 x 10723151780598845931 (by omega)
  simp only [Nat.reducePow, Int.cast_ofNat_Int] at s30 s27 s31 m1 m2
  simp only [s30, s27, s31, m1, m2, bits_u64]
  rw [mix_eq]

set_option maxHeartbeats 400000 in
theorem mix_any (x : BitVec 64) (w : World) :
    Calls Try.prog 12 #[.int .u64 (ux x)] w fun e w' => e = .returned (.int .u64 (ux (Fp.mixB x))) ∧ w = w' := by
  unfold ux
  have h1 : (x.toNat : Int) ≤ 18446744073709551615 := by have := x.isLt; omega
  have M := hid (mix_val x)
  go_enter Try.func12, Try.ntmps12
  go_wp2
  go_ret
  exact ⟨by rw [← M.out]; rfl, rfl⟩

set_option maxHeartbeats 400000 in
theorem rmix_any (x : BitVec 64) (w : World) :
    Calls Try.prog 13 #[.int .u64 (ux x)] w fun e w' => e = .returned (.int .u64 (ux (Fp.mixB x))) ∧ w = w' := by
  unfold ux
  have h1 : (x.toNat : Int) ≤ 18446744073709551615 := by have := x.isLt; omega
  have M := hid (mix_val x)
  go_enter Try.func13, Try.ntmps13
  go_wp2
  go_ret
  exact ⟨by rw [← M.out]; rfl, rfl⟩

theorem wf_ux (v : Int) (h : (Lit.int .u64 v).wf = true) : ∃ x, v = ux x := by
  refine ⟨BitVec.ofInt 64 v, ?_⟩
  simp [Lit.wf, IntKind.min, IntKind.max, IntKind.bits, IntKind.signed] at h
  unfold ux
  rw [BitVec.toNat_ofInt]; simp; omega
def xk (x : BitVec 64) (k : Int) : BitVec 64 := x ^^^ BitVec.ofInt 64 k
def xn (x : BitVec 64) (n : Nat) : BitVec 64 := x ^^^ BitVec.ofNat 64 n
theorem wrap_u64_xor (x : BitVec 64) (k : Int) : bits BinOp.xor IntKind.u64 (ux x) (IntKind.u64.wrap k) = ux (xk x k) := by
  unfold ux xk
  rw [wrap_int_u64, bits_u64]
theorem nat_u64_xor (x : BitVec 64) (n : Nat) (h : n < 18446744073709551616) : bits BinOp.xor IntKind.u64 (ux x) (n : Int) = ux (xn x n) := by
  unfold ux xn
  rw [← bits_u64, BitVec.toNat_ofNat, Nat.mod_eq_of_lt (by omega)]
theorem ux_xor (x y : BitVec 64) : bits BinOp.xor IntKind.u64 (ux x) (ux y) = ux (x ^^^ y) := by
  unfold ux
  rw [bits_u64]
theorem or_shift (x : BitVec 64) (b k : Nat) : bits BinOp.or IntKind.u64 (ux x) (IntKind.u64.wrap ((b : Int) * 2 ^ (8 * k))) = ux (x ||| (BitVec.ofNat 64 b <<< (8 * k))) := by
  have e : IntKind.u64.wrap ((b : Int) * 2 ^ (8 * k)) = ux (BitVec.ofNat 64 b <<< (8 * k)) := by
    unfold ux
    rw [IntKind.wrap_u64, BitVec.toNat_shiftLeft, BitVec.toNat_ofNat, Nat.shiftLeft_eq]
    have h2 : ((2 : Int) ^ (8 * k)) = ((2 ^ (8 * k) : Nat) : Int) := by simp
    rw [h2, ← Int.natCast_mul]
    have h3 : (18446744073709551616 : Int) = ((18446744073709551616 : Nat) : Int) := rfl
    rw [h3, ← Int.natCast_emod]
    congr 1
    rw [show (2 : Nat) ^ 64 = 18446744073709551616 from rfl]
    conv => rhs; rw [Nat.mul_mod, Nat.mod_mod, ← Nat.mul_mod]
  rw [e]
  unfold ux
  rw [bor_u64]

theorem chunk_getD (l : List UInt8) (j k : Nat) (hk : k < 8) : ((l.drop (8 * j)).take 8).getD k 0 = l.getD (8 * j + k) 0 := by
  simp [List.getD, hk]

theorem word_next (l : List UInt8) (j k : Nat) (hk : k < 8) :
    bits BinOp.or IntKind.u64 (ux (Fp.wordN ((l.drop (8 * j)).take 8) k)) (IntKind.u64.wrap (byt l (8 * j + k) * 2 ^ (8 * k))) = ux (Fp.wordN ((l.drop (8 * j)).take 8) (k + 1)) := by
  rw [Fp.wordN, chunk_getD l j k hk]
  exact or_shift _ _ _

theorem word_done (l : List UInt8) (j k : Nat) (h8 : k ≤ 8) (hk : 8 * j + k ≤ l.length) (hd : k = 8 ∨ 8 * j + k = l.length) : Fp.wordN ((l.drop (8 * j)).take 8) k = Fp.word ((l.drop (8 * j)).take 8) := by
  unfold Fp.word
  congr 1
  rw [List.length_take, List.length_drop]
  omega

theorem step_ux (h w : BitVec 64) : IntKind.u64.wrap (ux (Fp.mixB (h ^^^ w)) + 11400714819323198485) = ux (Fp.step h w) := by
  have := add_u64 (Fp.mixB (h ^^^ w)) 11400714819323198485 (by omega)
  unfold ux Fp.step
  exact this
end Go.Proofs.Ytbfjfcengmkgmaa
