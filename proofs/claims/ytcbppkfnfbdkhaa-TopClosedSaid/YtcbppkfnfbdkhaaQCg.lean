/- Estates: bits; the reference's state. -/
import Derived.Test.YtcbppkfnfbdkhaaQCf
set_option linter.all false
set_option maxRecDepth 20000
set_option maxHeartbeats 4000000
namespace Go.Proofs.Ytcbppkfnfbdkhaa
open Go.RowKit Go.Shelf
def tb (x c : Int) : Bool := x.toNat.testBit c.toNat
def U64 (x : Int) : Prop := 0 ≤ x ∧ x < 18446744073709551616
theorem u64_bv (v : BitVec 64) : IntKind.u64.wrap (v.toNat : Int) = (v.toNat : Int) := by
  have := v.isLt
  exact wr_u64 ⟨by omega, by omega⟩
theorem u64_U (v : BitVec 64) : U64 (v.toNat : Int) := by
  have := v.isLt
  exact ⟨by omega, by omega⟩
theorem bv_tb {x : Int} (h : U64 x) (c : Int) : (BitVec.ofInt 64 x).getLsbD c.toNat = tb x c := by
  obtain ⟨h0, h1⟩ := h
  unfold tb
  rw [BitVec.getLsbD, BitVec.toNat_ofInt]
  congr 1
  omega
theorem bits_or_U (x y : Int) : U64 (bits .or .u64 x y) := by
  show U64 (IntKind.u64.wrap (((BitVec.ofInt 64 x) ||| (BitVec.ofInt 64 y)).toNat : Int)); rw [u64_bv]; exact u64_U _
theorem bits_an_U (x y : Int) : U64 (bits .andNot .u64 x y) := by
  show U64 (IntKind.u64.wrap (((BitVec.ofInt 64 x) &&& ~~~ (BitVec.ofInt 64 y)).toNat : Int)); rw [u64_bv]; exact u64_U _
theorem tb_or {x y : Int} (hx : U64 x) (hy : U64 y) (c : Int) : tb (bits .or .u64 x y) c = (tb x c || tb y c) := by
  show tb (IntKind.u64.wrap (((BitVec.ofInt 64 x) ||| (BitVec.ofInt 64 y)).toNat : Int)) c = _
  rw [u64_bv, ← bv_tb hx, ← bv_tb hy, ← BitVec.getLsbD_or]
  rfl
theorem tb_an {x y : Int} (hx : U64 x) (hy : U64 y) {c : Int} (hc : 0 ≤ c ∧ c ≤ 63) : tb (bits .andNot .u64 x y) c = (tb x c && !tb y c) := by
  show tb (IntKind.u64.wrap (((BitVec.ofInt 64 x) &&& ~~~ (BitVec.ofInt 64 y)).toNat : Int)) c = _
  rw [u64_bv, ← bv_tb hx, ← bv_tb hy]
  have : (BitVec.ofInt 64 x &&& ~~~ (BitVec.ofInt 64 y)).getLsbD c.toNat = _ := BitVec.getLsbD_and
  rw [BitVec.getLsbD_not] at this
  rw [show decide (c.toNat < 64) = true by simp; omega, Bool.true_and] at this
  exact this
theorem bitv_eq {c : Int} (hc : 0 ≤ c ∧ c ≤ 63) : bitv c = ((2 ^ c.toNat : Nat) : Int) := by
  unfold bitv
  have h1 : min c.toNat 64 = c.toNat := by omega
  have h2 : (2 ^ c.toNat : Nat) ≤ 2 ^ 63 := Nat.pow_le_pow_right (by omega) (by omega)
  rw [h1, Int.one_mul]
  have h3 : ((2 : Int) ^ c.toNat) = ((2 ^ c.toNat : Nat) : Int) := by push_cast; rfl
  rw [h3]
  generalize (2 ^ c.toNat : Nat) = k at h2
  exact wr_u64 ⟨by omega, by omega⟩
theorem bitv_U {c : Int} (hc : 0 ≤ c ∧ c ≤ 63) : U64 (bitv c) := by
  rw [bitv_eq hc]
  have h2 : (2 ^ c.toNat : Nat) ≤ 2 ^ 63 := Nat.pow_le_pow_right (by omega) (by omega)
  generalize (2 ^ c.toNat : Nat) = k at h2
  exact ⟨by omega, by omega⟩
theorem tb_bitv {c d : Int} (hc : 0 ≤ c ∧ c ≤ 63) (hd : 0 ≤ d) : tb (bitv c) d = decide (c = d) := by
  rw [bitv_eq hc]
  unfold tb
  rw [Int.toNat_natCast, Nat.testBit_two_pow]
  by_cases e : c = d
  · simp [e]
  · simp [e]; omega
theorem tb_zero (c : Int) : tb 0 c = false := by simp [tb]
theorem U_zero : U64 0 := by unfold U64; omega
theorem and_bit {x c : Int} (hx : U64 x) (hc : 0 ≤ c ∧ c ≤ 63) : decide (bits .and .u64 x (bitv c) = 0) = !tb x c := by
  have h0 : bits .and .u64 x (bitv c) = (((BitVec.ofInt 64 x) &&& (BitVec.ofInt 64 (bitv c))).toNat : Int) := by
    show IntKind.u64.wrap (((BitVec.ofInt 64 x) &&& (BitVec.ofInt 64 (bitv c))).toNat : Int) = _; rw [u64_bv]
  rw [h0]
  cases hb : tb x c with
  | true =>
    have : (BitVec.ofInt 64 x &&& BitVec.ofInt 64 (bitv c)).getLsbD c.toNat = true := by
      rw [BitVec.getLsbD_and, bv_tb hx, bv_tb (bitv_U hc), tb_bitv hc (by omega), hb]; simp
    simp only [Bool.not_true, decide_eq_false_iff_not]
    intro e
    have e0 : (BitVec.ofInt 64 x &&& BitVec.ofInt 64 (bitv c)).toNat = 0 := by omega
    unfold BitVec.getLsbD at this
    rw [e0] at this
    simp at this
  | false =>
    simp only [Bool.not_false, decide_eq_true_eq]
    have : BitVec.ofInt 64 x &&& BitVec.ofInt 64 (bitv c) = 0#64 := by
      apply BitVec.eq_of_getLsbD_eq
      intro i hi
      rw [BitVec.getLsbD_and]
      have e1 := bv_tb hx (i : Int)
      have e2 := bv_tb (bitv_U hc) (i : Int)
      rw [Int.toNat_natCast] at e1 e2
      rw [e1, e2, tb_bitv hc (by omega)]
      by_cases e : c = (i : Int)
      · rw [← e, hb]; simp
      · simp [e]
    rw [this]; rfl
def stepB (c : Int) (s : List Bool) (x : Acc) : List Bool :=
  if x.kind = 5 then s.set x.place.toNat (gt s x.place || decide (x.cont = c))
  else if x.kind = 6 then s.set x.place.toNat (gt s x.place && !decide (x.cont = c))
  else if x.kind = 7 then s.set x.place.toNat (gt s x.place || gt s x.frm) else s
theorem stepB_len (c : Int) (s : List Bool) (x : Acc) : (stepB c s x).length = s.length := by
  unfold stepB; split <;> (try split) <;> (try split) <;> simp
def nowS (a : Est) (c : Int) (n : Nat) : List Bool := (a.evs.take n).foldl (stepB c) (List.replicate a.places.toNat false)
def happS (a : Est) (t : Int) : Nat := (a.evs.takeWhile fun x => decide (x.time ≤ t)).length
def rightB (a : Est) (c : Int) : Bool := estB a && inB c 0 63
def happS_le (a : Est) (t : Int) : happS a t ≤ a.evs.length := (List.takeWhile_sublist _).length_le
theorem est_hap {a : Est} (h : estB a = true) : 0 ≤ a.places ∧ a.places ≤ 16 ∧ ∀ x ∈ a.evs, hapP a.places.toNat x := by
  obtain ⟨h1, h2, _, h4⟩ := estB_iff.1 h
  refine ⟨by omega, h2, fun x hx => ?_⟩
  obtain ⟨i, hi, rfl⟩ := mem_gt hx
  have h5 := (aevOk_iff.1 (h4 i hi)).2.2
  have h6 : accP a (gt a.evs (i : Int)) := of_decide_eq_true h5
  generalize gt a.evs (i : Int) = x at *
  obtain ⟨h7, h8⟩ := h6
  refine ⟨fun _ => ⟨h7.1, by omega⟩, fun hk => ?_, fun hk => ?_⟩ <;> omega
def inT (a : Est) (c p t : Int) : Bool := gt (nowS a c (happS a t)) p
theorem nowS_len (a : Est) (c : Int) (n : Nat) : (nowS a c n).length = a.places.toNat := by
  unfold nowS
  suffices ∀ (l : List Acc) (s : List Bool), (l.foldl (stepB c) s).length = s.length by rw [this]; simp
  intro l
  induction l with
  | nil => intro s; rfl
  | cons x l ih => intro s; rw [List.foldl_cons, ih, stepB_len]
end Go.Proofs.Ytcbppkfnfbdkhaa
