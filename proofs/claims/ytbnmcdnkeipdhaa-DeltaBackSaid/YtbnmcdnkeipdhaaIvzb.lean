/- Texts: length and bytes; min and max. -/
import Derived.Test.YtbnmcdnkeipdhaaIvz
import Derived.Laws.Strings
import Derived.Laws.Small
set_option linter.all false
namespace Go.Proofs.Ytbnmcdnkeipdhaa
open Go.RowKit Go.Shelf
def strB (P : Program) (t : TypeId) : Bool := match P.underlying t with | some .string => true | _ => false
theorem strB_spec {P : Program} {t : TypeId} (h : strB P t = true) : P.underlying t = some .string := by
  unfold strB at h; split at h
  · assumption
  · cases h
theorem ba_beq (a b : ByteArray) : (a == b) = decide (a = b) := by
  obtain ⟨x⟩ := a
  obtain ⟨y⟩ := b
  have e : ((⟨x⟩ : ByteArray) == ⟨y⟩) = (x == y) := rfl
  rw [e]
  by_cases h : x = y
  · subst h; simp
  · have : ¬ (⟨x⟩ : ByteArray) = ⟨y⟩ := fun q => h (by injection q)
    simp [h, this]
theorem CVle.nildm {vs : List Nat} {α : Type} {f : α → List Cell} : CVle vs .nil (.d (.list (List.map f []))) := .nild
/-- The byte at a place. -/
def byteAt (s : ByteArray) (i : Int) : Int := if h : i.toNat < s.size then ((s[i.toNat]'h).toNat : Int) else 0
theorem byteAt_nat {s : ByteArray} {i : Nat} (h : i < s.size) : byteAt s (i : Int) = ((s[i]'h).toNat : Int) := by unfold byteAt; simp [h]
section
variable {P : Program} {T : TypeId} {N : Nat} {w0 : Org} {s : St} {o : Oper}
theorem ope_ixs {t : TypeId} {x y : Operand} {sb : ByteArray} {k : IntKind} {m : Int} (ho : o.op = .index t x y) (hx : s.ev x = .one (.d (.str sb))) (hy : s.ev y = .one (.d (.int k m))) (ht : strB P t = true) (hc : 0 ≤ m ∧ m < (sb.size : Int)) : OpE P T N w0 s o (.one (.d (.int .u8 (byteAt sb m)))) :=
  ope_val fun g a w hs => by
    have h1 := hs.ev x; rw [hx] at h1
    have h2 := hs.ev y; rw [hy] at h2
    have hlt : m.toNat < sb.size := by omega
    refine ⟨.int .u8 (byteAt sb m), ?_, .one (.d (.int _ _ ?_))⟩
    · have e : sb[m.toNat]? = some (sb[m.toNat]'hlt) := getElem?_pos sb m.toNat hlt
      simp [execOp, ho, h1.str_inv.1, h2.int_inv.1, Instr.index, run_underlying (strB_spec ht), asInt, asIntOf, hc.1, e, byteAt, hlt]
    · have := (sb[m.toNat]'hlt).toNat_lt
      simp [byteAt, hlt, Lit.wf, IntKind.min, IntKind.max, IntKind.bits, IntKind.signed]; omega
theorem ope_max {ts : Array TypeId} {x y : Operand} {k : IntKind} {m n : Int} (ho : o.op = .call { callee := .builtin .max, args := #[x, y], argTypes := ts }) (hx : s.ev x = .one (.d (.int k m))) (hy : s.ev y = .one (.d (.int k n))) : OpE P T N w0 s o (.one (.d (.int k (max m n)))) :=
  ope_val fun g a w hs => by
    have h1 := hs.ev x; rw [hx] at h1
    have h2 := hs.ev y; rw [hy] at h2
    have e : (if n > m then n else m) = max m n := by split <;> omega
    refine ⟨.int k (max m n), ?_, .one (.d (.int _ _ ?_))⟩
    · simp only [execOp, ho, resolve, invoke, builtin]
      simp [h1.int_inv.1, h2.int_inv.1, run_max_int2, e, Result.andThen]
    · rcases Int.le_total m n with h | h
      · rw [Int.max_eq_right h]; exact h2.int_inv.2
      · rw [Int.max_eq_left h]; exact h1.int_inv.2
theorem ope_min {ts : Array TypeId} {x y : Operand} {k : IntKind} {m n : Int} (ho : o.op = .call { callee := .builtin .min, args := #[x, y], argTypes := ts }) (hx : s.ev x = .one (.d (.int k m))) (hy : s.ev y = .one (.d (.int k n))) : OpE P T N w0 s o (.one (.d (.int k (min m n)))) :=
  ope_val fun g a w hs => by
    have h1 := hs.ev x; rw [hx] at h1
    have h2 := hs.ev y; rw [hy] at h2
    have e : (if n < m then n else m) = min m n := by split <;> omega
    refine ⟨.int k (min m n), ?_, .one (.d (.int _ _ ?_))⟩
    · simp only [execOp, ho, resolve, invoke, builtin]
      simp [h1.int_inv.1, h2.int_inv.1, run_min_int2, e, Result.andThen]
    · rcases Int.le_total m n with h | h
      · rw [Int.min_eq_left h]; exact h1.int_inv.2
      · rw [Int.min_eq_right h]; exact h2.int_inv.2
end
section
variable {k : Wk} {w0 : Org} {ops : Array Oper} {l : List Oper} {Q : St → Prop} {F : List (Nat × SV)} {H : List (Nat × VH)} {d t t' ty : Nat} {p : String} {af : Array Edge} {x y : Operand} {s : St} {gd : Option (Nat × Bool)} {kk k1 : IntKind} {m n : Int} {sb : ByteArray} {ts : Array TypeId}
theorem f_ixs (hx : s.ev x = .one (.d (.str sb))) (hy : s.ev y = .one (.d (.int k1 m))) (ht : strB k.P t = true) (hc : 0 ≤ m ∧ m < (sb.size : Int)) : OpE k.P k.T k.N w0 s ⟨some d, .index t x y, ty, p, af, gd⟩ (.one (.d (.int .u8 (byteAt sb m)))) := ope_ixs rfl hx hy ht hc
theorem f_lenstr (hx : s.ev x = .one (.d (.str sb))) (ht : strB k.P t = true) : OpE k.P k.T k.N w0 s ⟨some d, .call { callee := .builtin .len, args := #[x], argTypes := #[t] }, ty, p, af, gd⟩ (.one (.d (.int .i64 (sb.size : Int)))) := ope_len_str rfl hx (strB_spec ht)
theorem f_max (hx : s.ev x = .one (.d (.int kk m))) (hy : s.ev y = .one (.d (.int kk n))) : OpE k.P k.T k.N w0 s ⟨some d, .call { callee := .builtin .max, args := #[x, y], argTypes := ts }, ty, p, af, gd⟩ (.one (.d (.int kk (max m n)))) := ope_max rfl hx hy
theorem f_min (hx : s.ev x = .one (.d (.int kk m))) (hy : s.ev y = .one (.d (.int kk n))) : OpE k.P k.T k.N w0 s ⟨some d, .call { callee := .builtin .min, args := #[x, y], argTypes := ts }, ty, p, af, gd⟩ (.one (.d (.int kk (min m n)))) := ope_min rfl hx hy
theorem v_ixs (hN : Nat.blt d k.N = true) (hx : (St.mk F H).ev x = .one (.d (.str sb))) (hy : (St.mk F H).ev y = .one (.d (.int k1 m))) (ht : strB k.P t = true) (hc : 0 ≤ m ∧ m < (sb.size : Int)) (h : rg k w0 ops l Q ⟨(d, .one (.d (.int .u8 (byteAt sb m)))) :: F, H⟩) : rg k w0 ops (⟨some d, .index t x y, ty, p, af, none⟩ :: l) Q ⟨F, H⟩ :=
  rgI (irg_e rfl rfl (nlt hN) (f_ixs hx hy ht hc) (rgO h))
theorem v_lenstr (hN : Nat.blt d k.N = true) (hx : (St.mk F H).ev x = .one (.d (.str sb))) (ht : strB k.P t = true) (h : rg k w0 ops l Q ⟨(d, .one (.d (.int .i64 (sb.size : Int)))) :: F, H⟩) : rg k w0 ops (⟨some d, .call { callee := .builtin .len, args := #[x], argTypes := #[t] }, ty, p, af, none⟩ :: l) Q ⟨F, H⟩ :=
  rgI (irg_e rfl rfl (nlt hN) (f_lenstr hx ht) (rgO h))
theorem v_max (hN : Nat.blt d k.N = true) (hx : (St.mk F H).ev x = .one (.d (.int kk m))) (hy : (St.mk F H).ev y = .one (.d (.int kk n))) (h : rg k w0 ops l Q ⟨(d, .one (.d (.int kk (max m n)))) :: F, H⟩) : rg k w0 ops (⟨some d, .call { callee := .builtin .max, args := #[x, y], argTypes := ts }, ty, p, af, none⟩ :: l) Q ⟨F, H⟩ :=
  rgI (irg_e rfl rfl (nlt hN) (f_max hx hy) (rgO h))
theorem v_min (hN : Nat.blt d k.N = true) (hx : (St.mk F H).ev x = .one (.d (.int kk m))) (hy : (St.mk F H).ev y = .one (.d (.int kk n))) (h : rg k w0 ops l Q ⟨(d, .one (.d (.int kk (min m n)))) :: F, H⟩) : rg k w0 ops (⟨some d, .call { callee := .builtin .min, args := #[x, y], argTypes := ts }, ty, p, af, none⟩ :: l) Q ⟨F, H⟩ :=
  rgI (irg_e rfl rfl (nlt hN) (f_min hx hy) (rgO h))
end
end Go.Proofs.Ytbnmcdnkeipdhaa
