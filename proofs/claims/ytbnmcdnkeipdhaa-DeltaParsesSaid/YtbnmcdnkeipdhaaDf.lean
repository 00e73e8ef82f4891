/- Operations as bytes. -/
import Derived.Test.YtbnmcdnkeipdhaaDe
import Derived.Test.YtbnmcdnkeipdhaaOG
set_option linter.all false
set_option maxRecDepth 20000
set_option maxHeartbeats 4000000
namespace Go.Proofs.Ytbnmcdnkeipdhaa
open Go.RowKit Go.Shelf
def threeS (n : Int) : List Int := [n / 65536 % 256, n / 256 % 256, n % 256]
theorem shr16 (n : Int) : n.fdiv (2 ^ min (Int.toNat 16) IntKind.i64.bits) = n / 65536 := Int.fdiv_eq_ediv_of_nonneg n (by decide)
theorem shr8 (n : Int) : n.fdiv (2 ^ min (Int.toNat 8) IntKind.i64.bits) = n / 256 := Int.fdiv_eq_ediv_of_nonneg n (by decide)
def largeB (a b : Int) (n : Nat) : Bool := decide (65536 < max (max a b) n)
def opB (o : Opn) : List Int := if 0 < o.sz then [1] ++ threeS o.frm ++ threeS o.sz else [0] ++ threeS o.dat.length ++ o.dat
def largeO (o : Opn) : Bool := largeB o.frm o.sz o.dat.length
def rightO (o : Opn) : Bool := rightB o.frm o.sz o.dat.length
def fmtE (l : List Opn) : Int := if 200 < l.length ∨ l.any largeO = true then 3 else if l.all rightO = true then 0 else 2
def fmtB (l : List Opn) : List Int := if fmtE l = 0 then l.flatMap opB else []
theorem fm3 {l : List Opn} (h : 200 < l.length ∨ l.any largeO = true) : SV.tup [SV.one (CV.d (Cell.list [])), SV.one (CV.d (Cell.int IntKind.i64 3))] = SV.tup [by_ (fmtB l), iv (fmtE l)] := by
  have e : fmtE l = 3 := if_pos h
  unfold fmtB; rw [e]; rfl
theorem fm2 {l : List Opn} (h : ¬ (200 < l.length ∨ l.any largeO = true)) (h2 : ¬ l.all rightO = true) : SV.tup [SV.one (CV.d (Cell.list [])), SV.one (CV.d (Cell.int IntKind.i64 2))] = SV.tup [by_ (fmtB l), iv (fmtE l)] := by
  have e : fmtE l = 2 := by unfold fmtE; rw [if_neg h, if_neg h2]
  unfold fmtB; rw [e]; rfl
theorem fm0 {l : List Opn} (h : ¬ (200 < l.length ∨ l.any largeO = true)) (h2 : l.all rightO = true) : SV.tup [by_ (l.flatMap opB), SV.one (CV.d (Cell.int IntKind.i64 0))] = SV.tup [by_ (fmtB l), iv (fmtE l)] := by
  have e : fmtE l = 0 := by unfold fmtE; rw [if_neg h, if_pos h2]
  unfold fmtB; rw [e]; rfl
theorem opB_succ {l : List Opn} {i : Nat} (h : i < l.length) : (l.take (i + 1)).flatMap opB = (l.take i).flatMap opB ++ opB (gt l (i : Int)) := by
  rw [List.take_succ_eq_append_getElem h, ← gt_nat h]; simp
theorem opB_len {o : Opn} (h : largeO o = false) : (opB o).length ≤ 65540 := by
  unfold largeO largeB at h
  simp at h
  unfold opB threeS
  split <;> simp <;> omega
theorem opBs_len {l : List Opn} (h : l.any largeO = false) (i : Nat) (hi : i ≤ l.length) : ((l.take i).flatMap opB).length ≤ i * 65540 := by
  induction i with
  | zero => simp
  | succ i ih =>
    rw [opB_succ (by omega), List.length_append]
    have := ih (by omega)
    have := opB_len (o := gt l (i : Int)) (by
      have := List.any_eq_false.1 h _ (gt_mem (i := (i : Int)) (by omega) (by omega))
      simpa using this)
    omega
end Go.Proofs.Ytbnmcdnkeipdhaa
