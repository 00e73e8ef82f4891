/- Estates: Check, Valid. -/
import Derived.Test.YtoflahjlnbligaaCe
set_option linter.all false
set_option maxRecDepth 20000
set_option maxHeartbeats 4000000
namespace Go.Proofs.Ytoflahjlnbligaa
open Go.RowKit Go.Shelf
def accP (a : Est) (x : Acc) : Prop := (0 ≤ x.place ∧ x.place < a.places) ∧
  ((x.kind = 1 ∨ x.kind = 2) ∧ x.til = 0 ∧ x.cont = 0 ∧ x.frm = 0 ∧ 0 ≤ x.prin ∧ x.prin ≤ 23 ∨
   x.kind = 3 ∧ x.prin = 0 ∧ x.cont = 0 ∧ x.frm = 0 ∧ x.time < x.til ∧ x.til ≤ 1099511627776 ∨
   x.kind = 4 ∧ x.prin = 0 ∧ x.til = 0 ∧ x.cont = 0 ∧ x.frm = 0 ∨
   (x.kind = 5 ∨ x.kind = 6) ∧ x.prin = 0 ∧ x.til = 0 ∧ x.frm = 0 ∧ 0 ≤ x.cont ∧ x.cont ≤ 63 ∨
   x.kind = 7 ∧ x.prin = 0 ∧ x.til = 0 ∧ x.cont = 0 ∧ 0 ≤ x.frm ∧ x.frm < a.places ∧ ¬ x.frm = x.place)
instance (a : Est) (x : Acc) : Decidable (accP a x) := by unfold accP; infer_instance
def accB (a : Est) (x : Acc) : Bool := decide (accP a x)
def prevA (l : List Acc) (i : Nat) : Int := if i = 0 then 0 else (gt l ((i : Int) - 1)).time
def aevOk (a : Est) (last : Int) (x : Acc) : Bool := decide (last ≤ x.time) && decide (x.time ≤ 1099511627776) && accB a x
def estB (a : Est) : Bool := decide (1 ≤ a.places) && decide (a.places ≤ 16) && decide (a.evs.length ≤ 120) && allN a.evs.length fun i => aevOk a (prevA a.evs i) (gt a.evs (i : Int))
theorem aevOk_iff {a : Est} {t : Int} {x : Acc} : aevOk a t x = true ↔ t ≤ x.time ∧ x.time ≤ 1099511627776 ∧ accB a x = true := by
  simp [aevOk, and_assoc]
theorem prevA_succ (l : List Acc) (i : Nat) : prevA l (i + 1) = (gt l (i : Int)).time := by
  unfold prevA; rw [if_neg (by omega)]; congr 1; congr 1; omega
end Go.Proofs.Ytoflahjlnbligaa
