/- steps.change, walked. -/
import Derived.Test.YtcbppkfnfbdkhaaPe
import Derived.RangeFuncBox
import Derived.WalkKit
set_option linter.all false
set_option maxRecDepth 100000
set_option maxHeartbeats 4000000
namespace Go.Proofs.Ytcbppkfnfbdkhaa
open Go.RowKit Go.Shelf
attribute [local go_sem] Oper.semAt_some
def chg0 (c : Csm) (u : Unt) (kind : Int) (issued : Bool) : Unt × Bool :=
  if kind = 4 then (⟨u.up, if c.dual = true then 3 else 2, u.used⟩, issued && decide (u.stored = 1)) else if kind = 7 then (⟨u.up, 2, u.used⟩, decide (u.stored = 3)) else (u, false)
def chgS (c : Csm) (u : Unt) (kind : Int) (issued : Bool) : Unt × Bool :=
  if kind = 5 then (⟨false, u.stored, 0⟩, u.up) else if kind = 6 then (⟨true, u.stored, u.stored⟩, !u.up) else
    ((if c.live = true ∧ (chg0 c u kind issued).1.up = true then ⟨(chg0 c u kind issued).1.up, (chg0 c u kind issued).1.stored, (chg0 c u kind issued).1.stored⟩ else (chg0 c u kind issued).1), (chg0 c u kind issued).2)
structure PutU (vals : Array Value) (o : Nat) (u : Unt) (vals' : Array Value) : Prop where
  sz : vals'.size = vals.size
  u0 : vals'[o]? = some (.bool u.up)
  u1 : vals'[o + 1]? = some (.int .i64 u.stored)
  u2 : vals'[o + 2]? = some (.int .i64 u.used)
  oth : ∀ j, j ≠ o → j ≠ o + 1 → j ≠ o + 2 → vals'[j]? = vals[j]?
theorem fin_put {w' : World} {b o : Nat} {T : TypeId} {vals vals' : Array Value} {u : Unt} (hb : Blk w' b T vals') (hp : PutU vals o u vals') : ∃ vals', Blk w' b T vals' ∧ PutU vals o u vals' := ⟨_, hb, hp⟩
theorem change_w (c : Csm) (u : Unt) (kind : Int) (issued : Bool) (w : World) (b o : Nat) (T : TypeId) (vals : Array Value) (hb : Blk w b T vals) (h0 : vals[o]? = some (.bool u.up)) (h1 : vals[o + 1]? = some (.int .i64 u.stored)) (h2 : vals[o + 2]? = some (.int .i64 u.used)) :
    Calls Try.prog 174 #[.agg #[.int .i64 c.pool, .bool c.dual, .bool c.live], .pointer (some ⟨b, o, none⟩), .int .i64 kind, .bool issued] w fun e w' => e = .returned (.bool (chgS c u kind issued).2) ∧ Keep (fun k => k = b ∨ w.heap.size ≤ k) w w' ∧ ∃ vals', Blk w' b T vals' ∧ PutU vals o (chgS c u kind issued).1 vals' := by
  have hlt := hb.lt
  have z0 : o < vals.size := (Array.getElem?_eq_some_iff.1 h0).1
  have z1 : o + 1 < vals.size := (Array.getElem?_eq_some_iff.1 h1).1
  have z2 : o + 2 < vals.size := (Array.getElem?_eq_some_iff.1 h2).1
  have v0 : vals[o] = .bool u.up := (Array.getElem?_eq_some_iff.1 h0).2
  have v1 : vals[o + 1] = .int .i64 u.stored := (Array.getElem?_eq_some_iff.1 h1).2
  have v2 : vals[o + 2] = .int .i64 u.used := (Array.getElem?_eq_some_iff.1 h2).2
  have c0 : w.cell? ⟨b, o, none⟩ = some (.bool u.up) := by rw [hb.cell]; exact h0
  have c1 : w.cell? ⟨b, o + 1, none⟩ = some (.int .i64 u.stored) := by rw [hb.cell]; exact h1
  have c2 : w.cell? ⟨b, o + 2, none⟩ = some (.int .i64 u.used) := by rw [hb.cell]; exact h2
  have f0 := hb.frozen o
  have f1 := hb.frozen (o + 1)
  have f2 := hb.frozen (o + 2)
  go_enter Try.func174, Try.ntmps174
  go_wp2
  all_goals
    go_ret
    simp only [beq_iff_eq, beq_eq_false_iff_ne, ne_eq, Bool.not_eq_true] at *
    refine ⟨?_, ?_, ?_⟩
    rotate_left
    · repeat (first | exact Keep.refl _ _ | refine Keep.alloc ?_ (by simp) _ | refine Keep.setCell ?_ (.inl rfl) _)
    rotate_left
    · first | (simp [chgS, chg0, *]; done) | (simp [chgS, chg0, *]; rfl)
    apply fin_put
    case hb => repeat (first | exact hb | apply Blk.alloc | apply Blk.set_)
    case hp =>
     refine ⟨by simp, ?_, ?_, ?_, ?_⟩
     · simp [chgS, chg0, Array.getElem?_setIfInBounds, *]
     · simp [chgS, chg0, Array.getElem?_setIfInBounds, *]
     · simp [chgS, chg0, Array.getElem?_setIfInBounds, *]
     · intro j j0 j1 j2
       simp [Array.getElem?_setIfInBounds, Ne.symm j0, Ne.symm j1, Ne.symm j2]
end Go.Proofs.Ytcbppkfnfbdkhaa
