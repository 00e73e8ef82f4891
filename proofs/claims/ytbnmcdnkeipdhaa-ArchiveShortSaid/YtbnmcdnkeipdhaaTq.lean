/- The tape of numbers, as one of many. -/
import Derived.Test.YtbnmcdnkeipdhaaLb3
set_option linter.all false
set_option maxRecDepth 20000
set_option maxHeartbeats 800000
namespace Go.Proofs.Ytbnmcdnkeipdhaa
open Go.RowKit Go.Shelf
theorem TapeR.step {T : TypeId} {tl : Option Addr × Nat × Nat × (Nat → Int)} {Rd : Nat → Nat → Prop} {w : World} {tb k m : Nat} (hb : Blk w tb T #[.slice tl.1 tl.2.1 tl.2.2.1, .int .i64 (k : Int)]) (hn : tl.2.1 ≤ 9223372036854775807)
    (hz : ∀ i, i < tl.2.1 → ∃ b o, tl.1 = some ⟨b, o, none⟩ ∧ Rd b (o + i) ∧ w.cell? ⟨b, o + i, none⟩ = some (.int .i64 (tl.2.2.2 i))) (hne : ∀ b o, Rd b o → b ≠ tb) (hk : k < tl.2.1) :
    TapeR T tl Rd ((w.drewN m).setCell ⟨tb, 1, none⟩ (.int .i64 ((k : Int) + 1))) tb := by
  refine ⟨⟨k + 1, ?_, by omega⟩, hn, fun i hi => ?_⟩
  · have := (hb.drewN m).set_ 1 (.int .i64 ((k : Int) + 1))
    simpa using this
  · obtain ⟨b, o, e, hr, hc⟩ := hz i hi
    refine ⟨b, o, e, hr, ?_⟩
    rw [World.cell?_setCell_other _ _ _ _ (fun e => by have := congrArg Addr.block e; simp at this; exact hne b _ hr this.symm)]
    exact hc
end Go.Proofs.Ytbnmcdnkeipdhaa
