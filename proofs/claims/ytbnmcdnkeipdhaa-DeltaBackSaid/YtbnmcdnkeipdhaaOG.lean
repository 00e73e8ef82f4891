/- Room for bytes. -/
import Derived.Test.YtbnmcdnkeipdhaaTq
import Derived.Test.YtbnmcdnkeipdhaaIvzc
import Derived.Lib.AppendZerosOnto
import Derived.Lib.Walk
import Derived.Lib.SliceRun
set_option linter.all false
set_option maxRecDepth 100000
set_option maxHeartbeats 4000000
namespace Go.Proofs.Ytbnmcdnkeipdhaa
open Go.RowKit Go.Shelf Go.Lib
theorem Try.info5g : (Try.prog.info? 5).map (fun i => (i.zero, i.size, i.bytes)) = some (some (.int .u8 0), 1, 1) := by kernel_rfl
def GrowRet (w : World) (e : Ending) (w' : World) : Prop := (e = .returned (.slice none 0 0) ∧ w' = w) ∨ ∃ G cells, e = .returned (.slice (some ⟨w.heap.size, 0, none⟩) 0 G) ∧ w' = w.drew.alloc (.cells cells 5) ∧ cells.size = G ∧ G ≤ maxLen
/-- Room from nothing. -/
theorem grow_nil (w : World) (n : Nat) (hn : n ≤ 1000000000) : Calls Try.prog 76 #[.slice none 0 0, .int .i64 (n : Int)] w (GrowRet w) := by
  obtain ⟨i0, hi0, hz0, hs0, hb0⟩ := info_parts Try.info5g
  have e1 : wrap64 ((0 : Int) - (0 : Int)) = 0 := by unfold wrap64; omega
  have e2 : wrap64 ((n : Int) - (0 : Int)) = (n : Int) := by unfold wrap64; omega
  have h1 : ¬ ((n : Int) < 0) := by omega
  by_cases h0 : n = 0
  · subst h0
    go_enter Try.func76, Try.ntmps76
    go_wp2
    go_ret
    exact .inl ⟨rfl, rfl⟩
  · have h4 : (n : Int) > 0 := by omega
    have hold : (Builtin.firstCells i0.size 0 (.slice none 0 0)).run Try.prog w.drew = .ok ([] : List Value).toArray w.drew := run_firstCells_none w.drew i0.size 0 0 0
    have hrz : ∀ ty, (Builtin.append_ #[23, 3] ty #[.slice none 0 0, .int .i64 (n : Int)]).run Try.prog w = .ok (.slice (some ⟨w.heap.size, 0, none⟩) (0 + n) (grownCap w (0 + n) 0 5)) (w.drew.alloc (.cells (([] : List Value).toArray ++ Builtin.zeroCells (Value.int .u8 0).cells n ++ Builtin.zeroCells (Value.int .u8 0).cells (grownCap w (0 + n) 0 5 - (0 + n))) 5)) := fun ty =>
      Lib.run_append_grow_zeros w 23 3 ty 5 i0 (.int .u8 0) .i64 .i64 Try.underlying23 Try.underlying3 hi0 hz0 none 0 0 [] hold n (by omega) (by omega) (by omega) (by omega) (by rw [hb0]; omega) (by rw [hb0]; exact growslice_fits (by omega) (by omega))
    rw [Nat.zero_add] at hrz
    have hG := grownCap_ge w n 0 5
    have hGm := grownCap_le_maxLen w n 0 5 (by unfold maxLen; omega)
    obtain ⟨G, hGe⟩ : ∃ G, G = grownCap w n 0 5 := ⟨_, rfl⟩
    obtain ⟨cells, hce⟩ : ∃ cells, cells = ([] : List Value).toArray ++ Builtin.zeroCells (Value.int .u8 0).cells n ++ Builtin.zeroCells (Value.int .u8 0).cells (grownCap w n 0 5 - n) := ⟨_, rfl⟩
    rw [← hce, ← hGe] at hrz
    have hcs : cells.size = G := by
      rw [hce, hGe]
      simp [size_zeroCells, Value.cells]
      omega
    rw [← hGe] at hG hGm
    clear hce hGe hold
    have g1 : G ≤ 9223372036854775807 := by unfold maxLen at hGm; omega
    go_enter Try.func76, Try.ntmps76
    go_wp2_with (at_builtin; refine Lib.wpList_append_run _ rfl _ _ _ _ rfl _ _ rfl rfl _ _ (hrz _) ?_)
    all_goals (go_ret; exact .inr ⟨G, cells, rfl, rfl, hcs, hGm⟩)
theorem Grow_icq (n : Int) : ICq (0 ≤ n ∧ n ≤ 1000000000) 76 [.one .nil, iv n] 5 1 (List.map irow_u8 []) := fun hn => by
  refine ⟨enters_of Try.func76 rfl rfl, fun g w vals hβ hgi hsz hrep => ?_⟩
  obtain ⟨l⟩ := vals
  match l, hsz with
  | [a, b], _ =>
    have w0 := hrep 0 a _ rfl rfl
    have w1 := hrep 1 b _ rfl rfl
    obtain rfl : a = .slice none 0 0 := by cases w0 with | one h => cases h; rfl
    obtain rfl : b = .int .i64 n := by cases w1 with | one h => cases h with | d h => cases h; rfl
    have en : n = ((n.toNat : Nat) : Int) := by omega
    have hc := grow_nil w n.toNat (by omega)
    rw [← en] at hc
    refine hc.mono fun e w' h => ?_
    rcases h with ⟨rfl, rfl⟩ | ⟨G, cells, rfl, rfl, hcs, hG⟩
    · refine ⟨_, .one .nil, [], g, .inl ⟨rfl, rfl, rfl⟩, rfl, .one .nil, ⟨fun r r' b h => (by cases h), fun r b h => (by cases h), fun b o h r h1 => (by cases h1), fun r => trivial⟩, ⟨fun _ _ h => h, fun _ _ h => .inl h, Keep.refl _ _, fun tb htb => (hgi.tape tb htb).2⟩⟩
    · have hB : Below w.heap.size w (w.drew.alloc (.cells cells 5)) := ((Below.refl _ w).drew).alloc (Nat.le_refl _) _
      have hcell : ∀ b o, g.Rd b o → (w.drew.alloc (.cells cells 5)).cell? ⟨b, o, none⟩ = w.cell? ⟨b, o, none⟩ := fun b o hr => by
        obtain ⟨h1, _⟩ := hgi.rd b o hr
        exact hB.cell (p := ⟨b, o, none⟩) (by simpa using h1)
      have hsz2 : (w.drew.alloc (.cells cells 5)).heap.size = w.heap.size + 1 := by rw [World.size_alloc]; rfl
      refine ⟨_, .one (.sl 0 0 1), [(0, .arr 5 1 [])], ⟨fun r => if r = 0 then some w.heap.size else none, fun r => if r = 0 then G else 0, g.Rd, g.tp, g.tl⟩, .inr ⟨0, rfl, rfl⟩, rfl, ?_, ⟨fun r r' b h1 h2 _ _ => ?_, fun r b h1 h2 => ?_, fun b o hr r h1 h2 => ?_, fun r => ?_⟩, ⟨fun _ _ h => h, fun _ _ h => .inl h, Keep.below hB fun k hk => .inr hk, fun tb htb => ?_⟩⟩
      · have := RepCV.sl (P := Try.prog) (g := ⟨fun r => if r = 0 then some w.heap.size else none, fun r => if r = 0 then G else 0, g.Rd, g.tp, g.tl⟩) (w := w.drew.alloc (.cells cells 5)) (r := 0) (b := w.heap.size) 0 1 rfl (Nat.zero_le _) (by simpa using hG)
        exact .one (by simpa using this)
      · have key : ∀ r, live [(0, VH.arr 5 1 [])] r → r = 0 := fun r h => by
          unfold live at h
          by_cases e : 0 = r
          · exact e.symm
          · simp only [getH, beq_eq] at h
            rw [decide_eq_false e] at h
            cases h
        rw [key r h1, key r' h2]
      · by_cases e : r = 0
        · simp [e] at h2
          subst h2
          rw [hsz2]; omega
        · simp [e] at h2
      · by_cases e : r = 0
        · simp [e] at h2
          obtain ⟨h3, _⟩ := hgi.rd b o hr
          omega
        · simp [e] at h2
      · by_cases e : r = 0
        · subst e
          refine ⟨fun row h => (by cases h), .inr ⟨w.heap.size, cells, rfl, ?_, by simp [hcs], by simp, by simpa using hG, fun i j row x hi => (by simp at hi)⟩⟩
          have := Blk.new w.drew 5 cells
          exact this
        · have : getH [(0, VH.arr 5 1 [])] r = .gone := by
            simp only [getH, beq_eq]
            rw [decide_eq_false (Ne.symm e)]
            rfl
          rw [this]; trivial
      · obtain ⟨h1, h2⟩ := hgi.tape tb htb
        exact h2.keep ⟨fun _ _ h => h, hcell⟩ ((Keep.below hB (S := fun k => w.heap.size ≤ k) fun _ h => h).block tb (by omega))
end Go.Proofs.Ytbnmcdnkeipdhaa
