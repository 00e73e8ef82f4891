/- plain: the contract. -/
import Derived.Test.YtbnmcdnkeipdhaaFm
import Derived.RangeFuncBox
import Derived.RangeFuncLeaves
import Derived.Shelf.Abstract
import Derived.WalkKit
import Derived.OwnWalkIn
import Derived.TacticsInMore
import Derived.LoopNIn
import Derived.LoopIn
import Derived.Maps.AppendAt
set_option linter.all false
set_option maxRecDepth 100000
set_option maxHeartbeats 4000000
namespace Go.Proofs.Ytbnmcdnkeipdhaa
open Go.RowKit Go.Shelf
attribute [local go_sem] Oper.semAt_some
theorem plain_nil (F : Fence) (n : Nat) (hF1 : F.fn 79) (hF2 : F.fn 88) (hF3 : F.fn 94) (hro : F.round = none) (hn : 3 ≤ n) (c : Nat) (A : Option Addr) (w : World) :
    CallsIn F n Try.prog 79 #[.slice A 0 c] w fun e W' => ∃ v, e = .returned v ∧ W'.ownsRow w.heap.size 5 1 v 0 [] ∧ Below w.heap.size w W' := by
  have h1 : 1 ≤ n := by omega
  obtain ⟨i0, hi, hz0, hz1, hz2⟩ := info_parts Try.infoU
  refine callsIn_of_wp_marks Try.func79 rfl hF1 ?_ hro
  simp only [Try.ntmps79, List.size_toArray, List.length_cons, List.length_nil, Nat.reduceAdd, Nat.reduceSub, Array.replicate_succ, Array.replicate_zero, List.push_toArray, List.append_toArray, List.nil_append, List.cons_append]
  gi_wp2_with (gi_at_call 88; refine (chunk_in F (n - 1) hF2 hro _ _ _ _).mono ?_; rintro e w' ⟨rfl, rfl⟩)
  have bO := Boxed.new w 23 (.slice none 0 0)
  have bS := Boxed.new (w.alloc (.cells #[.slice none 0 0] 23)) 23 (.slice A 0 c)
  have bN := Boxed.new ((w.alloc (.cells #[.slice none 0 0] 23)).alloc (.cells #[.slice A 0 c] 23)) 3 (.int .i64 128)
  rw [World.size_alloc] at bS
  rw [World.size_alloc, World.size_alloc] at bN
  have hB0 : Below w.heap.size w (((w.alloc (.cells #[.slice none 0 0] 23)).alloc (.cells #[.slice A 0 c] 23)).alloc (.cells #[.int .i64 128] 3)) := (((Below.refl _ w).alloc (Nat.le_refl _) _).alloc (by simp) _).alloc (by simp; omega) _
  refine wpIn_rangeFunc_ownG hro h1 (gf := 94) (lb := #[.pointer (some ⟨w.heap.size + 1, 0, none⟩), .pointer (some ⟨w.heap.size + 1 + 1, 0, none⟩)]) rfl hF3 (enters_of Try.func94 (by kernel_rfl) rfl)
    (chunkn_stops F (n - 1) hF3 hro (w.heap.size + 1) (w.heap.size + 1 + 1) w.heap.size c A _ (bS.alloc _)) KpC.trans (kpC_b (by simp <;> omega) (by simp <;> omega) (by simp <;> omega)) (Below.refl _ _) (fun _ => rfl)
    (fun pre W => (∃ v, Boxed W w.heap.size 23 v ∧ W.ownsRow w.heap.size 5 1 v (outB [] pre).length ((outB [] pre).map (Value.int .u8)) ∧ True) ∧ Below w.heap.size w W)
    (fun _ _ _ => False)
    (OwnFrom.and (Own.from (holdsRow_own w.heap.size w.heap.size 23 5 1 (fun pre => (outB [] pre).length) (fun pre => (outB [] pre).map (Value.int .u8)) (fun pre v => True)) _) (ownFrom_below (Nat.le_refl _) (by simp; omega)))
    (fun _ _ _ _ _ hs _ _ => hs)
    ⟨⟨_, (bO.alloc _).alloc _, World.ownsRow_nil _ _ _ _, trivial⟩, hB0⟩
    (fun k => { tmps := #[.slice A 0 c, undef, .slice none 0 0, .pointer (some ⟨w.heap.size, 0, none⟩), pcV 0 0 0 k, .slice A 0 c, .func (.func 94) #[] #[.pointer (some ⟨w.heap.size + 1, 0, none⟩), .pointer (some ⟨w.heap.size + 1 + 1, 0, none⟩)], pcV 0 0 0 k, undef, undef, undef, undef, undef, undef, undef, undef, undef, undef], defers := [] }) ?assign ?body ?done ?stop
  case assign =>
    intro l' x W K hK
    gi_wp2
    exact hK
  case body =>
    rintro l' pre k W _ hlt
    exact absurd hlt (Nat.not_lt_zero _)
  case done =>
    rintro D ys W hD rfl ⟨⟨v, hv, hrow, _⟩, hB⟩ hK
    have hc := hv.cell
    gi_wp2
    refine ⟨by simp, .inl ⟨_, _, rfl, run_takeDeferred hK, ?_⟩⟩
    exact ⟨_, results_tmp rfl _ _ _, v, rfl, ownsRow_putObj hrow _ hK rfl, hB.trans (belowK_b (w := w) (Nat.le_refl _) W D _ _ (by simp at hD; omega) hK rfl rfl)⟩
  case stop =>
    rintro D c pre W _ _ h _
    exact h.elim
def plS (l : List Int) : List Int := outB l (upto ((l.length + 127) / 128))
theorem outB_in {l : List Int} (h : InB l) (pre : List Nat) : InB (outB l pre) := fun z hz => by
  obtain ⟨k, _, hz⟩ := List.mem_flatMap.1 hz
  unfold pcB at hz
  rcases List.mem_cons.1 hz with rfl | hz
  · omega
  · exact h z (List.mem_of_mem_drop (List.mem_of_mem_take hz))
theorem plain_ic (l : List Int) : ICp (l.length ≤ 10000000) 79 [by_ l] (fun v => v = by_ (plS l)) := fun hl => by
  have he : Enters Try.prog 79 := enters_of Try.func79 rfl rfl
  refine ⟨he, fun g w vals hβ hgi hsz hrep => ?_⟩
  have hin : InB l := by
    have h0 : 0 < vals.size := by rw [hsz]; exact Nat.one_pos
    obtain ⟨A, c, _, hb⟩ := bts2 (hrep 0 vals[0] (by_ l) (by simp [h0]) rfl).list_inv
    exact hb.i
  refine (ict_by he (outB_in hin _) fun w Rd A c hRd hb => ?_).2 g w vals hβ hgi hsz hrep
  by_cases h0 : l = []
  · subst h0
    exact (callsIn_wide (n := 3)).1 (plain_nil Fence.wide 3 trivial trivial trivial rfl (Nat.le_refl _) c A w)
  · have hpos : 0 < l.length := List.length_pos_iff.2 h0
    obtain ⟨b, o, e, hr, hc⟩ := hb.c 0 hpos
    subst e
    refine (callsIn_wide (n := 3)).1 (plain_some Fence.wide 3 trivial trivial trivial rfl (Nat.le_refl _) b o c l hb.n hl w (hRd _ _ hr) fun i hi => ?_)
    obtain ⟨b2, o2, e2, _, hc2⟩ := hb.c i hi
    injection e2 with e2
    injection e2 with e3 e4
    subst e3 e4
    exact hc2
end Go.Proofs.Ytbnmcdnkeipdhaa
