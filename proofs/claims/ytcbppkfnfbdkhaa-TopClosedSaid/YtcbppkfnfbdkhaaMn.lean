/- access.Granted, walked. -/
import Derived.Test.YtcbppkfnfbdkhaaMl
import Derived.Lib.SlKeysI
import Derived.Sort.OwnSortedInts
import Derived.Maps.AppendAt
set_option linter.all false
set_option maxRecDepth 100000
set_option maxHeartbeats 4000000
namespace Go.Proofs.Ytcbppkfnfbdkhaa
open Go.RowKit Go.Shelf Go.Maps Go.Sort
attribute [local go_sem] Oper.semAt_some
theorem Try.infoJ : (Try.prog.info? 3).map (fun i => (i.zero, i.size, i.bytes)) = some (some (.int .i64 0), 1, 8) := by kernel_rfl
theorem box_cells {w W1 : World} {x y : Value} (hB1 : Below (w.alloc (.cells #[x, y] 76)).heap.size (w.alloc (.cells #[x, y] 76)) W1) : W1.cell? ⟨w.heap.size, 0, none⟩ = some x ∧ W1.cell? ⟨w.heap.size, 1, none⟩ = some y := by
  have hb : Blk (w.alloc (.cells #[x, y] 76)) w.heap.size 76 #[x, y] := Blk.new w _ _
  have c0 := hb.cell 0
  have c1 := hb.cell 1
  exact ⟨(hB1.cell (p := ⟨w.heap.size, 0, none⟩) (by simp)).trans c0, (hB1.cell (p := ⟨w.heap.size, 1, none⟩) (by simp)).trans c1⟩
theorem est_wf {g : Gh} {w : World} {v : Value} {a : Est} (h : RepSV Try.prog g w v a.v) : ∀ x ∈ a.evs, (Lit.int .i64 x.prin).wf = true := by
  obtain ⟨⟨l⟩, rfl, hs, hr⟩ := h.agg_inv
  match l, hs with
  | [x, y], _ =>
    have hy := hr 1 y _ rfl rfl
    cases hy; rename_i hy
    obtain ⟨A, cap, sz, vals, rfl, q0, q1, q2, q3, q4, q5⟩ := hy.list_inv
    intro x hx
    obtain ⟨i, hi, rfl⟩ := List.getElem_of_mem hx
    have := q5 i 3 _ (.int .i64 a.evs[i].prin) (by rw [List.getElem?_map, List.getElem?_eq_getElem hi]; rfl) rfl
    cases hv : vals i 3 <;> rw [hv] at this <;> cases this
    assumption
theorem granted_in (A : Option Addr) (cap : Nat) (a : Est) (p t : Int) (hlc : a.evs.length ≤ cap) (hwf : ∀ x ∈ a.evs, (Lit.int .i64 x.prin).wf = true) (w : World) (hA : a.evs ≠ [] → ∃ b off, A = some ⟨b, off, none⟩ ∧ b < w.heap.size ∧ AccAt w b off a.evs)
    (hkn : ∀ W, Below w.heap.size w W → Calls Try.prog 157 #[.agg #[.int .i64 a.places, .slice A a.evs.length cap], .int .i64 p] W fun e W' => e = .returned (.bool (estP a p)) ∧ Below W.heap.size W W') (hlen : estP a p = true → a.evs.length ≤ 1000000) :
    Calls Try.prog 186 #[.agg #[.int .i64 a.places, .slice A a.evs.length cap], .int .i64 p, .int .i64 t] w fun e w' => ∃ (v : Value) (l : List Int), e = .returned v ∧ (∀ q, q ∈ l ↔ estP a p = true ∧ q ∈ grS t p a.evs) ∧ (∀ q ∈ l, (Lit.int .i64 q).wf = true) ∧
      w'.ownsRow w.heap.size 3 1 v l.length (l.map (Value.int .i64)) ∧ Below w.heap.size w w' := by
  obtain ⟨i0, hi, hz0, hz1, hz2⟩ := info_parts Try.infoJ
  cases hk : estP a p with
  | false =>
    go_enter Try.func186, Try.ntmps186
    go_wp2_with (go_at_call 157; refine (hkn _ ((Below.refl _ w).alloc (Nat.le_refl _) _)).mono ?_; rintro e W1 ⟨rfl, hB1⟩; rw [hk])
    go_ret
    refine ⟨_, ([] : List Int), rfl, fun q => by simp [hk], fun q hq => by simp at hq, World.ownsRow_nil _ _ _ _, ((Below.refl _ w).alloc (Nat.le_refl _) _).trans (hB1.mono (by simp))⟩
  | true =>
    have hle := hlen hk
    go_enter Try.func186, Try.ntmps186
    go_wp2_with (first
      | (go_at_call 157; refine (hkn _ ((Below.refl _ w).alloc (Nat.le_refl _) _)).mono ?_; rintro e W1 ⟨rfl, hB1⟩; rw [hk]; obtain ⟨cb0, cb1⟩ := box_cells hB1; have hA1 : a.evs ≠ [] → ∃ b off, A = some ⟨b, off, none⟩ ∧ b < W1.heap.size ∧ AccAt W1 b off a.evs := (fun h => by obtain ⟨b, off, e, hb, hc⟩ := hA h; exact ⟨b, off, e, by have := hB1.size; simp at this; omega, hc.below (((Below.refl _ w).alloc (Nat.le_refl _) _).trans (hB1.mono (by simp))) hb⟩))
      | (go_at_call 206; refine (grants_in A cap a p t hlc hle hwf _ hA1).mono ?_; rintro e W2 ⟨rfl, hown, hB2⟩)
      | (at_range; refine wpList_range_own _ rfl _ 276 rfl 3 3 keyI Try.underlying276 _ _ _ _ rfl hown ?_; intro w0 hrg0 hg0 hs0)
      | go_in)
    have hB12 : Below w.heap.size w W2 := (((Below.refl _ w).alloc (Nat.le_refl _) _).trans (hB1.mono (by simp))).trans (hB2.mono (by have := hB1.size; simp at this; omega))
    have hblt := hown.lt
    have hsz := hown.size_le
    clear hs0
    go_frame
    go_loopw [7] (fun v wr => ∃ (left : Lit → Bool) (cnt : Nat) (ss : List Int), wr.ranges Try.prog 3 (plainElem Try.prog 3) (W1.heap.size + 1) W2.heap.size a.evs.length (dG t p a.evs a.evs.length) left cnt ∧ ss.length + cnt ≤ Maps.size (dG t p a.evs a.evs.length) ∧
        wr.ownsRow W2.heap.size 3 1 v ss.length (ss.map (Value.int .i64)) ∧ CollectedI (dG t p a.evs a.evs.length) left ss ∧ (∀ q ∈ ss, (Lit.int .i64 q).wf = true) ∧ Below W2.heap.size W2 wr)
      (fun _ wr => wr.rangeLeft (W1.heap.size + 1) W2.heap.size)
    case atStart =>
      exact ⟨_, _, [], hrg0, by simp, World.ownsRow_nil _ _ _ _, CollectedI.start _, fun q hq => by simp at hq, (Below.refl _ W2).grown hg0 (Nat.le_refl _) (fun j hj => by cases hj)⟩
    case round =>
      obtain ⟨left, cnt, ss, hrg, hcs, hrow, hC, hss, hnx⟩ := hrel
      go_wp2_with (first
        | (at_next; refine wpList_next_ranges_ii _ rfl _ rfl 3 3 .i64 .i64 keyI Try.underlying3 Try.underlying3 (W1.heap.size + 1) W2.heap.size a.evs.length _ _ _ rfl hrg ?_ ?_)
        | go_in)
      · intro hc0 hl0
        have hfin : ∀ q, q ∈ ss ↔ estP a p = true ∧ q ∈ grS t p a.evs := fun q => by
          have h1 := dG_has t p a.evs q a.evs.length (Nat.le_refl _)
          rw [List.take_length] at h1
          rw [hC.2 q, hl0, h1, hk]; simp
        have hzl : ss.length < 4611686018427387904 := by omega
        rcases hrow.2 with ⟨rfl, hz⟩ | ⟨g, cp, cur, rfl, hbase, hb, h1, h2, h3, h4⟩
        · have hc := srt_c.2.2 none 0 wr
          go_wp2_with (go_at_call 128; refine hc.mono ?_; rintro e w' ⟨rfl, rfl⟩)
          go_ret
          have : ss = [] := List.eq_nil_of_length_eq_zero hz
          subst this
          exact ⟨_, [], rfl, fun q => by simpa [hk] using hfin q, hss, World.ownsRow_nil _ _ _ _, hB12.trans (hnx.mono hB12.size)⟩
        · have hH : Holds (Value.int .i64) wr g 0 ss.toArray := holds_of_blockI hb (by simpa using h4)
          have hgl : g < wr.heap.size := (Array.getElem?_eq_some_iff.1 hb).1
          have hc := srt_c.2.1 g cp ss wr hH hgl hzl
          go_wp2_with (go_at_call 128; refine hc.mono ?_; rintro e w' ⟨rfl, nn, os, rfl⟩)
          go_ret
          have hgr := grownBy_sortedI (w := wr) (g := g) (n := nn) (os := os) (ss.mergeSort fun x y => decide (x ≤ y)).toArray
          have how := ownsRow_sortedI (w := wr) (base := w.heap.size) (n := nn) (os := os) (ss := ss) (ts := ss.mergeSort fun x y => decide (x ≤ y)) (by simp) (Nat.le_trans hB12.size hbase) hb h1 h2 h3
          refine ⟨_, ss.mergeSort (fun x y => decide (x ≤ y)), rfl, fun q => by rw [List.mem_mergeSort]; simpa [hk] using hfin q, fun q hq => hss q (List.mem_mergeSort.1 hq), ?_, (hB12.trans (hnx.mono hB12.size)).grown hgr (by have := hnx.size; have := hB12.size; omega) (fun j hj => by cases hj; have := hB12.size; omega)⟩
          rw [List.length_mergeSort]
          exact how
      · intro x c w1 cnt1 hwx hwc hlx hat hrg1 hlt hg1 hs1 hen
        have hrow1 := hrow.kept hg1 (Or.inr (row_ne_iter hrow hrg).symm)
        clear hs1
        go_wp2_with (first
          | (at_builtin; refine wpList_append_own _ rfl _ _ 22 rfl W2.heap.size 3 i0 (.int .i64 0) 1 8 Try.underlying22 hi hz0 hz1 hz2 rfl (by decide) _ _ _ rfl (hrow1.alloc _) ⟨w1.heap.size, 0, none⟩ 1 1 [.int .i64 x] rfl rfl (cell_one_new _ _ _) (by simp [Value.oneCell']) (by unfold maxLen at *; omega) (by omega) (by have := hnx.size; have := hg1.size; simp; omega) ?_; intro v' w3 hown' hg3 hnil3; go_frame)
          | go_in)
        have hrg3 := (hrg1.alloc _).kept hg3 (row_ne_low hrow1 hblt) (row_ne_iter hrow1 hrg1)
        refine ⟨⟨_, cnt1, ss ++ [x], hrg3, by simp; omega, by simpa using hown', hC.step hlx hat, fun q hq => ?_, ?_⟩, ?_⟩
        · rcases List.mem_append.1 hq with h | h
          · exact hss q h
          · simp only [List.mem_singleton] at h; subst h; exact hwx
        · exact ((hnx.grown hg1 hnx.size (fun j hj => by cases hj; exact Nat.le_refl _)).alloc (by have := hnx.size; have := hg1.size; omega) _).grown hg3 (by have := hnx.size; have := hg1.size; simp; omega) (fun j hj => (hrow1.lt j hj).1)
        · rw [hrg3.left_eq, hrg.left_eq]; exact hlt
theorem Granted_nd (a : Est) (p t : Int) : ICt 186 [a.v, iv p, iv t] (ND (fun l : List Int => ∀ q, q ∈ l ↔ estP a p = true ∧ q ∈ grS t p a.evs) lv) := by
  refine ⟨enters_of Try.func186 (by kernel_rfl) rfl, fun g w vals hβ hgi hsz hrep => ?_⟩
  obtain ⟨l⟩ := vals
  match l, hsz with
  | [x, y, z], _ =>
    have hx : RepSV Try.prog g w x a.v := hrep 0 x _ rfl rfl
    have hy : RepSV Try.prog g w y (iv p) := hrep 1 y _ rfl rfl
    have hz : RepSV Try.prog g w z (iv t) := hrep 2 z _ rfl rfl
    have hlt : ∀ b o, g.Rd b o → b < w.heap.size := fun b o hr => (hgi.rd b o hr).1
    have hev := est_wf hx
    obtain ⟨A, cap, rfl, hlc, hne⟩ := est_val hx
    obtain ⟨rfl, hpw⟩ := hy.int_inv
    obtain ⟨rfl, htw⟩ := hz.int_inv
    have hkn : ∀ W, Below w.heap.size w W → Calls Try.prog 157 #[.agg #[.int .i64 a.places, .slice A a.evs.length cap], .int .i64 p] W fun e W' => e = .returned (.bool (estP a p)) ∧ Below W.heap.size W W' := fun W hB => callsIn_wide.1 (known_at 0 hlt hx hy W hB)
    refine (granted_in A cap a p t hlc hev w (fun h => ?_) hkn fun hk => ?_).mono ?_
    · obtain ⟨b, off, e, ⟨o, hr⟩, hc⟩ := hne h
      exact ⟨b, off, e, hlt b o hr, hc⟩
    · have := (estB_iff.1 (by simp [estP] at hk; exact hk.1)).2.2.1
      omega
    · rintro e w' ⟨v, l, rfl, hl, hwf, hrow, hB⟩
      have hcell : ∀ b o, g.Rd b o → w'.cell? ⟨b, o, none⟩ = w.cell? ⟨b, o, none⟩ := fun b o hr => hB.cell (p := ⟨b, o, none⟩) (hlt b o hr)
      have hrowlen : ∀ row ∈ l.map irow, row.length = 1 := fun row hr => by
        obtain ⟨z, _, rfl⟩ := List.mem_map.1 hr; rfl
      have hval : ∀ (i j : Nat) (row : List Cell) (x : Cell), (l.map irow)[i]? = some row → row[j]? = some x → ∀ Rd, RepCell Rd w' (.int .i64 (l.getD i 0)) x := fun i j row x hi hj Rd => by
        rw [List.getElem?_map] at hi
        cases hz : l[i]? with
        | none => rw [hz] at hi; cases hi
        | some z =>
          rw [hz] at hi
          simp at hi
          subst hi
          have hj0 : j = 0 := by have := (List.getElem?_eq_some_iff.1 hj).1; simp [irow] at this; omega
          subst hj0
          simp [irow] at hj
          subst hj
          have := hwf z (List.mem_of_getElem? hz)
          rw [List.getD_eq_getElem?_getD, hz]
          exact .int .i64 z this
      let Rd' : Nat → Nat → Prop := fun b o => g.Rd b o ∨ (w.heap.size ≤ b ∧ b < w'.heap.size)
      have hfut : Fut g.Rd Rd' w w' := ⟨fun _ _ h => .inl h, hcell⟩
      refine ⟨_, lv l, ⟨g.β, g.κ, Rd', g.tp, g.tl, fun _ => none⟩, ⟨l, hl, rfl⟩, rfl, rfl, ?_, ⟨fun _ _ h => .inl h, fun _ _ h => h, Keep.below hB fun k hk => .inr hk, fun tb htb => ?_⟩⟩
      · refine .one (.d ?_)
        obtain ⟨r1, ⟨rfl, r2⟩ | ⟨G, cap, cur, rfl, r3, r4, r5, r6, r7, r8⟩⟩ := hrow
        · have : l = [] := List.eq_nil_of_length_eq_zero r2
          subst this
          exact .list none 0 [] 1 (fun _ _ => .bool false) (fun _ => rfl) (Nat.le_refl _) (Nat.zero_le _) (fun _ h => (by cases h)) (fun i j hi => (by simp at hi)) (fun i j row x hi => (by simp at hi))
        · have hll : l.length = (l.map irow).length := by simp
          rw [hll] at r5 ⊢
          refine .list _ cap _ 1 (fun i _ => .int .i64 (l.getD i 0)) (fun h => (by cases h)) r5 r6 hrowlen (fun i j hi hj => ?_) (fun i j row x hi hj => hval i j row x hi hj _)
          have hi2 : i < l.length := by simpa using hi
          have hj0 : j = 0 := by omega
          subst hj0
          refine ⟨G, 0, rfl, .inr ⟨r3, (Array.getElem?_eq_some_iff.1 r4).1⟩, ?_⟩
          have hcur : cur[i]? = some (.int .i64 (l.getD i 0)) := by
            have h1 : (cur.toList.take (l.length * 1))[i]? = some (.int .i64 (l.getD i 0)) := by
              rw [r8, List.getElem?_map, List.getD_eq_getElem?_getD, List.getElem?_eq_getElem hi2]; rfl
            rw [List.getElem?_take, if_pos (by omega)] at h1
            simpa using h1
          simp only [Nat.mul_one, Nat.add_zero, Nat.zero_add]
          unfold World.cell?
          simp [r4, hcur]
      · obtain ⟨h1, h2⟩ := hgi.tape tb htb
        exact h2.keep hfut ((Keep.below hB (S := fun k => w.heap.size ≤ k) fun _ h => h).block tb (by omega))
end Go.Proofs.Ytcbppkfnfbdkhaa
