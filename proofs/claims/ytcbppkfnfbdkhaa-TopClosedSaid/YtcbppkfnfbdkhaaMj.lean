/- access.Linked, walked. -/
import Derived.Test.YtcbppkfnfbdkhaaMi
set_option linter.all false
set_option maxRecDepth 100000
set_option maxHeartbeats 4000000
namespace Go.Proofs.Ytcbppkfnfbdkhaa
open Go.RowKit Go.Shelf
attribute [local go_sem] Oper.semAt_some
def hitS (t p : Int) (x : Acc) (i : Int) : Option (Int × Bool) := if t < x.time ∨ x.place ≠ p then none else if x.kind = 4 then some (0, false) else if x.kind = 3 ∧ t < x.til then some (i, true) else none
theorem lnk_cons (t p : Int) (x : Acc) (l : List Acc) : lnkR t p (x :: l) = (hitS t p x l.length).getD (lnkR t p l) := by
  rw [lnkR]; unfold hitS
  split
  · rfl
  · split
    · rfl
    · split <;> rfl
theorem lnk_go {t p : Int} {evs : List Acc} : ∀ k : Nat, k ≤ evs.length → (∀ i ∈ dn evs.length k, hitS t p (gt evs (i : Int)) i = none) → lnkR t p evs.reverse = lnkR t p (evs.take (evs.length - k)).reverse
  | 0, _, _ => by rw [Nat.sub_zero, List.take_length]
  | k + 1, hk, h => by
    have h1 := h (evs.length - 1 - k) (by rw [dn_succ]; simp)
    rw [lnk_go k (by omega) fun i hi => h i (by rw [dn_succ]; exact List.mem_append_left _ hi)]
    rw [show evs.length - k = (evs.length - 1 - k) + 1 by omega, take_snoc (by omega), List.reverse_append, List.reverse_singleton, List.singleton_append, lnk_cons]
    have hl : ((evs.take (evs.length - 1 - k)).reverse.length : Int) = ((evs.length - 1 - k : Nat) : Int) := by simp; omega
    rw [hl, h1, show evs.length - (k + 1) = evs.length - 1 - k by omega]; rfl
theorem lnk_hit {t p : Int} {evs : List Acc} {k : Nat} (hk : k < evs.length) (h : ∀ i ∈ dn evs.length k, hitS t p (gt evs (i : Int)) i = none) {r : Int × Bool} (hr : hitS t p (gt evs ((evs.length - 1 - k : Nat) : Int)) ((evs.length - 1 - k : Nat) : Int) = some r) : lnkR t p evs.reverse = r := by
  rw [lnk_go k (by omega) h]
  rw [show evs.length - k = (evs.length - 1 - k) + 1 by omega, take_snoc (by omega), List.reverse_append, List.reverse_singleton, List.singleton_append, lnk_cons]
  have hl : ((evs.take (evs.length - 1 - k)).reverse.length : Int) = ((evs.length - 1 - k : Nat) : Int) := by simp; omega
  rw [hl, hr]; rfl
theorem lnk_no {t p : Int} {evs : List Acc} (h : ∀ i ∈ dn evs.length evs.length, hitS t p (gt evs (i : Int)) i = none) : lnkR t p evs.reverse = (0, false) := by
  rw [lnk_go evs.length (Nat.le_refl _) h, Nat.sub_self]; rfl
structure St5 (w W : World) (sl : Value) (p t : Int) (r : Int) (q : Bool) : Prop where
  B : Below w.heap.size w W
  sz : w.heap.size + 5 ≤ W.heap.size
  c : W.cell? ⟨w.heap.size, 1, none⟩ = some sl
  b1 : Boxed W (w.heap.size + 1) 3 (.int .i64 p)
  b2 : Boxed W (w.heap.size + 1 + 1) 3 (.int .i64 t)
  b3 : Boxed W (w.heap.size + 1 + 1 + 1) 3 (.int .i64 r)
  b4 : Boxed W (w.heap.size + 1 + 1 + 1 + 1) 4 (.bool q)
def w5 (w : World) (v sl : Value) (p t : Int) : World := (((((w.alloc (.cells #[v, sl] 76)).alloc (.cells #[.int .i64 p] 3)).alloc (.cells #[.int .i64 t] 3)).alloc (.cells #[.int .i64 0] 3)).alloc (.cells #[.bool false] 4))
theorem w5_st (w : World) (v sl : Value) (p t : Int) : St5 w (w5 w v sl p t) sl p t 0 false := by
  have a0 : Boxed ((w.alloc (.cells #[v, sl] 76)).alloc (.cells #[.int .i64 p] 3)) (w.heap.size + 1) 3 (.int .i64 p) := by
    have := Boxed.new (w.alloc (.cells #[v, sl] 76)) 3 (.int .i64 p)
    rwa [World.size_alloc] at this
  refine ⟨?_, by unfold w5; simp, ?_, ?_, ?_, ?_, ?_⟩
  · exact ((((((Below.refl _ w).alloc (Nat.le_refl _) _).alloc (by simp) _).alloc (by simp; omega) _).alloc (by simp; omega) _).alloc (by simp; omega) _)
  · have hb : Blk (w5 w v sl p t) w.heap.size 76 #[v, sl] := ((((Blk.new w _ _).alloc _).alloc _).alloc _).alloc _
    rw [hb.cell]; rfl
  · exact ((a0.alloc _).alloc _).alloc _
  · have := Boxed.new ((w.alloc (.cells #[v, sl] 76)).alloc (.cells #[.int .i64 p] 3)) 3 (.int .i64 t)
    simp only [World.size_alloc] at this
    exact (this.alloc _).alloc _
  · have := Boxed.new (((w.alloc (.cells #[v, sl] 76)).alloc (.cells #[.int .i64 p] 3)).alloc (.cells #[.int .i64 t] 3)) 3 (.int .i64 0)
    simp only [World.size_alloc] at this
    exact this.alloc _
  · have := Boxed.new ((((w.alloc (.cells #[v, sl] 76)).alloc (.cells #[.int .i64 p] 3)).alloc (.cells #[.int .i64 t] 3)).alloc (.cells #[.int .i64 0] 3)) 4 (.bool false)
    simp only [World.size_alloc] at this
    exact this
theorem St5.later' {w W W' : World} {sl : Value} {p t r : Int} {q : Bool} (h : St5 w W sl p t r q) (hB : Below (w.heap.size + 5) W W') : St5 w W' sl p t r q := by
  have hz := h.sz
  have hs := hB.size
  refine ⟨h.B.trans (hB.mono (by omega)), by omega, ?_, ?_, ?_, ?_, ?_⟩
  · rw [hB.cell (p := ⟨w.heap.size, 1, none⟩) (by show w.heap.size < _; omega)]; exact h.c
  · exact (hB.block _ (by omega)).trans h.b1
  · exact (hB.block _ (by omega)).trans h.b2
  · exact (hB.block _ (by omega)).trans h.b3
  · exact (hB.block _ (by omega)).trans h.b4
theorem St5.later {w W W' : World} {sl : Value} {p t r : Int} {q : Bool} (h : St5 w W sl p t r q) (hB : Below W.heap.size W W') : St5 w W' sl p t r q := h.later' (hB.mono h.sz)
theorem St5.kept {w W W' : World} {sl : Value} {p t r : Int} {q : Bool} {row : Option Nat} (h : St5 w W sl p t r q) (hg : W.grownBy W' row) (hr : ∀ k, row = some k → w.heap.size + 5 ≤ k) : St5 w W' sl p t r q :=
  h.later' ((Below.refl _ W).grown hg h.sz hr)
theorem hit0 {t p : Int} {y : Acc} (i : Int) (h : t < y.time ∨ (y.place != p) = true) : hitS t p y i = none := by
  unfold hitS; rw [if_pos (by simpa using h)]
theorem hit0' {t p : Int} {y : Acc} (i : Int) (h : t < y.time) : hitS t p y i = none := hit0 i (.inl h)
theorem hit1 {t p : Int} {y : Acc} (i : Int) (h : y.time ≤ t ∧ (y.place != p) = false) (k : (y.kind == 4) = true) : hitS t p y i = some (0, false) := by
  unfold hitS; rw [if_neg (by have := h.2; simp at this; simp [this]; omega), if_pos (by simpa using k)]
theorem hit2 {t p : Int} {y : Acc} (i : Int) (h : y.time ≤ t ∧ (y.place != p) = false) (k3 : y.kind = 3) (ht : t < y.til) : hitS t p y i = some (i, true) := by
  unfold hitS; rw [if_neg (by have := h.2; simp at this; simp [this]; omega), if_neg (by omega), if_pos ⟨k3, ht⟩]
theorem hit3 {t p : Int} {y : Acc} (i : Int) (h : y.time ≤ t ∧ (y.place != p) = false) (k : (y.kind == 4) = false) (k3 : y.kind ≠ 3 ∨ y.til ≤ t) : hitS t p y i = none := by
  unfold hitS; rw [if_neg (by have := h.2; simp at this; simp [this]; omega), if_neg (by simpa using k), if_neg (by omega)]
theorem St5.put {w W : World} {sl : Value} {p t r : Int} {q : Bool} (h : St5 w W sl p t r q) (r' : Int) (q' : Bool) : St5 w ((W.setCell ⟨w.heap.size + 1 + 1 + 1, 0, none⟩ (.int .i64 r')).setCell ⟨w.heap.size + 1 + 1 + 1 + 1, 0, none⟩ (.bool q')) sl p t r' q' := by
  have g1 := grownBy_setCell' W (w.heap.size + 1 + 1 + 1) (.int .i64 r')
  have g2 := grownBy_setCell' (W.setCell ⟨w.heap.size + 1 + 1 + 1, 0, none⟩ (.int .i64 r')) (w.heap.size + 1 + 1 + 1 + 1) (.bool q')
  have hz := h.sz
  refine ⟨(h.B.setCell (p := ⟨w.heap.size + 1 + 1 + 1, 0, none⟩) (by show w.heap.size ≤ w.heap.size + 1 + 1 + 1; omega) _).setCell (p := ⟨w.heap.size + 1 + 1 + 1 + 1, 0, none⟩) (by show w.heap.size ≤ w.heap.size + 1 + 1 + 1 + 1; omega) _, ?_, ?_, ?_, ?_, ?_, ?_⟩
  · have := g1.size; have := g2.size; omega
  · exact g2.cell (g1.cell h.c (by simp; omega)) (by simp; omega)
  · exact (h.b1.other (by omega) _).other (by omega) _
  · exact (h.b2.other (by omega) _).other (by omega) _
  · exact (h.b3.set _).other (by omega) _
  · exact (h.b4.other (by omega) _).set _
theorem results_two {fn : Func} {p u : Tmp} {t1 t2 : TypeId} (h : fn.results = #[.cell p t1, .cell u t2]) {tmps : Array Value} {a b : Addr} {x y : Value} {w : World} (hp : tmps.getD p undef = .pointer (some a)) (hu : tmps.getD u undef = .pointer (some b)) (h1 : oneT Try.prog t1 = true) (h2 : oneT Try.prog t2 = true) (ha : w.cell? a = some x) (hb : w.cell? b = some y) :
    (results fn tmps).run Try.prog w = .ok (.tuple #[x, y]) w := by
  have hp' : tmps[p]?.getD undef = .pointer (some a) := by simpa using hp
  have hu' : tmps[u]?.getD undef = .pointer (some b) := by simpa using hu
  simp [results, h, Sem.run_bind, Result.andThen, hp', hu', asAddr, run_load_one h1 ha, run_load_one h2 hb]
def lkI (w : World) (sl : Value) (p t : Int) (evs : List Acc) (pre : List Nat) (W : World) : Prop := St5 w W sl p t 0 false ∧ ∀ i ∈ pre, hitS t p (gt evs ((i : Nat) : Int)) i = none
def lkX (w : World) (sl : Value) (p t : Int) (evs : List Acc) (c : Code) (pre : List Nat) (W : World) : Prop := c = .ret ∧ ∃ pre' x r, pre = pre' ++ [x] ∧ (∀ i ∈ pre', hitS t p (gt evs ((i : Nat) : Int)) i = none) ∧ hitS t p (gt evs ((x : Nat) : Int)) x = some r ∧ St5 w W sl p t r.1 r.2
theorem linked_some (F : Fence) (n : Nat) (hF1 : F.fn 119) (hF2 : F.fn 158) (hF3 : F.fn 183) (hF4 : F.fn 157) (hro : F.round = none) (hn : 3 ≤ n) (A : Option Addr) (cap : Nat) (a : Est) (p t : Int) (w : World) (hseq : ∀ W Bs, Below w.heap.size w W → Boxed W Bs 74 (.slice A a.evs.length cap) → SeqStopsK F (n - 1) Try.prog 183 #[.pointer (some ⟨Bs, 0, none⟩)] (bkE a.evs) (KpB w.heap.size Bs (.slice A a.evs.length cap)) (fun ys => ys = dn a.evs.length a.evs.length) (fun pre => ∃ k, k < a.evs.length ∧ pre = dn a.evs.length (k + 1)) a.evs.length W) (hk : estP a p = true)
    (hkn : ∀ W, Below w.heap.size w W → CallsIn F (n - 1) Try.prog 157 #[.agg #[.int .i64 a.places, .slice A a.evs.length cap], .int .i64 p] W fun e W' => e = .returned (.bool (estP a p)) ∧ Below W.heap.size W W') :
    CallsIn F n Try.prog 119 #[.agg #[.int .i64 a.places, .slice A a.evs.length cap], .int .i64 p, .int .i64 t] w fun e W' => e = .returned (.tuple #[.int .i64 (lnkR t p a.evs.reverse).1, .bool (lnkR t p a.evs.reverse).2]) ∧ Below w.heap.size w W' := by
  have h1 : 1 ≤ n := by omega
  refine callsIn_of_wp_marks Try.func119 rfl hF1 ?_ hro
  simp only [Try.ntmps119, List.size_toArray, List.length_cons, List.length_nil, Nat.reduceAdd, Nat.reduceSub, Array.replicate_succ, Array.replicate_zero, List.push_toArray, List.append_toArray, List.nil_append, List.cons_append]
  gi_wp2_with (first
    | (gi_at_call 157; refine (hkn _ (w5_st w _ _ p t).B).mono ?_; rintro e W1 ⟨rfl, hB1⟩; have st := (w5_st w _ _ p t).later hB1; have cst := st.c)
    | (gi_at_call 158; refine (backward_in F (n - 1) hF2 hro _ _ _ _).mono ?_; rintro e w' ⟨rfl, rfl⟩))
  have hz5 := st.sz
  have bS := Boxed.new W1 74 (.slice A a.evs.length cap)
  have stS := st.later (((Below.refl W1.heap.size W1).alloc (Nat.le_refl _) (.cells #[.slice A a.evs.length cap] 74)))
  refine wpIn_rangeFunc_ownH hro h1 (gf := 183) (lb := #[.pointer (some ⟨W1.heap.size, 0, none⟩)]) rfl hF3 (enters_of Try.func183 (by kernel_rfl) rfl)
    (hseq _ _ stS.B bS) KpB.trans
    (fun W l o o' hl h hc hw => ⟨belowK_b (w := w) (Nat.le_refl _) W l o o' (by simp at hl; omega) h hc hw, fun q => q.kept (grownBy_putObj' W l o') (by simp at hl ⊢; omega)⟩) (Below.refl _ _) (fun _ => rfl)
    (lkI w (.slice A a.evs.length cap) p t a.evs) (lkX w (.slice A a.evs.length cap) p t a.evs)
    ?ownI ?ownIx ⟨stS, fun i hi => by cases hi⟩
    (fun x a' W => ∃ b9, w.heap.size + 5 ≤ b9 ∧ a' = { tmps := #[.agg #[.int .i64 a.places, .slice A a.evs.length cap], .int .i64 p, .int .i64 t, .pointer (some ⟨w.heap.size, 0, none⟩), .pointer (some ⟨w.heap.size + 1, 0, none⟩), .pointer (some ⟨w.heap.size + 1 + 1, 0, none⟩), .pointer (some ⟨w.heap.size + 1 + 1 + 1, 0, none⟩), .pointer (some ⟨w.heap.size + 1 + 1 + 1 + 1, 0, none⟩), .int .i64 (x : Int), .pointer (some ⟨b9, 0, none⟩), .agg #[.int .i64 a.places, .slice A a.evs.length cap], .int .i64 p, .bool true, .bool false, .pointer (some ⟨w.heap.size, 1, none⟩), .slice A a.evs.length cap, .func (.func 183) #[] #[.pointer (some ⟨W1.heap.size, 0, none⟩)], .int .i64 (x : Int), accV (gt a.evs (x : Int)), undef, undef, undef, undef, undef, undef, undef, undef, undef, undef, undef, undef, undef, undef, undef, undef, undef, undef, undef, undef, undef, undef, undef, undef, undef, undef], defers := [] } ∧ Blk W b9 82 #[.int .i64 (gt a.evs (x : Int)).time, .int .i64 (gt a.evs (x : Int)).kind, .int .i64 (gt a.evs (x : Int)).place, .int .i64 (gt a.evs (x : Int)).prin, .int .i64 (gt a.evs (x : Int)).til, .int .i64 (gt a.evs (x : Int)).cont, .int .i64 (gt a.evs (x : Int)).frm])
    ?ownA ?assign ?body ?done ?stop
  case ownI => exact fun pre X Y row hs hg hr => ⟨hs.1.kept hg (fun k e => by have := (hr k e).1; simp at this; omega), hs.2⟩
  case ownIx =>
    rintro c pre X Y row ⟨e, pre', x, r, h1, h2, h3, h4⟩ hg hr
    exact ⟨e, pre', x, r, h1, h2, h3, h4.kept hg (fun k e => by have := (hr k e).1; simp at this; omega)⟩
  case ownA =>
    rintro x a' _ X Y row ⟨b9, h9, e, hb⟩ hg hr
    refine ⟨b9, h9, e, (hg.block b9 hb.lt fun e' => ?_).trans hb⟩
    obtain ⟨_, o, ho, hc⟩ := hr b9 e'.symm
    rw [show X.heap[b9]? = _ from hb] at ho; cases ho; cases hc
  case assign =>
    rintro l pre x W K ⟨hst, hh⟩ hK
    dsimp only [bkE, accV]
    gi_wp2
    exact hK _ _ ((KeepsOthers.alloc W _).from _) ⟨(Below.refl _ W).alloc (by have := hst.sz; omega) _, fun q => q.alloc _⟩ ⟨hst.later ((Below.refl W.heap.size W).alloc (Nat.le_refl _) _), hh⟩ ⟨W.heap.size, hst.sz, rfl, Blk.new W _ _⟩
  case body =>
    rintro l pre x a' W hl hW ⟨hst, hh⟩ ⟨b9, hb9, rfl, hblk⟩ hlt
    have c0 := hblk.cell 0
    have c1 := hblk.cell 1
    have c2 := hblk.cell 2
    have c4 := hblk.cell 4
    simp only [List.getElem?_toArray, List.getElem?_cons_zero, List.getElem?_cons_succ] at c0 c1 c2 c4
    have cp := hst.b1.cell
    have ct := hst.b2.cell
    have cr := hst.b3.cell
    have cq := hst.b4.cell
    have fr := hst.b3.frozen
    have fq := hst.b4.frozen
    obtain ⟨y, hy⟩ : ∃ y, y = gt a.evs (x : Int) := ⟨_, rfl⟩
    rw [← hy] at c0 c1 c2 c4 hblk
    gi_wp2
    all_goals first
      | exact ⟨KeepsFrom.refl _ _, KpB.refl _ _ _ _, hst, fun i hi => by
          rcases List.mem_append.1 hi with q | q
          · exact hh i q
          · simp only [List.mem_singleton] at q
            subst q
            first | exact hit0 _ (by assumption) | exact hit0' _ (by assumption) | exact hit3 _ (by assumption) (by assumption) (.inl (by assumption)) | exact hit3 _ (by assumption) (by assumption) (.inr (by assumption))⟩
      | exact ⟨((KeepsOthers.setCell _ _ _).trans (KeepsOthers.setCell _ _ _)).from _, rfl, pre, x, _, rfl, hh, hit1 _ (by assumption) (by assumption), hst.put _ _⟩
      | exact ⟨((KeepsOthers.setCell _ _ _).trans (KeepsOthers.setCell _ _ _)).from _, rfl, pre, x, _, rfl, hh, hit2 _ (by assumption) (by assumption) (by assumption), hst.put _ _⟩
  case done =>
    rintro D ys W hD rfl ⟨hst, hh⟩ hKd
    have cr := hst.b3.cell
    have cq := hst.b4.cell
    have fr := hst.b3.frozen
    have fq := hst.b4.frozen
    gi_wp2
    have hst2 := hst.put 0 false
    have hKd2 : ((W.setCell ⟨w.heap.size + 1 + 1 + 1, 0, none⟩ (.int .i64 0)).setCell ⟨w.heap.size + 1 + 1 + 1 + 1, 0, none⟩ (.bool false)).heap[D]? = some (.deferred (some [])) := by
      have hk1 := (KeepsOthers.setCell W ⟨w.heap.size + 1 + 1 + 1, 0, none⟩ (.int .i64 0)).same D _ hKd rfl
      exact (KeepsOthers.setCell _ ⟨w.heap.size + 1 + 1 + 1 + 1, 0, none⟩ (.bool false)).same D _ hk1 rfl
    refine ⟨by simp, .inl ⟨_, _, rfl, run_takeDeferred hKd2, ?_⟩⟩
    have hst3 := hst2.kept (grownBy_putObj' _ D (.deferred none)) (fun k e => by simp at hD; cases e; omega)
    refine ⟨_, results_two rfl rfl rfl (by kernel_rfl) (by kernel_rfl) hst3.b3.cell hst3.b4.cell, ?_, hst3.B⟩
    rw [lnk_no hh]
  case stop =>
    rintro D c pre W hD hp ⟨rfl, pre', x, r, rfl, hh, hr, hst⟩ hKd
    obtain ⟨k, hk, hpe⟩ := hp
    rw [dn_succ] at hpe
    obtain ⟨rfl, hx⟩ := List.append_inj' hpe rfl
    simp only [List.cons.injEq, and_true] at hx
    subst hx
    gi_wp2
    refine ⟨by simp, .inl ⟨_, _, rfl, run_takeDeferred hKd, ?_⟩⟩
    have hst3 := hst.kept (grownBy_putObj' _ D (.deferred none)) (fun k e => by simp at hD; cases e; omega)
    refine ⟨_, results_two rfl rfl rfl (by kernel_rfl) (by kernel_rfl) hst3.b3.cell hst3.b4.cell, ?_, hst3.B⟩
    rw [lnk_hit hk hh hr]
theorem back_stops0 (F : Fence) (n : Nat) (hF : F.fn 183) (hro : F.round = none) (Bs n₀ cap : Nat) (A : Option Addr) (w : World) (hBs : Boxed w Bs 74 (.slice A 0 cap)) :
    SeqStopsK F n Try.prog 183 #[.pointer (some ⟨Bs, 0, none⟩)] (bkE []) (KpB n₀ Bs (.slice A 0 cap)) (fun ys => ys = dn 0 0) (fun pre => ∃ k, k < 0 ∧ pre = dn 0 (k + 1)) 0 w := fun l J Jx W hW hJ _ hY h0 => by
  have hb1 : Boxed W Bs 74 (.slice A 0 cap) := (hW.block _ hBs.lt).trans hBs
  refine (back0_in F n hF hro l Bs cap A J W hb1 h0).mono ?_
  rintro e W' ⟨he, h⟩
  exact ⟨he, .inl ⟨_, rfl, h⟩⟩
theorem linked_no (F : Fence) (n : Nat) (hF1 : F.fn 119) (hF4 : F.fn 157) (hro : F.round = none) (hn : 3 ≤ n) (A : Option Addr) (cap : Nat) (a : Est) (p t : Int) (w : World) (hk : estP a p = false)
    (hkn : ∀ W, Below w.heap.size w W → CallsIn F (n - 1) Try.prog 157 #[.agg #[.int .i64 a.places, .slice A a.evs.length cap], .int .i64 p] W fun e W' => e = .returned (.bool (estP a p)) ∧ Below W.heap.size W W') :
    CallsIn F n Try.prog 119 #[.agg #[.int .i64 a.places, .slice A a.evs.length cap], .int .i64 p, .int .i64 t] w fun e W' => e = .returned (.tuple #[.int .i64 0, .bool false]) ∧ Below w.heap.size w W' := by
  refine callsIn_of_wp_marks Try.func119 rfl hF1 ?_ hro
  simp only [Try.ntmps119, List.size_toArray, List.length_cons, List.length_nil, Nat.reduceAdd, Nat.reduceSub, Array.replicate_succ, Array.replicate_zero, List.push_toArray, List.append_toArray, List.nil_append, List.cons_append]
  have h1 : 1 ≤ n := by omega
  gi_wp2_with (first
    | (gi_at_call 157; refine (hkn _ (w5_st w _ _ p t).B).mono ?_; rintro e W1 ⟨rfl, hB1⟩; rw [hk]; have st := (w5_st w _ _ p t).later hB1; have cr := st.b3.cell; have cq := st.b4.cell; have fr := st.b3.frozen; have fq := st.b4.frozen))
  have s2 := st.put 0 false
  exact ⟨_, results_two rfl rfl rfl (by kernel_rfl) (by kernel_rfl) s2.b3.cell s2.b4.cell, rfl, s2.B⟩
end Go.Proofs.Ytcbppkfnfbdkhaa
