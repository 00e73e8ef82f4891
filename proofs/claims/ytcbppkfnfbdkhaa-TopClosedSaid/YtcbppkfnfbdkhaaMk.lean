/- access.Linked: the contract. -/
import Derived.Test.YtcbppkfnfbdkhaaMj
set_option linter.all false
set_option maxRecDepth 100000
set_option maxHeartbeats 4000000
namespace Go.Proofs.Ytcbppkfnfbdkhaa
open Go.RowKit Go.Shelf
theorem lnkR_le (t p : Int) : ∀ l : List Acc, 0 ≤ (lnkR t p l).1 ∧ (lnkR t p l).1 ≤ l.length
  | [] => by simp [lnkR]
  | x :: l => by
    have ih := lnkR_le t p l
    rw [lnkR, List.length_cons]
    split
    · omega
    · split
      · simp; omega
      · split
        · simp; omega
        · omega
theorem RepSV.agg_d {g g' : Gh} {w w' : World} {v : Value} {cs : List Cell} (h : RepSV Try.prog g w v (.agg (cs.map .d))) (hR : ∀ b o, g.Rd b o → g'.Rd b o) (hw : ∀ b o, g.Rd b o → w'.cell? ⟨b, o, none⟩ = w.cell? ⟨b, o, none⟩) : RepSV Try.prog g' w' v (.agg (cs.map .d)) := by
  obtain ⟨vs, rfl, hs, hr⟩ := h.agg_inv
  refine .agg _ _ hs fun j v c h1 h2 => ?_
  have h3 := hr j v c h1 h2
  rw [List.getElem?_map] at h2
  cases hc : cs[j]? with
  | none => rw [hc] at h2; cases h2
  | some x =>
    rw [hc] at h2
    simp at h2
    subst h2
    cases h3
    rename_i h4
    exact .d (h4.mono hR hw)
theorem RepSV.one_d {g g' : Gh} {w w' : World} {v : Value} {c : Cell} (h : RepSV Try.prog g w v (.one (.d c))) (hR : ∀ b o, g.Rd b o → g'.Rd b o) (hw : ∀ b o, g.Rd b o → w'.cell? ⟨b, o, none⟩ = w.cell? ⟨b, o, none⟩) : RepSV Try.prog g' w' v (.one (.d c)) := by
  have h3 := h.one_inv
  cases h3
  rename_i h4
  exact .one (.d (h4.mono hR hw))
theorem est_val {g : Gh} {w : World} {v : Value} {a : Est} (h : RepSV Try.prog g w v a.v) : ∃ A cap, v = .agg #[.int .i64 a.places, .slice A a.evs.length cap] ∧ a.evs.length ≤ cap ∧ (a.evs ≠ [] → ∃ b off, A = some ⟨b, off, none⟩ ∧ (∃ o, g.Rd b o) ∧ AccAt w b off a.evs) := by
  obtain ⟨⟨l⟩, rfl, hs, hr⟩ := h.agg_inv
  match l, hs with
  | [x, y], _ =>
    have hx := hr 0 x _ rfl rfl
    have hy := hr 1 y _ rfl rfl
    cases hx; rename_i hx; cases hx
    cases hy; rename_i hy
    obtain ⟨A, cap, sz, vals, rfl, q0, q1, q2, q3, q4, q5⟩ := hy.list_inv
    rw [List.length_map] at q1 q4 ⊢
    refine ⟨A, cap, rfl, q1, fun hne => ?_⟩
    obtain ⟨x0, hx0⟩ : ∃ x, a.evs[0]? = some x := by
      cases he : a.evs with
      | nil => exact absurd he hne
      | cons y l => exact ⟨y, rfl⟩
    have h0 := (List.getElem?_eq_some_iff.1 hx0).1
    have hs7 : sz = 7 := (q3 (Acc.row x0) (List.mem_map.2 ⟨x0, List.mem_of_getElem? hx0, rfl⟩)).symm
    subst hs7
    obtain ⟨b, off, rfl, hrd, _⟩ := q4 0 0 h0 (by omega)
    refine ⟨b, off, rfl, ⟨_, hrd⟩, fun i x hx => ?_⟩
    have hi := (List.getElem?_eq_some_iff.1 hx).1
    have hrow : (a.evs.map Acc.row)[i]? = some x.row := by rw [List.getElem?_map, hx]; rfl
    have key : ∀ (j : Nat) (k : Int), j < 7 → x.row[j]? = some (.int .i64 k) → w.cell? ⟨b, off + (i * 7 + j), none⟩ = some (.int .i64 k) := fun j k hj hk => by
      obtain ⟨b', o', e, _, hc⟩ := q4 i j hi hj
      cases e
      rw [hc]
      have := q5 i j _ _ hrow hk
      cases hv : vals i j <;> rw [hv] at this <;> cases this
      rfl
    refine ⟨key 0 _ (by omega) rfl, ?_, ?_, ?_, ?_, ?_, ?_⟩
    · exact key 1 _ (by omega) rfl
    · exact key 2 _ (by omega) rfl
    · exact key 3 _ (by omega) rfl
    · exact key 4 _ (by omega) rfl
    · exact key 5 _ (by omega) rfl
    · exact key 6 _ (by omega) rfl
abbrev gh0 (g : Gh) : Gh := ⟨fun _ => none, g.κ, g.Rd, none, g.tl, fun _ => none⟩
theorem gi0 {T : TypeId} (g : Gh) (W : World) (hlt : ∀ b o, g.Rd b o → b < W.heap.size) : GI T (Gh.org (gh0 g) W) (gh0 g) [] W :=
  ⟨fun r r' b h => (by cases h), fun r b h => (by cases h), fun b o h => ⟨hlt b o h, (by simp), fun r h => (by cases h)⟩, Keep.refl _ _, fun tb h => (by cases h), ⟨fun _ _ h => h, fun _ _ h => .inl h, fun tb h => (by cases h), fun tb h => (by cases h)⟩, fun c o h => (by cases h)⟩
theorem known_at {g : Gh} {w : World} {v u : Value} {a : Est} {p : Int} (n : Nat) (hlt : ∀ b o, g.Rd b o → b < w.heap.size) (hv : RepSV Try.prog g w v a.v) (hu : RepSV Try.prog g w u (iv p)) (W : World) (hB : Below w.heap.size w W) :
    CallsIn Fence.wide n Try.prog 157 #[v, u] W fun e W' => e = .returned (.bool (estP a p)) ∧ Below W.heap.size W W' := by
  have hw : ∀ b o, g.Rd b o → W.cell? ⟨b, o, none⟩ = w.cell? ⟨b, o, none⟩ := fun b o hr => hB.cell (p := ⟨b, o, none⟩) (hlt b o hr)
  refine callsIn_wide.2 (((aknown_ic a p).2 (gh0 g) W #[v, u] (fun _ => rfl) (gi0 g W fun b o hr => by have := hlt b o hr; have := hB.size; omega) rfl fun j x sv hx hsv => ?_).mono ?_)
  · match j with
    | 0 => cases hx; cases hsv; exact RepSV.agg_d (g := g) (cs := a.row) hv (fun _ _ h => h) hw
    | 1 => cases hx; cases hsv; exact RepSV.one_d (g := g) hu (fun _ _ h => h) hw
    | j + 2 => simp at hx
  · rintro e W' ⟨x, sv, g', rfl, _, rfl, hrep, hE⟩
    exact ⟨by rw [hrep.bool_inv], hE.keep.to_below fun k hk => by
      rcases hk with hk | hk
      · cases hk
      · exact hk⟩
theorem Linked_ic (a : Est) (p t : Int) : ICt 119 [a.v, iv p, iv t] (fun v => v = .tup [iv (linkS a p t).1, bv (linkS a p t).2]) := by
  refine ⟨enters_of Try.func119 (by kernel_rfl) rfl, fun g w vals hβ hgi hsz hrep => ?_⟩
  obtain ⟨l⟩ := vals
  match l, hsz with
  | [x, y, z], _ =>
    have hx : RepSV Try.prog g w x a.v := hrep 0 x _ rfl rfl
    have hy : RepSV Try.prog g w y (iv p) := hrep 1 y _ rfl rfl
    have hz : RepSV Try.prog g w z (iv t) := hrep 2 z _ rfl rfl
    have hlt : ∀ b o, g.Rd b o → b < w.heap.size := fun b o hr => (hgi.rd b o hr).1
    obtain ⟨A, cap, rfl, hlc, hne⟩ := est_val hx
    obtain ⟨rfl, hpw⟩ := hy.int_inv
    obtain ⟨rfl, htw⟩ := hz.int_inv
    have hkn := fun W hB => known_at (5 - 1) hlt hx hy W hB
    have fin : ∀ (r : Int × Bool), r = linkS a p t → ∀ (e : Ending) (W' : World), (e = Ending.returned (.tuple #[.int .i64 r.1, .bool r.2]) ∧ Below w.heap.size w W') → ∃ v sv g', sv = .tup [iv (linkS a p t).1, bv (linkS a p t).2] ∧ sv.pl = true ∧ e = .returned v ∧ RepSV Try.prog g' W' v sv ∧ ExtC 25 g g' w W' := by
      rintro r rfl e W' ⟨rfl, hB⟩
      have hwf : (Lit.int .i64 (linkS a p t).1).wf = true := by
        have h1 : 0 ≤ (linkS a p t).1 ∧ (linkS a p t).1 ≤ 120 := by
          unfold linkS
          split
          · rename_i hk
            have h1 := lnkR_le t p a.evs.reverse
            rw [List.length_reverse] at h1
            have h2 := (estB_iff.1 (by simp [estP] at hk; exact hk.1)).2.2.1
            omega
          · simp
        simp [Lit.wf, IntKind.min, IntKind.max, IntKind.bits, IntKind.signed]; omega
      refine ⟨_, _, g, rfl, rfl, rfl, .tup _ _ rfl fun j v c h1 h2 => ?_, ⟨fun _ _ h => h, fun _ _ h => .inl h, Keep.below hB fun k hk => .inr hk, fun tb htb => ?_⟩⟩
      · match j with
        | 0 => cases h1; cases h2; exact .one (.d (.int _ _ hwf))
        | 1 => cases h1; cases h2; exact .one (.d (.bool _))
        | j + 2 => simp at h1
      · obtain ⟨h1, h2⟩ := hgi.tape tb htb
        exact h2.keep ⟨fun _ _ h => h, fun b o hr => hB.cell (p := ⟨b, o, none⟩) (hlt b o hr)⟩ (hB.block tb h1)
    suffices hw : CallsIn Fence.wide 5 Try.prog 119 #[.agg #[.int .i64 a.places, .slice A a.evs.length cap], .int .i64 p, .int .i64 t] w (fun e w' => ∃ v sv g', sv = .tup [iv (linkS a p t).1, bv (linkS a p t).2] ∧ sv.pl = true ∧ e = .returned v ∧ RepSV Try.prog g' w' v sv ∧ ExtC 25 g g' w w') from callsIn_wide.1 hw
    cases hk : estP a p with
    | false =>
      refine (linked_no Fence.wide 5 trivial trivial rfl (by omega) A cap a p t w hk hkn).mono ?_
      exact fun e W' h => fin (0, false) (by unfold linkS; rw [hk]; rfl) e W' h
    | true =>
      have hev := (estB_iff.1 (by simp [estP] at hk; exact hk.1)).2.2.1
      refine (linked_some Fence.wide 5 trivial trivial trivial trivial rfl (by omega) A cap a p t w ?_ hk hkn).mono ?_
      · intro W Bs hB hBs
        by_cases he : a.evs = []
        · rw [he] at hBs ⊢
          exact back_stops0 Fence.wide _ trivial rfl Bs _ cap A W hBs
        · obtain ⟨b, off, rfl, ⟨o, hrd⟩, hc⟩ := hne he
          have hb := hlt _ _ hrd
          exact back_stops Fence.wide _ trivial rfl (by omega) Bs _ b off cap a.evs hb hlc (by omega) W hB.size hBs (hc.below hB hb)
      · exact fun e W' h => fin _ (by unfold linkS; rw [if_pos hk]) e W' h
end Go.Proofs.Ytcbppkfnfbdkhaa
