/- Estates: what Way finds. -/
import Derived.Test.YtoflahjlnbligaaCq
import Derived.Test.YtoflahjlnbligaaCn
set_option linter.all false
set_option maxRecDepth 20000
set_option maxHeartbeats 2000000
namespace Go.Proofs.Ytoflahjlnbligaa
open Go.RowKit Go.Shelf
def pvQ (a : Est) (c t n : Int) (w : List Int) (i : Int) : Prop := 0 ≤ gt w i ∧ gt w i < n ∧ (0 < i → gt w (i - 1) < gt w i) ∧ (gt a.evs (gt w i)).time ≤ t ∧
  (i = 0 → (gt a.evs (gt w i)).kind = 5 ∧ (gt a.evs (gt w i)).cont = c) ∧ (0 < i → (gt a.evs (gt w i)).kind = 7 ∧ (gt a.evs (gt w i)).frm = (gt a.evs (gt w (i - 1))).place) ∧ nrB a c (gt a.evs (gt w i)).place t (gt w i) (if i + 1 < (w.length : Int) then gt w (i + 1) else n) = true
def WOk (a : Est) (c t n p : Int) (v : List Int) : Prop := v.length ≠ 0 → (∀ i : Nat, i < v.length → pvQ a c t n v (i : Int)) ∧ (gt a.evs (gt v ((v.length : Int) - 1))).place = p
theorem WOk.nil (a : Est) (c t n p : Int) : WOk a c t n p [] := fun h => absurd rfl h
theorem WOk.ext {a : Est} {c t p : Int} {n : Nat} {v : List Int} (h : WOk a c t n p v) (hr : v.length ≠ 0 → remB c p t (gt a.evs (n : Int)) = false) : WOk a c t ((n : Int) + 1) p v := fun h0 => by
  obtain ⟨h1, h2⟩ := h h0
  have hr := hr h0
  refine ⟨fun i hi => ?_, h2⟩
  obtain ⟨q1, q2, q3, q4, q5, q6, q7⟩ := h1 i hi
  refine ⟨q1, by omega, q3, q4, q5, q6, ?_⟩
  by_cases e : (i : Int) + 1 < (v.length : Int)
  · rw [if_pos e] at q7 ⊢; exact q7
  · rw [if_neg e] at q7 ⊢
    rw [nrB_iff] at q7 ⊢
    intro j g1 g2 g3
    by_cases ej : (j : Int) < n
    · exact q7 j g1 g2 ej
    · obtain rfl : j = n := by omega
      have e2 : (v.length : Int) - 1 = i := by omega
      rw [e2] at h2
      rw [h2]; exact hr
theorem WOk.one {a : Est} {c t : Int} {n : Nat} (h5 : (gt a.evs (n : Int)).kind = 5) (hc : (gt a.evs (n : Int)).cont = c) (ht : (gt a.evs (n : Int)).time ≤ t) : WOk a c t ((n : Int) + 1) (gt a.evs (n : Int)).place [(n : Int)] := fun _ => by
  have e0 : gt [(n : Int)] 0 = n := rfl
  refine ⟨fun i hi => ?_, by rfl⟩
  obtain rfl : i = 0 := by simp at hi; omega
  refine ⟨?_, ?_, ?_, ?_, ?_, ?_, ?_⟩ <;> simp only [Int.natCast_zero, Int.ofNat_zero, e0]
  · omega
  · omega
  · intro h; omega
  · exact ht
  · intro _; exact ⟨h5, hc⟩
  · intro h; omega
  · rw [nrB_iff]; intro j g1 g2 g3
    exfalso
    rw [if_neg (by simp)] at g3
    omega
theorem WOk.app {a : Est} {c t q : Int} {n : Nat} {v : List Int} (h : WOk a c t n q v) (h0 : v.length ≠ 0) (h7 : (gt a.evs (n : Int)).kind = 7) (hq : (gt a.evs (n : Int)).frm = q) (ht : (gt a.evs (n : Int)).time ≤ t) : WOk a c t ((n : Int) + 1) (gt a.evs (n : Int)).place (v ++ [(n : Int)]) := fun _ => by
  obtain ⟨h1, h2⟩ := h h0
  have elast : gt (v ++ [(n : Int)]) (v.length : Int) = n := gt_app_r
  have eold : ∀ k : Int, 0 ≤ k → k < (v.length : Int) → gt (v ++ [(n : Int)]) k = gt v k := fun k g1 g2 => gt_app_l g1 g2
  have elen : ((v ++ [(n : Int)]).length : Int) = (v.length : Int) + 1 := by simp
  refine ⟨fun i hi => ?_, ?_⟩
  · have hi : i < v.length + 1 := by simpa using hi
    by_cases e : i < v.length
    · obtain ⟨q1, q2, q3, q4, q5, q6, q7⟩ := h1 i e
      have e1 := eold i (by omega) (by omega)
      refine ⟨?_, ?_, ?_, ?_, ?_, ?_, ?_⟩
      · rw [e1]; exact q1
      · rw [e1]; omega
      · intro hp; rw [e1, eold _ (by omega) (by omega)]; exact q3 hp
      · rw [e1]; exact q4
      · rw [e1]; exact q5
      · intro hp; rw [e1, eold _ (by omega) (by omega)]; exact q6 hp
      · rw [elen, if_pos (by omega), e1]
        by_cases e3 : (i : Int) + 1 < (v.length : Int)
        · rw [if_pos e3] at q7; rw [eold _ (by omega) (by omega)]; exact q7
        · rw [if_neg e3] at q7
          rw [show (i : Int) + 1 = (v.length : Int) by omega, elast]; exact q7
    · obtain rfl : i = v.length := by omega
      obtain ⟨r1, r2, _⟩ := h1 (v.length - 1) (by omega)
      rw [show ((v.length - 1 : Nat) : Int) = (v.length : Int) - 1 by omega] at r1 r2
      have e1 := eold ((v.length : Int) - 1) (by omega) (by omega)
      refine ⟨?_, ?_, ?_, ?_, ?_, ?_, ?_⟩
      · rw [elast]; omega
      · rw [elast]; omega
      · intro _; rw [elast, e1]; exact r2
      · rw [elast]; exact ht
      · intro h; omega
      · intro _; rw [elast, e1]; exact ⟨h7, by rw [hq, h2]⟩
      · rw [elen, if_neg (by omega), elast, nrB_iff]
        intro j g1 g2 g3; omega
  · rw [elen, show (v.length : Int) + 1 - 1 = (v.length : Int) by omega, elast]
structure WInv (a : Est) (c t : Int) (n : Int) (w : List (List Int)) (b : List Bool) : Prop where
  wl : (w.length : Int) = a.places
  bl : (b.length : Int) = a.places
  h : ∀ p : Int, 0 ≤ p → p < a.places → ((gt w p).length ≠ 0 ↔ gt b p = true) ∧ WOk a c t n p (gt w p)
theorem WInv.same {a : Est} {c t : Int} {n : Nat} {w : List (List Int)} {b : List Bool} (h : WInv a c t n w b) (hr : ∀ p : Int, 0 ≤ p → p < a.places → (gt w p).length ≠ 0 → remB c p t (gt a.evs (n : Int)) = false) : WInv a c t ((n : Int) + 1) w b :=
  ⟨h.wl, h.bl, fun p h0 h1 => ⟨(h.h p h0 h1).1, (h.h p h0 h1).2.ext (hr p h0 h1)⟩⟩
theorem WInv.set {a : Est} {c t : Int} {n : Nat} {w : List (List Int)} {b : List Bool} (h : WInv a c t n w b) {i : Int} (hi0 : 0 ≤ i) (hi1 : i < a.places) {v : List Int} {d : Bool} (hd : v.length ≠ 0 ↔ d = true) (hv : WOk a c t ((n : Int) + 1) i v) (hr : ∀ p : Int, p ≠ i → (gt w p).length ≠ 0 → remB c p t (gt a.evs (n : Int)) = false) : WInv a c t ((n : Int) + 1) (w.set i.toNat v) (b.set i.toNat d) := by
  have hwl := h.wl
  have hbl := h.bl
  refine ⟨by rw [List.length_set]; exact hwl, by rw [List.length_set]; exact hbl, fun p h0 h1 => ?_⟩
  rw [gt_setq (l := w) (v := v) hi0 h0 (by omega), gt_setq (l := b) (v := d) hi0 h0 (by omega)]
  by_cases e : p = i
  · subst e; rw [if_pos rfl, if_pos rfl]; exact ⟨hd, hv⟩
  · rw [if_neg e, if_neg e]; exact ⟨(h.h p h0 h1).1, (h.h p h0 h1).2.ext (hr p e)⟩
theorem set_gt {α : Type} [Inhabited α] {l : List α} {i : Int} {v : α} (h0 : 0 ≤ i) (h : i < (l.length : Int)) (e : v = gt l i) : l.set i.toNat v = l := by
  subst e
  rw [gt_eq (by omega)]
  exact List.set_getElem_self (by omega)
theorem remB_no {c p t : Int} {x : Acc} (h : ¬ (x.kind = 6 ∧ x.cont = c ∧ x.place = p ∧ x.time ≤ t)) : remB c p t x = false := by
  unfold remB; exact decide_eq_false h
def stepT (c t : Int) (b : List Bool) (x : Acc) : List Bool := if x.time ≤ t then stepB c b x else b
theorem WInv.step {a : Est} {c t : Int} {n : Nat} {w : List (List Int)} {b : List Bool} (h : WInv a c t n w b) (hx : accP a (gt a.evs (n : Int))) : WInv a c t ((n : Int) + 1) (wayE c t w n (gt a.evs (n : Int))) (stepT c t b (gt a.evs (n : Int))) := by
  have one := WOk.one (a := a) (c := c) (t := t) (n := n)
  have app := fun (v : List Int) => WOk.app (a := a) (c := c) (t := t) (q := (gt a.evs (n : Int)).frm) (n := n) (v := v)
  have same := h.same
  have st := fun (i : Int) (v : List Int) (d : Bool) => h.set (i := i) (v := v) (d := d)
  have hbl := h.bl
  have hh := h.h
  generalize gt a.evs (n : Int) = x at *
  obtain ⟨⟨g1, g2⟩, g3⟩ := hx
  unfold wayE stepT
  by_cases ht : x.time ≤ t
  · rw [if_neg (by omega), if_pos ht]
    unfold stepB
    by_cases e5 : x.kind = 5
    · rw [if_pos e5]
      have hr : ∀ p : Int, remB c p t x = false := fun p => remB_no (by omega)
      by_cases ec : x.cont = c
      · by_cases el : (gt w x.place).length = 0
        · rw [if_pos (show x.kind = 5 ∧ x.cont = c ∧ (gt w x.place).length = 0 from ⟨e5, ec, el⟩)]
          exact st _ _ _ g1 g2 (by simp [ec]) (one e5 ec ht) fun p _ _ => hr p
        · rw [if_neg (show ¬ (x.kind = 5 ∧ x.cont = c ∧ (gt w x.place).length = 0) from fun q => el q.2.2), if_neg (by omega), if_neg (by omega)]
          have hb := ((hh _ g1 g2).1).1 el
          rw [set_gt (v := gt b x.place || decide (x.cont = c)) g1 (by omega) (by simp [hb])]
          exact same fun p _ _ _ => hr p
      · rw [if_neg (show ¬ (x.kind = 5 ∧ x.cont = c ∧ (gt w x.place).length = 0) from fun q => ec q.2.1), if_neg (by omega), if_neg (by omega)]
        rw [set_gt (v := gt b x.place || decide (x.cont = c)) g1 (by omega) (by simp [ec])]
        exact same fun p _ _ _ => hr p
    · rw [if_neg e5, if_neg (show ¬ (x.kind = 5 ∧ x.cont = c ∧ (gt w x.place).length = 0) from fun q => e5 q.1)]
      by_cases e6 : x.kind = 6
      · rw [if_pos e6]
        by_cases ec : x.cont = c
        · rw [if_pos (show x.kind = 6 ∧ x.cont = c from ⟨e6, ec⟩)]
          exact st _ _ _ g1 g2 (by simp [ec]) (WOk.nil _ _ _ _ _) fun p hp _ => remB_no (by omega)
        · rw [if_neg (show ¬ (x.kind = 6 ∧ x.cont = c) from fun q => ec q.2), if_neg (by omega)]
          rw [set_gt (v := gt b x.place && !decide (x.cont = c)) g1 (by omega) (by simp [ec])]
          exact same fun p _ _ _ => remB_no (by omega)
      · rw [if_neg e6, if_neg (show ¬ (x.kind = 6 ∧ x.cont = c) from fun q => e6 q.1)]
        have hr : ∀ p : Int, remB c p t x = false := fun p => remB_no (by omega)
        by_cases e7 : x.kind = 7
        · rw [if_pos e7]
          have hf : 0 ≤ x.frm ∧ x.frm < a.places := by omega
          obtain ⟨b1, b2⟩ := hh _ g1 g2
          obtain ⟨b3, b4⟩ := hh _ hf.1 hf.2
          by_cases el : (gt w x.place).length = 0
          · have hb0 : gt b x.place = false := by
              cases hb : gt b x.place with
              | false => rfl
              | true => exact absurd el (b1.2 hb)
            by_cases ef : (gt w x.frm).length = 0
            · have hb1 : gt b x.frm = false := by
                cases hb : gt b x.frm with
                | false => rfl
                | true => exact absurd ef (b3.2 hb)
              rw [if_neg (show ¬ (x.kind = 7 ∧ (gt w x.place).length = 0 ∧ ¬ (gt w x.frm).length = 0) from fun q => q.2.2 ef), set_gt (v := gt b x.place || gt b x.frm) g1 (by omega) (by simp [hb1])]
              exact same fun p _ _ _ => hr p
            · have hb1 := b3.1 ef
              rw [if_pos (show x.kind = 7 ∧ (gt w x.place).length = 0 ∧ ¬ (gt w x.frm).length = 0 from ⟨e7, el, ef⟩)]
              exact st _ _ _ g1 g2 (by simp [hb1]) (app _ b4 ef e7 rfl ht) fun p _ _ => hr p
          · have hb := b1.1 el
            rw [if_neg (show ¬ (x.kind = 7 ∧ (gt w x.place).length = 0 ∧ ¬ (gt w x.frm).length = 0) from fun q => el q.2.1), set_gt (v := gt b x.place || gt b x.frm) g1 (by omega) (by simp [hb])]
            exact same fun p _ _ _ => hr p
        · rw [if_neg e7, if_neg (show ¬ (x.kind = 7 ∧ (gt w x.place).length = 0 ∧ ¬ (gt w x.frm).length = 0) from fun q => e7 q.1)]
          exact same fun p _ _ _ => hr p
  · rw [if_pos (by omega), if_neg ht]
    exact same fun p _ _ _ => remB_no (by omega)
def nowT (a : Est) (c t : Int) (n : Nat) : List Bool := (a.evs.take n).foldl (stepT c t) (List.replicate a.places.toNat false)
theorem nowT_all {a : Est} (h : estB a = true) (c t : Int) : nowT a c t a.evs.length = nowS a c (happS a t) := by
  unfold nowT nowS happS
  rw [take_tw, ← filter_tw (r := fun x y : Acc => x.time ≤ y.time) (fun x y h1 h2 => by simp at h2 ⊢; omega) (est_sorted h), List.foldl_filter, List.take_length]
  congr 1; funext s x; unfold stepT; simp
theorem way_inv {a : Est} (h : estB a = true) (c t : Int) : ∀ n : Nat, n ≤ a.evs.length → WInv a c t n (wayR a c t n) (nowT a c t n) := by
  have hpl := estB_iff.1 h
  intro n
  induction n with
  | zero =>
    intro _
    refine ⟨by simp [wayR, rg']; omega, by simp [nowT]; omega, fun p h0 h1 => ?_⟩
    have e1 : gt (wayR a c t 0) p = [] := gt_rep h0 (by omega)
    have e2 : gt (nowT a c t 0) p = false := gt_rep h0 (by omega)
    rw [e1, e2]; exact ⟨by simp, WOk.nil _ _ _ _ _⟩
  | succ n ih =>
    intro hn
    have h1 := (ih (by omega)).step (est_acc h _ (gt_mem (by omega) (by omega)))
    rw [wayR_succ]
    have e : nowT a c t (n + 1) = stepT c t (nowT a c t n) (gt a.evs (n : Int)) := by
      unfold nowT; rw [take_snoc (by omega), List.foldl_append]; rfl
    rw [e]
    exact_mod_cast h1
theorem way_ok {a : Est} {c p t : Int} (h : estB a = true) (hc : inB c 0 63 = true) (hp : inB p 0 (a.places - 1) = true) : ((wayS a c p t).length ≠ 0 ↔ inT a c p t = true) ∧ ((wayS a c p t).length ≠ 0 → pvB a c p t (wayS a c p t) = true) := by
  have hp2 := (inB_iff _ _ _).1 hp
  have e : wayS a c p t = gt (wayR a c t a.evs.length) p := by unfold wayS; rw [if_pos (by unfold rightB; simp [h, hc, hp])]
  obtain ⟨h1, h2⟩ := (way_inv h c t a.evs.length (Nat.le_refl _)).h p hp2.1 (by omega)
  rw [nowT_all h] at h1
  rw [e]
  refine ⟨h1, fun h0 => ?_⟩
  obtain ⟨h3, h4⟩ := h2 h0
  exact pvB_iff.2 ⟨⟨h, hc⟩, hp, by omega, h3, h4⟩
theorem way_no {a : Est} {c p t : Int} (h : (rightB a c && inB p 0 (a.places - 1)) = false) : wayS a c p t = [] := by
  unfold wayS; rw [if_neg (by rw [h]; simp)]
end Go.Proofs.Ytoflahjlnbligaa
