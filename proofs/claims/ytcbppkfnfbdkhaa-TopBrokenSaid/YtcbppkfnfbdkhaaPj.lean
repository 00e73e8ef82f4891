/- Rotations: the plan, in plain Lean. -/
import Derived.Test.YtcbppkfnfbdkhaaPi
set_option linter.all false
set_option maxRecDepth 20000
set_option maxHeartbeats 4000000
namespace Go.Proofs.Ytcbppkfnfbdkhaa
open Go.RowKit Go.Shelf
def mendS (f : Flt) (p : Rot × List Stp) (u : Int) : Rot × List Stp :=
  doS f (if (gt (doS f (doS f p 4 u) 7 u).1.units u).used = 2 then doS f (doS f p 4 u) 7 u else doS f (doS f (doS f p 4 u) 7 u) 5 u) 6 u
def srvQ (s : Rot) (b : Int) (u : Int) : Bool := sv (gt s.units u).used b
def srvS (f : Flt) (s : Rot) (pool b : Int) : Int × Bool := if 0 ≤ idxOf (srvQ s b) (unitsS f pool) then (gt (unitsS f pool) (idxOf (srvQ s b) (unitsS f pool)), true) else (0, false)
def neqB (k u : Int) : Bool := !decide (u = k)
def prepS (f : Flt) (p : Rot × List Stp) (pool : Int) : Rot × List Stp :=
  if (srvS f p.1 pool 2).2 = true then p
  else if 0 ≤ idxOf (neqB (srvS f p.1 pool 1).1) (unitsS f pool) then mendS f p (gt (unitsS f pool) (idxOf (neqB (srvS f p.1 pool 1).1) (unitsS f pool)))
  else doS f p 4 (srvS f p.1 pool 1).1
def mendO (f : Flt) (k : Int) (p : Rot × List Stp) (u : Int) : Rot × List Stp := if u = k then p else mendS f p u
def setlS (f : Flt) (p : Rot × List Stp) (pool : Int) : Rot × List Stp :=
  mendS f ((unitsS f pool).foldl (mendO f (srvS f p.1 pool p.1.valid).1) p) (srvS f p.1 pool p.1.valid).1
def frA (f : Flt) (s : Rot) : Rot × List Stp := doS f (doS f (s, []) 1 0) 2 0
def frB (f : Flt) (s : Rot) : Rot × List Stp := if (frA f s).1.valid = 1 then doS f ((poolsS f).foldl (prepS f) (frA f s)) 3 0 else frA f s
def frC (f : Flt) (s : Rot) : Rot × List Stp := (poolsS f).foldl (setlS f) (frB f s)
def fromS (f : Flt) (s : Rot) : Rot × List Stp := doS f (frC f s) 8 0
def fitB (f : Flt) (pool : Int) : Bool := if (unitsS f pool).length = 1 then (gt f.cons (gt (unitsS f pool) 0)).live && ((gt f.cons (gt (unitsS f pool) 0)).dual || decide (f.slots = 2)) else decide (1 < (unitsS f pool).length)
theorem stepS_unit (f : Flt) (s : Rot) {k u : Int} (h4 : k = 4 ∨ k = 5 ∨ k = 6 ∨ k = 7) (hk : s.known = 3) : stepS f s ⟨k, u⟩ = (⟨3, s.valid, s.units.set u.toNat (chgS (gt f.cons u) (gt s.units u) k true).1⟩, (chgS (gt f.cons u) (gt s.units u) k true).2) := by
  unfold stepS
  rw [if_neg (by show ¬ k = 1; omega), if_neg (by show ¬ k = 2; omega), if_neg (by show ¬ k = 3; omega), if_neg (by show ¬ k = 8; omega), hk, iss3]
theorem doS_unit {f : Flt} {p : Rot × List Stp} {k u : Int} (hr : rightB f p.1 = true) (hk : p.1.known = 3) (h4 : k = 4 ∨ k = 5 ∨ k = 6 ∨ k = 7) (hu : 0 ≤ u ∧ u < f.cons.length) : (doS f p k u).1 = ⟨3, p.1.valid, p.1.units.set u.toNat (uDo (gt f.cons u) (gt p.1.units u) k)⟩ := by
  have hl := rt_len hr
  have e := stepS_unit f p.1 (u := u) h4 hk
  have hg : rngB p.1 ⟨k, u⟩ = true := by
    unfold rngB
    simp only [Bool.and_eq_true, Bool.or_eq_true, decide_eq_true_eq, Bool.not_eq_true', decide_eq_false_iff_not]
    exact ⟨⟨by omega, by omega⟩, .inl (by omega)⟩
  unfold doS uDo
  cases hc : (chgS (gt f.cons u) (gt p.1.units u) k true).2 with
  | true =>
    rw [if_pos (aplE_0.2 ⟨hr, hg, by rw [e]; exact hc⟩), if_pos rfl, e]
  | false =>
    rw [if_neg (fun h => by have := (aplE_0.1 h).2.2; rw [e] at this; rw [this] at hc; cases hc), if_neg (by simp), set_gt (by omega), ← hk]
def Wit (f : Flt) (s : Rot) (u : Int) : Prop := ∃ j : Int, 0 ≤ j ∧ j < f.cons.length ∧ j ≠ u ∧ (gt f.cons j).pool = (gt f.cons u).pool ∧ sv (gt s.units j).used s.valid = true
theorem AllS.set {f : Flt} {s : Rot} {u k : Int} {x : Unt} (ha : AllS f s) (hl : s.units.length = f.cons.length) (hu : 0 ≤ u ∧ u < f.cons.length) (hw : Wit f s u ∨ sv x.used s.valid = true) : AllS f ⟨k, s.valid, s.units.set u.toNat x⟩ := by
  intro i h0 h1
  obtain ⟨j, j0, j1, j2, j3⟩ := ha i h0 h1
  by_cases e : j = u
  · subst e
    rcases hw with ⟨j', a0, a1, a2, a3, a4⟩ | hw
    · refine ⟨j', a0, a1, a3.trans j2, ?_⟩
      show sv (gt (s.units.set j.toNat x) j').used s.valid = true
      rw [gt_set (by omega) (by omega), if_neg a2]; exact a4
    · refine ⟨j, j0, j1, j2, ?_⟩
      show sv (gt (s.units.set j.toNat x) j).used s.valid = true
      rw [gt_set (by omega) (by omega), if_pos rfl]; exact hw
  · refine ⟨j, j0, j1, j2, ?_⟩
    show sv (gt (s.units.set u.toNat x) j).used s.valid = true
    rw [gt_set (by omega) (by omega), if_neg e]; exact j3
theorem PI.unit {f : Flt} {s0 : Rot} {p q : Rot × List Stp} {k u : Int} {x : Unt} (hp : PI f s0 p) (h : PI f s0 q) (e : q.1 = ⟨3, p.1.valid, p.1.units.set u.toNat x⟩) (h4 : k = 4 ∨ k = 5 ∨ k = 6 ∨ k = 7) (hu : 0 ≤ u ∧ u < f.cons.length) (hw : Wit f p.1 u ∨ sv (uDo (gt f.cons u) x k).used p.1.valid = true) :
    PI f s0 (doS f q k u) ∧ (doS f q k u).1 = ⟨3, p.1.valid, p.1.units.set u.toNat (uDo (gt f.cons u) x k)⟩ := by
  have hl := rt_len hp.rt
  have hx : gt q.1.units u = x := by
    rw [e]; show gt (p.1.units.set u.toNat x) u = x
    rw [gt_set (by omega) (by omega), if_pos rfl]
  have hd := doS_unit (k := k) (u := u) h.rt (by rw [e]) h4 hu
  have hd2 : (doS f q k u).1 = ⟨3, p.1.valid, p.1.units.set u.toNat (uDo (gt f.cons u) x k)⟩ := by
    rw [hd, hx, e]; simp
  refine ⟨h.take fun he => ?_, hd2⟩
  have : (doS f q k u).1 = (stepS f q.1 ⟨k, u⟩).1 := by unfold doS; rw [if_pos he]
  rw [← this, hd2]
  exact hp.all.set hl hu hw
theorem mend_ok {f : Flt} {s0 : Rot} {p : Rot × List Stp} {u : Int} (h : PI f s0 p) (hk : p.1.known = 3) (hu : 0 ≤ u ∧ u < f.cons.length) (hw : Wit f p.1 u ∨ (gt f.cons u).live = true ∧ (p.1.valid = 2 ∨ p.1.valid = 3) ∧ sv (gt p.1.units u).used p.1.valid = true) :
    PI f s0 (mendS f p u) ∧ (mendS f p u).1 = ⟨3, p.1.valid, p.1.units.set u.toNat ⟨true, 2, 2⟩⟩ := by
  have hl := rt_len h.rt
  have hun := rt_unit h.rt hu.1 hu.2
  rw [hk] at hun
  have e0 : p.1 = ⟨3, p.1.valid, p.1.units.set u.toNat (gt p.1.units u)⟩ := by rw [set_gt (by omega), ← hk]
  have hM := uM_eq hun
  have w1 : Wit f p.1 u ∨ sv (uDo (gt f.cons u) (gt p.1.units u) 4).used p.1.valid = true ∧ sv (uA (gt f.cons u) (gt p.1.units u)).used p.1.valid = true ∧ sv (uB (gt f.cons u) (gt p.1.units u)).used p.1.valid = true ∧ sv (uM (gt f.cons u) (gt p.1.units u)).used p.1.valid = true := by
    rcases hw with hw | ⟨w1, w2, w3⟩
    · exact .inl hw
    · obtain ⟨a, b, c⟩ := uM_live hun w1 w2 w3
      refine .inr ⟨a, b, c, ?_⟩
      rw [hM]
      rcases w2 with e | e <;> rw [e] <;> decide +kernel
  obtain ⟨p1, e1⟩ := PI.unit h h e0 (k := 4) (by omega) hu (w1.imp id fun h => h.1)
  obtain ⟨p2, e2⟩ := PI.unit h p1 e1 (k := 7) (by omega) hu (w1.imp id fun h => h.2.1)
  change _ = Rot.mk 3 p.1.valid (p.1.units.set u.toNat (uA (gt f.cons u) (gt p.1.units u))) at e2
  have hx : gt (doS f (doS f p 4 u) 7 u).1.units u = uA (gt f.cons u) (gt p.1.units u) := by
    rw [e2]; show gt (p.1.units.set u.toNat _) u = _
    rw [gt_set (by omega) (by omega), if_pos rfl]
  unfold mendS
  rw [hx]
  have hB : uB (gt f.cons u) (gt p.1.units u) = if (uA (gt f.cons u) (gt p.1.units u)).used = 2 then uA (gt f.cons u) (gt p.1.units u) else uDo (gt f.cons u) (uA (gt f.cons u) (gt p.1.units u)) 5 := rfl
  have p3 : PI f s0 (if (uA (gt f.cons u) (gt p.1.units u)).used = 2 then doS f (doS f p 4 u) 7 u else doS f (doS f (doS f p 4 u) 7 u) 5 u) ∧ (if (uA (gt f.cons u) (gt p.1.units u)).used = 2 then doS f (doS f p 4 u) 7 u else doS f (doS f (doS f p 4 u) 7 u) 5 u).1 = ⟨3, p.1.valid, p.1.units.set u.toNat (uB (gt f.cons u) (gt p.1.units u))⟩ := by
    by_cases hc : (uA (gt f.cons u) (gt p.1.units u)).used = 2
    · rw [if_pos hc, hB, if_pos hc]; exact ⟨p2, e2⟩
    · rw [if_neg hc, hB, if_neg hc]
      rw [if_neg hc] at hB
      exact PI.unit h p2 e2 (k := 5) (by omega) hu (w1.imp id fun h => by rw [← hB]; exact h.2.2.1)
  have p4 := PI.unit h p3.1 p3.2 (k := 6) (by omega) hu (w1.imp id fun h => h.2.2.2)
  rw [show uDo (gt f.cons u) (uB (gt f.cons u) (gt p.1.units u)) 6 = ⟨true, 2, 2⟩ from hM] at p4
  exact p4
theorem mendS_len (f : Flt) (p : Rot × List Stp) (u : Int) : (mendS f p u).2.length ≤ p.2.length + 4 := by
  have h1 := doS_len f p 4 u
  have h2 := doS_len f (doS f p 4 u) 7 u
  have h3 := doS_len f (doS f (doS f p 4 u) 7 u) 5 u
  unfold mendS
  refine Nat.le_trans (doS_len f _ 6 u) ?_
  split <;> omega
theorem mendS_units (f : Flt) (p : Rot × List Stp) (u : Int) : (mendS f p u).1.units.length = p.1.units.length := by
  unfold mendS
  rw [doS_units]
  split
  · rw [doS_units, doS_units]
  · rw [doS_units, doS_units, doS_units]
theorem mem_units {f : Flt} (hf : fltB f = true) {p u : Int} : u ∈ unitsS f p ↔ 0 ≤ u ∧ u < f.cons.length ∧ (gt f.cons u).pool = p := by
  unfold unitsS
  rw [if_pos hf, mem_nums]
  simp [inPool]
theorem nums_nodup {α : Type} [Inhabited α] (q : α → Bool) (l : List α) : (nums q l).Nodup := by
  unfold nums
  exact List.Pairwise.map _ (fun a b h => by simp; omega) (List.Pairwise.filter _ List.nodup_range)
theorem units_nodup (f : Flt) (p : Int) : (unitsS f p).Nodup := by
  unfold unitsS
  split
  · exact nums_nodup _ _
  · exact .nil
theorem idxOf_q {α : Type} [Inhabited α] {q : α → Bool} : ∀ {l : List α}, 0 ≤ idxOf q l → q (gt l (idxOf q l)) = true
  | [], h => by simp [idxOf] at h
  | x :: l, h => by
    unfold idxOf at h ⊢
    split
    · rename_i e; exact e
    · rename_i e
      rw [if_neg e] at h
      split at h
      · omega
      · rename_i e2
        rw [if_neg e2]
        have h3 := idxOf_q (q := q) (l := l) (by omega)
        have hb := idxOf_bd q l
        have e4 : (idxOf q l + 1).toNat = (idxOf q l).toNat + 1 := by omega
        unfold gt at h3 ⊢
        rw [e4]
        exact h3
theorem srv_t {f : Flt} {s : Rot} {pool b u : Int} (hu : u ∈ unitsS f pool) (hs : sv (gt s.units u).used b = true) : (srvS f s pool b).2 = true ∧ (srvS f s pool b).1 ∈ unitsS f pool ∧ sv (gt s.units (srvS f s pool b).1).used b = true := by
  have h0 : 0 ≤ idxOf (srvQ s b) (unitsS f pool) := by
    have := idxOf_ge (srvQ s b) (unitsS f pool)
    rw [List.any_eq_true.2 ⟨u, hu, hs⟩, decide_eq_true_eq] at this
    exact this
  have h1 := (idxOf_bd (srvQ s b) (unitsS f pool)).2
  have h2 := idxOf_q h0
  unfold srvS
  rw [if_pos h0]
  exact ⟨rfl, gt_mem h0 h1, h2⟩
theorem srv_f {f : Flt} {s : Rot} {pool b u : Int} (h : (srvS f s pool b).2 = false) (hu : u ∈ unitsS f pool) : sv (gt s.units u).used b = false := by
  cases hs : sv (gt s.units u).used b with
  | false => rfl
  | true => rw [(srv_t hu hs).1] at h; cases h
def HasNew (f : Flt) (s : Rot) (p : Int) : Prop := ∃ j : Int, 0 ≤ j ∧ j < f.cons.length ∧ (gt f.cons j).pool = p ∧ sv (gt s.units j).used 2 = true
theorem HasNew.set {f : Flt} {s : Rot} {u k v p : Int} {x : Unt} (h : HasNew f s p) (hl : s.units.length = f.cons.length) (hu : 0 ≤ u ∧ u < f.cons.length) (hx : sv x.used 2 = true) : HasNew f ⟨k, v, s.units.set u.toNat x⟩ p := by
  obtain ⟨j, j0, j1, j2, j3⟩ := h
  refine ⟨j, j0, j1, j2, ?_⟩
  show sv (gt (s.units.set u.toNat x) j).used 2 = true
  rw [gt_set (by omega) (by omega)]
  split
  · exact hx
  · exact j3
theorem HasNew.new {f : Flt} {s : Rot} {u k v : Int} {x : Unt} (hl : s.units.length = f.cons.length) (hu : 0 ≤ u ∧ u < f.cons.length) (hx : sv x.used 2 = true) : HasNew f ⟨k, v, s.units.set u.toNat x⟩ (gt f.cons u).pool := by
  refine ⟨u, hu.1, hu.2, rfl, ?_⟩
  show sv (gt (s.units.set u.toNat x) u).used 2 = true
  rw [gt_set (by omega) (by omega), if_pos rfl]; exact hx
theorem fit_one {f : Flt} {pool k : Int} (hf : fitB f pool = true) (hk : k ∈ unitsS f pool) (ho : ∀ u ∈ unitsS f pool, u = k) : (gt f.cons k).live = true ∧ ((gt f.cons k).dual = true ∨ f.slots = 2) := by
  have hn := units_nodup f pool
  unfold fitB at hf
  match hl : unitsS f pool, hn, hk, ho with
  | [], _, hk, _ => cases hk
  | [x], _, hk, _ =>
    rw [List.mem_singleton] at hk
    subst hk
    rw [hl, if_pos (show [k].length = 1 from rfl)] at hf
    simp only [Bool.and_eq_true, Bool.or_eq_true, decide_eq_true_eq] at hf
    exact hf
  | x :: y :: l, hn, _, ho =>
    have h1 := ho x (by simp)
    have h2 := ho y (by simp)
    rw [h1, h2] at hn
    simp at hn
theorem prep_ok {f : Flt} {s0 : Rot} {p : Rot × List Stp} {pool : Int} (h : PI f s0 p) (hk : p.1.known = 3) (hv : p.1.valid = 1) (hs : f.slots = 1) (hp : pool ∈ poolsS f) (hf : fitB f pool = true) :
    PI f s0 (prepS f p pool) ∧ (prepS f p pool).1.known = 3 ∧ (prepS f p pool).1.valid = 1 ∧ HasNew f (prepS f p pool).1 pool ∧ ∀ q, HasNew f p.1 q → HasNew f (prepS f p pool).1 q := by
  have hfl := (right_iff.1 h.rt).1
  have hl := rt_len h.rt
  obtain ⟨i, i0, i1, rfl⟩ := (mem_pools hfl).1 hp
  obtain ⟨j, j0, j1, j2, j3⟩ := h.all i i0 i1
  rw [hv] at j3
  unfold prepS
  cases hn : (srvS f p.1 (gt f.cons i).pool 2).2 with
  | true =>
    rw [if_pos rfl]
    refine ⟨h, hk, hv, ?_, fun q hq => hq⟩
    have hw : ¬ ∀ u ∈ unitsS f (gt f.cons i).pool, sv (gt p.1.units u).used 2 = false := fun hall => by
      unfold srvS at hn
      split at hn
      · rename_i h0
        have h1 := (idxOf_bd (srvQ p.1 2) (unitsS f (gt f.cons i).pool)).2
        have h2 := idxOf_q h0
        have := hall _ (gt_mem h0 h1)
        rw [show srvQ p.1 2 (gt (unitsS f (gt f.cons i).pool) (idxOf (srvQ p.1 2) (unitsS f (gt f.cons i).pool))) = false from this] at h2; cases h2
      · cases hn
    simp only [Classical.not_forall] at hw
    obtain ⟨u, hu, hsu⟩ := hw
    obtain ⟨u0, u1, u2⟩ := (mem_units hfl).1 hu
    exact ⟨u, u0, u1, u2, by simpa using hsu⟩
  | false =>
    rw [if_neg (by simp)]
    obtain ⟨_, k1, k2⟩ := srv_t ((mem_units hfl).2 ⟨j0, j1, j2⟩) j3
    generalize (srvS f p.1 (gt f.cons i).pool 1).1 = kp at k1 k2 ⊢
    obtain ⟨q0, q1, q2⟩ := (mem_units hfl).1 k1
    by_cases hi : 0 ≤ idxOf (neqB kp) (unitsS f (gt f.cons i).pool)
    · rw [if_pos hi]
      have hb := (idxOf_bd (neqB kp) (unitsS f (gt f.cons i).pool)).2
      have hq := idxOf_q hi
      have hm := gt_mem hi hb
      generalize gt (unitsS f (gt f.cons i).pool) (idxOf (neqB kp) (unitsS f (gt f.cons i).pool)) = u at hq hm ⊢
      obtain ⟨u0, u1, u2⟩ := (mem_units hfl).1 hm
      have hne : kp ≠ u := fun e => by subst e; simp [neqB] at hq
      obtain ⟨r1, r2⟩ := mend_ok h hk ⟨u0, u1⟩ (.inl ⟨kp, q0, q1, hne, q2.trans u2.symm, by rw [hv]; exact k2⟩)
      refine ⟨r1, by rw [r2], by rw [r2]; exact hv, ?_, fun q hq => ?_⟩
      · rw [r2, ← u2]; exact HasNew.new hl ⟨u0, u1⟩ (by decide +kernel)
      · rw [r2]; exact hq.set hl ⟨u0, u1⟩ (by decide +kernel)
    · rw [if_neg hi]
      have hall : ∀ u ∈ unitsS f (gt f.cons i).pool, u = kp := fun u hu => by
        have hg := idxOf_ge (neqB kp) (unitsS f (gt f.cons i).pool)
        rw [decide_eq_false hi] at hg
        have := List.any_eq_false.1 hg.symm u hu
        simp [neqB] at this
        exact this
      obtain ⟨f1, f2⟩ := fit_one hf k1 hall
      have f3 : (gt f.cons kp).dual = true := by
        rcases f2 with f2 | f2
        · exact f2
        · omega
      have hun := rt_unit h.rt q0 q1
      rw [hk] at hun
      have hg := give_live hun f1 f3 k2 (srv_f hn k1)
      have e0 : p.1 = ⟨3, p.1.valid, p.1.units.set kp.toNat (gt p.1.units kp)⟩ := by rw [set_gt (by omega), ← hk]
      obtain ⟨r1, r2⟩ := PI.unit h h e0 (k := 4) (by omega) ⟨q0, q1⟩ (.inr (by rw [hg, hv]; decide +kernel))
      refine ⟨r1, by rw [r2], by rw [r2]; exact hv, ?_, fun q hq => ?_⟩
      · rw [r2, ← q2]; exact HasNew.new hl ⟨q0, q1⟩ (by rw [hg]; decide +kernel)
      · rw [r2]; exact hq.set hl ⟨q0, q1⟩ (by rw [hg]; decide +kernel)
theorem preps_ok {f : Flt} {s0 : Rot} (hs : f.slots = 1) (hf : ∀ q ∈ poolsS f, fitB f q = true) : ∀ (l : List Int) (p : Rot × List Stp), (∀ q ∈ l, q ∈ poolsS f) → PI f s0 p → p.1.known = 3 → p.1.valid = 1 →
    PI f s0 (l.foldl (prepS f) p) ∧ (l.foldl (prepS f) p).1.known = 3 ∧ (l.foldl (prepS f) p).1.valid = 1 ∧ (∀ q ∈ l, HasNew f (l.foldl (prepS f) p).1 q) ∧ ∀ q, HasNew f p.1 q → HasNew f (l.foldl (prepS f) p).1 q
  | [], p, _, h, hk, hv => ⟨h, hk, hv, fun q hq => (by cases hq), fun q hq => hq⟩
  | x :: l, p, hl, h, hk, hv => by
    obtain ⟨a1, a2, a3, a4, a5⟩ := prep_ok h hk hv hs (hl x List.mem_cons_self) (hf x (hl x List.mem_cons_self))
    obtain ⟨b1, b2, b3, b4, b5⟩ := preps_ok hs hf l (prepS f p x) (fun q hq => hl q (List.mem_cons_of_mem _ hq)) a1 a2 a3
    refine ⟨b1, b2, b3, fun q hq => ?_, fun q hq => b5 q (a5 q hq)⟩
    rcases List.mem_cons.1 hq with rfl | hq
    · exact b5 _ a4
    · exact b4 q hq
theorem mends_ok {f : Flt} {s0 : Rot} {k : Int} (hk0 : 0 ≤ k ∧ k < f.cons.length) : ∀ (l : List Int) (p : Rot × List Stp), (∀ u ∈ l, 0 ≤ u ∧ u < f.cons.length ∧ (gt f.cons u).pool = (gt f.cons k).pool) → PI f s0 p → p.1.known = 3 → sv (gt p.1.units k).used p.1.valid = true →
    PI f s0 (l.foldl (mendO f k) p) ∧ (l.foldl (mendO f k) p).1.known = 3 ∧ (l.foldl (mendO f k) p).1.valid = p.1.valid ∧ gt (l.foldl (mendO f k) p).1.units k = gt p.1.units k ∧
    (∀ u ∈ l, u ≠ k → gt (l.foldl (mendO f k) p).1.units u = ⟨true, 2, 2⟩) ∧ ∀ j : Int, 0 ≤ j → j < f.cons.length → gt p.1.units j = ⟨true, 2, 2⟩ → gt (l.foldl (mendO f k) p).1.units j = ⟨true, 2, 2⟩
  | [], p, _, h, hk, _ => ⟨h, hk, rfl, rfl, fun q hq => (by cases hq), fun j _ _ hj => hj⟩
  | x :: l, p, hl, h, hk, hv => by
    have hlen := rt_len h.rt
    obtain ⟨x0, x1, x2⟩ := hl x List.mem_cons_self
    have hl' := fun u hu => hl u (List.mem_cons_of_mem x hu)
    rw [List.foldl_cons]
    unfold mendO
    by_cases e : x = k
    · rw [if_pos e]
      obtain ⟨b1, b2, b3, b4, b5, b6⟩ := mends_ok hk0 l p hl' h hk hv
      refine ⟨b1, b2, b3, b4, fun u hu hne => ?_, b6⟩
      rcases List.mem_cons.1 hu with rfl | hu
      · exact absurd e hne
      · exact b5 u hu hne
    · rw [if_neg e]
      obtain ⟨r1, r2⟩ := mend_ok h hk ⟨x0, x1⟩ (.inl ⟨k, hk0.1, hk0.2, fun h => e h.symm, x2.symm, hv⟩)
      have hgk : gt (mendS f p x).1.units k = gt p.1.units k := by
        rw [r2]; show gt (p.1.units.set x.toNat _) k = _
        rw [gt_set (by omega) (by omega), if_neg (fun h => e h.symm)]
      have hvk : (mendS f p x).1.valid = p.1.valid := by rw [r2]
      obtain ⟨b1, b2, b3, b4, b5, b6⟩ := mends_ok hk0 l (mendS f p x) hl' r1 (by rw [r2]) (by rw [hgk, hvk]; exact hv)
      refine ⟨b1, b2, b3.trans hvk, b4.trans hgk, fun u hu hne => ?_, fun j j0 j1 hj => ?_⟩
      · rcases List.mem_cons.1 hu with rfl | hu
        · refine b6 _ x0 x1 ?_
          rw [r2]; show gt (p.1.units.set u.toNat _) u = _
          rw [gt_set (by omega) (by omega), if_pos rfl]
        · exact b5 u hu hne
      · refine b6 j j0 j1 ?_
        rw [r2]; show gt (p.1.units.set x.toNat _) j = _
        rw [gt_set (by omega) (by omega)]
        split
        · rfl
        · exact hj
theorem setl_ok {f : Flt} {s0 : Rot} {p : Rot × List Stp} {pool : Int} (h : PI f s0 p) (hk : p.1.known = 3) (hv : p.1.valid = 2 ∨ p.1.valid = 3) (hp : pool ∈ poolsS f) (hf : fitB f pool = true) :
    PI f s0 (setlS f p pool) ∧ (setlS f p pool).1.known = 3 ∧ (setlS f p pool).1.valid = p.1.valid ∧ (∀ u ∈ unitsS f pool, gt (setlS f p pool).1.units u = ⟨true, 2, 2⟩) ∧
    ∀ j : Int, 0 ≤ j → j < f.cons.length → gt p.1.units j = ⟨true, 2, 2⟩ → gt (setlS f p pool).1.units j = ⟨true, 2, 2⟩ := by
  have hfl := (right_iff.1 h.rt).1
  obtain ⟨i, i0, i1, rfl⟩ := (mem_pools hfl).1 hp
  obtain ⟨j, j0, j1, j2, j3⟩ := h.all i i0 i1
  obtain ⟨_, k1, k2⟩ := srv_t ((mem_units hfl).2 ⟨j0, j1, j2⟩) j3
  unfold setlS
  generalize (srvS f p.1 (gt f.cons i).pool p.1.valid).1 = kp at k1 k2 ⊢
  obtain ⟨q0, q1, q2⟩ := (mem_units hfl).1 k1
  obtain ⟨b1, b2, b3, b4, b5, b6⟩ := mends_ok (f := f) (s0 := s0) (k := kp) ⟨q0, q1⟩ (unitsS f (gt f.cons i).pool) p (fun u hu => by
    obtain ⟨u0, u1, u2⟩ := (mem_units hfl).1 hu
    exact ⟨u0, u1, u2.trans q2.symm⟩) h hk k2
  generalize (unitsS f (gt f.cons i).pool).foldl (mendO f kp) p = q at b1 b2 b3 b4 b5 b6 ⊢
  have hlen := rt_len b1.rt
  have hw : Wit f q.1 kp ∨ (gt f.cons kp).live = true ∧ (q.1.valid = 2 ∨ q.1.valid = 3) ∧ sv (gt q.1.units kp).used q.1.valid = true := by
    by_cases ho : ∀ u ∈ unitsS f (gt f.cons i).pool, u = kp
    · exact .inr ⟨(fit_one hf k1 ho).1, by rw [b3]; exact hv, by rw [b3, b4]; exact k2⟩
    · simp only [Classical.not_forall] at ho
      obtain ⟨u, hu, hne⟩ := ho
      obtain ⟨u0, u1, u2⟩ := (mem_units hfl).1 hu
      refine .inl ⟨u, u0, u1, hne, u2.trans q2.symm, ?_⟩
      rw [b5 u hu hne, b3]
      rcases hv with e | e <;> rw [e] <;> decide +kernel
  obtain ⟨r1, r2⟩ := mend_ok b1 b2 ⟨q0, q1⟩ hw
  have hg : ∀ u : Int, 0 ≤ u → u < f.cons.length → gt (mendS f q kp).1.units u = if u = kp then ⟨true, 2, 2⟩ else gt q.1.units u := fun u u0 u1 => by
    rw [r2]; show gt (q.1.units.set kp.toNat _) u = _
    rw [gt_set (by omega) (by omega)]
  refine ⟨r1, by rw [r2], by rw [r2]; exact b3, fun u hu => ?_, fun j j0 j1 hj => ?_⟩
  · obtain ⟨u0, u1, u2⟩ := (mem_units hfl).1 hu
    rw [hg u u0 u1]
    split
    · rfl
    · exact b5 u hu (by assumption)
  · rw [hg j j0 j1]
    split
    · rfl
    · exact b6 j j0 j1 hj
theorem setls_ok {f : Flt} {s0 : Rot} (hf : ∀ q ∈ poolsS f, fitB f q = true) : ∀ (l : List Int) (p : Rot × List Stp), (∀ q ∈ l, q ∈ poolsS f) → PI f s0 p → p.1.known = 3 → (p.1.valid = 2 ∨ p.1.valid = 3) →
    PI f s0 (l.foldl (setlS f) p) ∧ (l.foldl (setlS f) p).1.known = 3 ∧ (l.foldl (setlS f) p).1.valid = p.1.valid ∧ (∀ q ∈ l, ∀ u ∈ unitsS f q, gt (l.foldl (setlS f) p).1.units u = ⟨true, 2, 2⟩) ∧
    ∀ j : Int, 0 ≤ j → j < f.cons.length → gt p.1.units j = ⟨true, 2, 2⟩ → gt (l.foldl (setlS f) p).1.units j = ⟨true, 2, 2⟩
  | [], p, _, h, hk, hv => ⟨h, hk, rfl, fun q hq => (by cases hq), fun j _ _ hj => hj⟩
  | x :: l, p, hl, h, hk, hv => by
    obtain ⟨a1, a2, a3, a4, a5⟩ := setl_ok h hk hv (hl x List.mem_cons_self) (hf x (hl x List.mem_cons_self))
    obtain ⟨b1, b2, b3, b4, b5⟩ := setls_ok hf l (setlS f p x) (fun q hq => hl q (List.mem_cons_of_mem _ hq)) a1 a2 (by rw [a3]; exact hv)
    refine ⟨b1, b2, b3.trans a3, fun q hq u hu => ?_, fun j j0 j1 hj => b5 j j0 j1 (a5 j j0 j1 hj)⟩
    rcases List.mem_cons.1 hq with rfl | hq
    · have hfl := (right_iff.1 h.rt).1
      obtain ⟨u0, u1, _⟩ := (mem_units hfl).1 hu
      exact b5 u u0 u1 (a4 u hu)
    · exact b4 q hq u hu
end Go.Proofs.Ytcbppkfnfbdkhaa
