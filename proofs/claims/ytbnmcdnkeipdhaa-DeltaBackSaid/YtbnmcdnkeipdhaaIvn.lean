/- Regions that draw their order: the rules. -/
import Derived.Test.YtbnmcdnkeipdhaaIvm
set_option linter.all false
namespace Go.Proofs.Ytbnmcdnkeipdhaa
open Go.RowKit Go.Shelf

/-- n operations are still to come, in any order. -/
@[irreducible] def rn (k : Wk) (w0 : Org) (ops : Array Oper) (n : Nat) (listed : Array Bool) (Q : St → Prop) (s : St) : Prop := irn k.P k.T k.N w0 ops n listed Q s
/-- What an operation looks at. -/
def opTmps : List Operand → List Nat
  | [] => []
  | .tmp t :: l => t :: opTmps l
  | _ :: l => opTmps l
def lkF (F : List (Nat × SV)) : List Nat → List (Nat × SV)
  | [] => []
  | t :: l => (t, getF F t) :: lkF F l
def St.lk (s : St) (o : Op) : St := ⟨lkF s.F (opTmps o.operands.toList), s.H⟩
def LfS (k : Wk) (w0 : Org) (ops : Array Oper) (m : Nat) (Q : St → Prop) (listed : Array Bool) (f : Ff) (h : Hf) : Prop :=
  ∃ s0 : St, (∀ x, getF s0.F x = f x) ∧ (∀ r, getH s0.H r = h r) ∧ irn k.P k.T k.N w0 ops m listed Q s0
/-- The operations l, taken in this order, stand for any order; then m more are to come. -/
@[irreducible] def qn (k : Wk) (w0 : Org) (ops : Array Oper) (W : Option (List Nat)) (S : Array Bool) (m : Nat) (Q : St → Prop) (l : List Nat) (listed : Array Bool) (s : St) : Prop :=
  AI k.P k.T k.N w0 ops k.τ W S (LfS k w0 ops m Q) l.length listed (getF s.F) (getH s.H)
/-- The operation i comes up now; then n more of S. -/
@[irreducible] def qst (k : Wk) (w0 : Org) (ops : Array Oper) (W : Option (List Nat)) (S : Array Bool) (m : Nat) (Q : St → Prop) (n i : Nat) (listed : Array Bool) (s : St) : Prop :=
  qI k.P k.T k.N w0 ops k.τ W i (AI k.P k.T k.N w0 ops k.τ W S (LfS k w0 ops m Q) n (listed.setIfInBounds i true)) (getF s.F) (getH s.H)
section
variable {k : Wk} {w0 : Org} {ops : Array Oper} {W : Option (List Nat)} {S listed : Array Bool} {nq m n : Nat} {Q : St → Prop} {s : St} {l : List Nat}
theorem opTmps_mem {l : List Operand} {t : Nat} : t ∈ opTmps l ↔ Operand.tmp t ∈ l := by
  induction l with
  | nil => simp [opTmps]
  | cons x l ih => cases x <;> simp [opTmps, ih]
theorem lkF_get (F : List (Nat × SV)) (l : List Nat) (x : Nat) : getF (lkF F l) x = if x ∈ l then getF F x else .u := by
  induction l with
  | nil => rfl
  | cons t l ih =>
    simp only [lkF, getF, beq_eq]
    by_cases e : t = x
    · subst e; simp
    · simp only [e, decide_false, cond_false, ih]
      have : ¬ x = t := fun h => e h.symm
      simp [this]
/-- States that are looked up alike. -/
theorem Sim.alike {P : Program} {T : TypeId} {N : Nat} {g : Gh} {a : Act} {w : World} {s s' : St} (hs : Sim P T N w0 g s a w) (hF : ∀ x, getF s'.F x = getF s.F x ∨ getF s'.F x = .u) (hH : ∀ r, getH s'.H r = getH s.H r) : Sim P T N w0 g s' a w := by
  have lv : ∀ r, live s'.H r → live s.H r := fun r h => by unfold live at h ⊢; rwa [hH] at h
  refine ⟨⟨fun r r' b a1 a2 => hs.gi.inj r r' b (lv r a1) (lv r' a2), fun r b a1 => hs.gi.bd r b (lv r a1), fun b o hr => ?_, hs.gi.keep, hs.gi.tape, hs.gi.org⟩, hs.dn, hs.nt, fun x => ?_, fun r => by rw [hH]; exact hs.hH r⟩
  · obtain ⟨q1, q2, q3⟩ := hs.gi.rd b o hr
    exact ⟨q1, q2, fun r a1 => q3 r (lv r a1)⟩
  · rcases hF x with e | e
    · rw [e]; exact hs.hF x
    · rw [e]; exact .u _
theorem n_start {id : Nat} {l : List Oper} {Q : Exit → St → Prop} (hm : k.P.follows .mixedOrders = true) (h : rn k w0 l.toArray l.length (Array.replicate l.length false) (Q .normal) s) : wk k w0 (.region id l.toArray true) Q s := by
  refine wkI fun g a w hs => ?_
  unfold rn at h
  have hd : Sim k.P k.T k.N w0 g s a { w with drawn := w.drawn + 1 } := by
    refine hs.ext (g' := g) (w' := { w with drawn := w.drawn + 1 }) ⟨rfl, rfl, rfl, rfl, fun _ _ h => h, fun _ _ h => .inl h, ⟨rfl, rfl, rfl, Nat.le_refl _, fun _ _ => rfl⟩, fun tb htb => ?_⟩
    exact (hs.gi.tape tb htb).2.keep ⟨fun _ _ h => h, fun _ _ _ => rfl⟩ rfl
  have := h g a _ hd (fun e a' w' => match e with | .normal => ∃ g' s', Q .normal s' ∧ Sim k.P k.T k.N w0 g' s' a' w' | _ => False) (fun g' s' a' w' hq hs' => ⟨g', s', hq, hs'⟩) (fun _ _ _ h => h)
  exact wp_mono (wp_region_any hm (by simpa using this)) fun e a' w' hq => by
    cases e with
    | normal => exact hq
    | _ => cases hq
theorem n_done (hr : Region.ready .any ops listed = []) (h : Q s) : rn k w0 ops 0 listed Q s := by
  unfold rn
  exact fun g a w hs Q' hQ _ => ⟨hr, hQ g s a w h hs⟩
theorem n_doneZ (hn : n = 0) (hr : Region.ready .any ops listed = []) (h : Q s) : rn k w0 ops n listed Q s := by subst hn; exact n_done hr h
theorem rg_op {o : Oper} {i : Nat} {K : St → Prop} (hi : ops[i]? = some o) (h : rg k w0 ops [o] K s) {g : Gh} {a : Act} {w : World} (hs : Sim k.P k.T k.N w0 g s a w) {Q' : Exit → Act → World → Prop} {K' : Act → World → Prop} (hK : ∀ g' s' a' w', K s' → Sim k.P k.T k.N w0 g' s' a' w' → K' a' w') : wpOp k.P ops Q' i K' a w := by
  have h1 := rgO h g a w hs (fun e a w => match e with | .normal => K' a w | e => Q' e a w) hK
  unfold wpOp
  rw [hi]
  simp only
  unfold wpList at h1
  split
  · rename_i hw
    rw [if_pos hw] at h1
    rcases h1 with h1 | ⟨h1, a', w', h2⟩
    · refine .inl ?_
      unfold Oper.wp at h1 ⊢
      generalize (execOp a.eval o).run k.P w = r at h1
      cases r with
      | ok n w' =>
        cases n <;> simp only [Oper.upon] at h1 ⊢ <;> first
          | exact h1
          | (refine Calls.mono h1 fun e w'' he => ?_
             cases e <;> first
               | exact he
               | (obtain ⟨a2, w2, h3⟩ := he; exact ⟨a2, w2, h3⟩))
          | exact Rows.mono h1 fun _ _ he => he
      | halt x w' => cases x <;> simp only [Oper.upon] at h1 ⊢ <;> exact h1
    · exact .inr ⟨h1, a', w', h2⟩
  · rename_i hw
    rw [if_neg hw] at h1
    exact h1
theorem n_one {d0 : Option Nat} {op0 : Op} {ty0 : TypeId} {pp0 : String} {af0 : Array Edge} {gd0 : Option (Nat × Bool)} (i : Nat) (hr : Region.ready .any ops listed = [i]) (hi : ops[i]? = some ⟨d0, op0, ty0, pp0, af0, gd0⟩) (h : rg k w0 ops [⟨d0, op0, ty0, pp0, af0, gd0⟩] (fun s' => rn k w0 ops n (listed.setIfInBounds i true) Q s') s) : rn k w0 ops (n + 1) listed Q s := by
  unfold rn
  intro g a w hs Q' hQ hp
  refine ⟨fun e => (by rw [hr] at e; cases e), fun j hj => ?_⟩
  rw [hr] at hj
  simp at hj
  subst hj
  exact rg_op hi h hs fun g' s' a' w' hk hs' => by unfold rn at hk; exact hk g' a' w' hs' Q' hQ hp
theorem n_two {d0 : Option Nat} {op0 : Op} {ty0 : TypeId} {pp0 : String} {af0 : Array Edge} {gd0 : Option (Nat × Bool)} {d1 : Option Nat} {op1 : Op} {ty1 : TypeId} {pp1 : String} {af1 : Array Edge} {gd1 : Option (Nat × Bool)} (i j : Nat) (hr : Region.ready .any ops listed = [i, j]) (hi : ops[i]? = some ⟨d0, op0, ty0, pp0, af0, gd0⟩) (hj : ops[j]? = some ⟨d1, op1, ty1, pp1, af1, gd1⟩) (h : rg k w0 ops [⟨d0, op0, ty0, pp0, af0, gd0⟩] (fun s' => rn k w0 ops n (listed.setIfInBounds i true) Q s') s) (h' : rg k w0 ops [⟨d1, op1, ty1, pp1, af1, gd1⟩] (fun s' => rn k w0 ops n (listed.setIfInBounds j true) Q s') s) : rn k w0 ops (n + 1) listed Q s := by
  unfold rn
  intro g a w hs Q' hQ hp
  refine ⟨fun e => (by rw [hr] at e; cases e), fun q hq => ?_⟩
  rw [hr] at hq
  simp at hq
  rcases hq with rfl | rfl
  · exact rg_op hi h hs fun g' s' a' w' hk hs' => by unfold rn at hk; exact hk g' a' w' hs' Q' hQ hp
  · exact rg_op hj h' hs fun g' s' a' w' hk hs' => by unfold rn at hk; exact hk g' a' w' hs' Q' hQ hp
theorem n_three {d0 : Option Nat} {op0 : Op} {ty0 : TypeId} {pp0 : String} {af0 : Array Edge} {gd0 : Option (Nat × Bool)} {d1 : Option Nat} {op1 : Op} {ty1 : TypeId} {pp1 : String} {af1 : Array Edge} {gd1 : Option (Nat × Bool)} {d2 : Option Nat} {op2 : Op} {ty2 : TypeId} {pp2 : String} {af2 : Array Edge} {gd2 : Option (Nat × Bool)} (i j q : Nat) (hr : Region.ready .any ops listed = [i, j, q]) (hi : ops[i]? = some ⟨d0, op0, ty0, pp0, af0, gd0⟩) (hj : ops[j]? = some ⟨d1, op1, ty1, pp1, af1, gd1⟩) (hq : ops[q]? = some ⟨d2, op2, ty2, pp2, af2, gd2⟩) (h : rg k w0 ops [⟨d0, op0, ty0, pp0, af0, gd0⟩] (fun s' => rn k w0 ops n (listed.setIfInBounds i true) Q s') s) (h' : rg k w0 ops [⟨d1, op1, ty1, pp1, af1, gd1⟩] (fun s' => rn k w0 ops n (listed.setIfInBounds j true) Q s') s) (h'' : rg k w0 ops [⟨d2, op2, ty2, pp2, af2, gd2⟩] (fun s' => rn k w0 ops n (listed.setIfInBounds q true) Q s') s) : rn k w0 ops (n + 1) listed Q s := by
  unfold rn
  intro g a w hs Q' hQ hp
  refine ⟨fun e => (by rw [hr] at e; cases e), fun q hq => ?_⟩
  rw [hr] at hq
  simp at hq
  rcases hq with rfl | rfl | rfl
  · exact rg_op hi h hs fun g' s' a' w' hk hs' => by unfold rn at hk; exact hk g' a' w' hs' Q' hQ hp
  · exact rg_op hj h' hs fun g' s' a' w' hk hs' => by unfold rn at hk; exact hk g' a' w' hs' Q' hQ hp
  · exact rg_op hq h'' hs fun g' s' a' w' hk hs' => by unfold rn at hk; exact hk g' a' w' hs' Q' hQ hp
/-- An operation that looks at no memory. -/
def OpP (k : Wk) (w0 : Org) (s : St) (o : Oper) (v : SV) : Prop :=
  ∀ g a w, Sim k.P k.T k.N w0 g s a w → ∃ u, (∀ w', (execOp a.eval o).run k.P w' = .ok (.value u) w') ∧ RepSV k.P g w u v
theorem p_fa {t x : Nat} {y : Operand} {o : Oper} {r off f fo nn : Nat} {fs zs} {e : Nat × Nat × Nat} (ho : o.op = .fieldAddr t y f) (hx : s.ev y = .one (.ref r off)) (ht : tyAt k.τ t = .st nn fs zs) (hf : fs[f]? = some e) : OpP k w0 s o (.one (.ref r (off + e.1))) := by
  intro g a w hs
  have h := hs.ev y; rw [hx] at h
  obtain ⟨b, hb, he⟩ := h.one_inv.ref_inv
  exact ⟨.pointer (some ⟨b, off + e.1, none⟩), fun w' => by simp [execOp, ho, he, run_fieldPlace (tab_fld k.ok ht hf).1], .one (.ref _ hb)⟩
theorem p_mv {y : Operand} {o : Oper} {v : SV} (ho : o.op = .move y) (hx : s.ev y = v) : OpP k w0 s o v := by
  intro g a w hs
  exact ⟨a.eval y, fun w' => by simp [execOp, ho], hx ▸ hs.ev y⟩
/-- Such an operation may be taken first. -/
theorem n_pure {d : Nat} {v : SV} {op : Op} {ty : TypeId} {pp : String} {af : Array Edge} (i : Nat) (hs1 : Region.noSelect ops = true) (hi : ops[i]? = some ⟨some d, op, ty, pp, af, none⟩) (hN : Nat.blt d k.N = true) (hr : (Region.ready .any ops listed).contains i = true) (hf : Region.free .any ops listed i = true) (hp : OpP k w0 s ⟨some d, op, ty, pp, af, none⟩ v)
    (h : rn k w0 ops n (listed.setIfInBounds i true) Q (s.put d v)) : rn k w0 ops (n + 1) listed Q s := by
  unfold rn at h ⊢
  intro g a w hs Q' hQ hnp
  obtain ⟨u, h1, h2⟩ := hp g a w hs
  refine wpAny_first hi (Region.noSelect_spec hs1) (fun c a w hc => absurd hc (hnp _ _ _)) n listed a w (Region.free_spec hi hf) (by simpa using hr) (.inl ⟨by simp [Region.wanted], h1⟩) ?_
  exact h g _ w (hs.put (nlt hN) h2) Q' hQ hnp
/-- From here on: the operations l first, then m more. -/
theorem n_quiet (W : Option (List Nat)) (S : Array Bool) (l : List Nat) (m : Nat) (hn : n = l.length + m) (h : qn k w0 ops W S m Q l listed s) : rn k w0 ops n listed Q s := by
  subst hn
  unfold rn
  unfold qn at h
  refine AI_sound k.ok (W := W) (S := S) (Lf := LfS k w0 ops m Q) (fun listed f h' s' ⟨s0, e1, e2, e3⟩ h1 h2 => ?_) _ _ _ _ s h (fun _ => rfl) (fun _ => rfl)
  intro g a w hs
  exact e3 g a w (hs.alike (fun x => .inl (by rw [e1, h1])) (fun r => by rw [e2, h2]))
def allListed (S listed : Array Bool) : Bool := (List.range S.size).all fun j => !S.getD j false || listed.getD j true
theorem d_leaf (ha : allListed S listed = true) (h : rn k w0 ops m listed Q s) : qn k w0 ops W S m Q [] listed s := by
  unfold qn
  unfold rn at h
  refine ⟨fun j hj => ?_, s, fun _ => rfl, fun _ => rfl, h⟩
  have hlt : j < S.size := by
    rcases Nat.lt_or_ge j S.size with h | h
    · exact h
    · simp [Array.getElem?_eq_none h] at hj
  unfold allListed at ha
  rw [List.all_eq_true] at ha
  have := ha j (by simpa using hlt)
  rw [hj] at this
  simpa using this
def notAl : Op → Bool
  | .alloc _ => false
  | _ => true
def SV.noName : SV → Bool
  | .u => true
  | .one (.d _) => true
  | .one .nil => true
  | .one .u => true
  | .one .tape => true
  | .one (.fn _) => true
  | .tup [] => true
  | _ => false
theorem SV.noName_has {v : SV} (h : v.noName = true) (e : Nat) : v.has e = false := by
  unfold SV.noName at h
  split at h <;> first | rfl | cases h
/-- What is known where the names of W are not. -/
def dropW (W : Option (List Nat)) : List (Nat × VH) → List (Nat × VH)
  | [] => []
  | p :: l => bif inW W p.1 then dropW W l else p :: dropW W l
theorem dropW_get (W : Option (List Nat)) (H : List (Nat × VH)) (r : Nat) : getH (dropW W H) r = if inW W r = true then .gone else getH H r := by
  induction H with
  | nil => simp [dropW, getH]
  | cons p H ih =>
    simp only [dropW]
    cases hc : inW W p.1 with
    | true =>
      simp only [cond_true, ih, getH, beq_eq]
      by_cases e : p.1 = r
      · subst e; simp [hc]
      · simp [e]
    | false =>
      simp only [cond_false, getH, beq_eq, ih]
      by_cases e : p.1 = r
      · subst e; simp [hc]
      · simp [e]
/-- Less is known. -/
theorem Sim.less {P : Program} {T : TypeId} {N : Nat} {g : Gh} {a : Act} {w : World} {s s' : St} (hs : Sim P T N w0 g s a w) (hF : ∀ x, getF s'.F x = getF s.F x ∨ getF s'.F x = .u) (hH : ∀ r, getH s'.H r = getH s.H r ∨ getH s'.H r = .gone) : Sim P T N w0 g s' a w := by
  have lv : ∀ r, live s'.H r → live s.H r := fun r h => by
    unfold live at h ⊢
    rcases hH r with e | e
    · rwa [e] at h
    · rw [e] at h; cases h
  refine ⟨⟨fun r r' b a1 a2 => hs.gi.inj r r' b (lv r a1) (lv r' a2), fun r b a1 => hs.gi.bd r b (lv r a1), fun b o hr => ?_, hs.gi.keep, hs.gi.tape, hs.gi.org⟩, hs.dn, hs.nt, fun x => ?_, fun r => ?_⟩
  · obtain ⟨q1, q2, q3⟩ := hs.gi.rd b o hr
    exact ⟨q1, q2, fun r a1 => q3 r (lv r a1)⟩
  · rcases hF x with e | e
    · rw [e]; exact hs.hF x
    · rw [e]; exact .u _
  · rcases hH r with e | e
    · rw [e]; exact hs.hH r
    · rw [e]; trivial
def St.lkW (s : St) (W : Option (List Nat)) (o : Op) : St := ⟨lkF s.F (opTmps o.operands.toList), dropW W s.H⟩
theorem qf_of {W : Option (List Nat)} {o : Oper} {post : SV → Prop} (h : OpQ k.P k.T k.N w0 (s.lkW W o.op) o post) : QF k.P k.T k.N w0 W (getF s.F) (getH s.H) o post := by
  intro s' h1 h2 g a w hs
  refine h g a w (hs.less (fun x => ?_) fun r => ?_)
  · rcases Classical.em (x ∈ opTmps o.op.operands.toList) with hx | hx
    · exact .inl (by show getF (lkF s.F _) x = _; rw [lkF_get, if_pos hx, h1 x (opTmps_mem.1 hx)])
    · exact .inr (by show getF (lkF s.F _) x = _; rw [lkF_get, if_neg hx])
  · show getH (dropW W s.H) r = _ ∨ getH (dropW W s.H) r = _
    rw [dropW_get]
    cases hc : inW W r with
    | true => exact .inr (by simp)
    | false =>
      cases hl : (getH s.H r).live with
      | true => exact .inl (by simp [h2 r hc hl])
      | false =>
        refine .inr ?_
        simp only [Bool.false_eq_true, if_false]
        cases hx : getH s.H r with
        | gone => rfl
        | blk t cs => rw [hx] at hl; cases hl
        | arr e sz rows => rw [hx] at hl; cases hl
theorem put_f (s : St) (d : Nat) (v : SV) : getF (s.put d v).F = putf (getF s.F) d v := by
  funext x; rw [get_put]; rfl
/-- The stores that may come before leave alone what is looked at. -/
def fsB (ops : Array Oper) (W wf : Option (List Nat)) (S listed : Array Bool) (i : Nat) : Bool := freeS ops S listed i && (decide (wf = W) || stW ops listed i)
theorem fsB_spec {wf : Option (List Nat)} {i : Nat} {oi : Oper} (hi : ops[i]? = some oi) (h : fsB ops W wf S listed i = true) (j : Nat) (oj : Oper)
    (hj : ops[j]? = some oj) (hne : j ≠ i) (hun : listed.getD j true = false) (hno : j ∉ waitD ops listed i) :
    S.getD j false = true ∧ oi.apart ops oj = true ∧ (oj.dst = none → wf = W) := by
  unfold fsB at h
  simp only [Bool.and_eq_true, Bool.or_eq_true, decide_eq_true_eq] at h
  obtain ⟨q1, q2⟩ := freeS_spec hi h.1 j oj hj hne hun hno
  refine ⟨q1, q2, fun hd => ?_⟩
  rcases h.2 with h2 | h2
  · exact h2
  · exact absurd hd (stW_spec h2 j oj hj hne hun hno)
theorem d_one {i : Nat} (hr : Region.ready .any ops listed = [i]) (h : qst k w0 ops W S m Q l.length i listed s) : qn k w0 ops W S m Q (i :: l) listed s := by
  unfold qst at h
  unfold qn
  refine ⟨by rw [hr]; simp, fun j hj => ?_⟩
  rw [hr] at hj
  simp at hj
  subst hj
  exact h
theorem d_two {x : Nat} (i j : Nat) (hr : Region.ready .any ops listed = [i, j]) (h1 : qst k w0 ops W S m Q l.length i listed s) (h2 : qst k w0 ops W S m Q l.length j listed s) : qn k w0 ops W S m Q (x :: l) listed s := by
  unfold qst at h1 h2
  unfold qn
  refine ⟨by rw [hr]; simp, fun q hq => ?_⟩
  rw [hr] at hq
  simp at hq
  rcases hq with rfl | rfl
  · exact h1
  · exact h2
theorem d_three {x : Nat} (i j r : Nat) (hr : Region.ready .any ops listed = [i, j, r]) (h1 : qst k w0 ops W S m Q l.length i listed s) (h2 : qst k w0 ops W S m Q l.length j listed s) (h3 : qst k w0 ops W S m Q l.length r listed s) : qn k w0 ops W S m Q (x :: l) listed s := by
  unfold qst at h1 h2 h3
  unfold qn
  refine ⟨by rw [hr]; simp, fun q hq => ?_⟩
  rw [hr] at hq
  simp at hq
  rcases hq with rfl | rfl | rfl
  · exact h1
  · exact h2
  · exact h3
theorem d_core {wf : Option (List Nat)} {o : Oper} {d i : Nat} {v : SV} (hi : ops[i]? = some o) (hd : o.dst = some d) (hN : Nat.blt d k.N = true) (hr : (Region.ready .any ops listed).contains i = true) (hf : fsB ops W wf S listed i = true) (hu : (getF s.F d).noName = true) (ha : notAl o.op = true)
    (hok : okQ k.P k.T k.N w0 ops wf (getF s.F) (getH s.H) o (fun x => x = v)) (h : qn k w0 ops W S m Q l (listed.setIfInBounds i true) (s.put d v)) : qn k w0 ops W S m Q (i :: l) listed s := by
  unfold qn at h ⊢
  rw [put_f] at h
  exact AI_first hi hd (nlt hN) (fun t e => by rw [e] at ha; cases ha) l.length listed _ _ waitD_spec (fsB_spec hi hf) (by simpa using hr) (SV.noName_has hu) hok h
section
variable {op : Op} {ty : TypeId} {pp : String} {af : Array Edge} {d i : Nat}
theorem d_e {v : SV} (wf : Option (List Nat)) (hi : ops[i]? = some ⟨some d, op, ty, pp, af, none⟩) (hN : Nat.blt d k.N = true) (hr : (Region.ready .any ops listed).contains i = true) (hf : fsB ops W wf S listed i = true) (hu : (getF s.F d).noName = true) (ha : notAl op = true)
    (he : OpE k.P k.T k.N w0 (s.lkW wf op) ⟨some d, op, ty, pp, af, none⟩ v) (h : qn k w0 ops W S m Q l (listed.setIfInBounds i true) (s.put d v)) : qn k w0 ops W S m Q (i :: l) listed s :=
  d_core hi rfl hN hr hf hu ha (.inl ⟨rfl, qf_of he⟩) h
theorem d_ey {j q : Nat} {v : SV} {w c : Bool} (wf : Option (List Nat)) (hi : ops[i]? = some ⟨some d, op, ty, pp, af, some (j, w)⟩) (hj : (ops[j]?).bind (·.dst) = some q) (hv : getF s.F q = .one (.d (.bool c))) (hc : c = w) (hN : Nat.blt d k.N = true) (hr : (Region.ready .any ops listed).contains i = true) (hf : fsB ops W wf S listed i = true) (hu : (getF s.F d).noName = true) (ha : notAl op = true)
    (he : OpE k.P k.T k.N w0 (s.lkW wf op) ⟨some d, op, ty, pp, af, some (j, w)⟩ v) (h : qn k w0 ops W S m Q l (listed.setIfInBounds i true) (s.put d v)) : qn k w0 ops W S m Q (i :: l) listed s :=
  d_core hi rfl hN hr hf hu ha (.inl ⟨by simp only [wantI, hj, hv]; simp [hc], qf_of he⟩) h
theorem d_gn {j q : Nat} {c : Bool} (hi : ops[i]? = some ⟨some d, op, ty, pp, af, some (j, true)⟩) (hj : (ops[j]?).bind (·.dst) = some q) (hv : getF s.F q = .one (.d (.bool c))) (hc : c = false) (hN : Nat.blt d k.N = true) (hr : (Region.ready .any ops listed).contains i = true) (hf : freeS ops S listed i = true) (hu : (getF s.F d).noName = true) (ha : notAl op = true)
    (h : qn k w0 ops W S m Q l (listed.setIfInBounds i true) (s.put d (.tup []))) : qn k w0 ops W S m Q (i :: l) listed s :=
  d_core (wf := W) hi rfl hN hr (by unfold fsB; simp [hf]) hu ha (.inr ⟨by simp only [wantI, hj, hv]; subst hc; rfl, rfl⟩) h
theorem d_gm {j q : Nat} {c : Bool} (hi : ops[i]? = some ⟨some d, op, ty, pp, af, some (j, false)⟩) (hj : (ops[j]?).bind (·.dst) = some q) (hv : getF s.F q = .one (.d (.bool c))) (hc : c = true) (hN : Nat.blt d k.N = true) (hr : (Region.ready .any ops listed).contains i = true) (hf : freeS ops S listed i = true) (hu : (getF s.F d).noName = true) (ha : notAl op = true)
    (h : qn k w0 ops W S m Q l (listed.setIfInBounds i true) (s.put d (.tup []))) : qn k w0 ops W S m Q (i :: l) listed s :=
  d_core (wf := W) hi rfl hN hr (by unfold fsB; simp [hf]) hu ha (.inr ⟨by simp only [wantI, hj, hv]; subst hc; rfl, rfl⟩) h
theorem d_gz {j q : Nat} {w : Bool} (hi : ops[i]? = some ⟨some d, op, ty, pp, af, some (j, w)⟩) (hj : (ops[j]?).bind (·.dst) = some q) (hv : getF s.F q = .tup []) (hN : Nat.blt d k.N = true) (hr : (Region.ready .any ops listed).contains i = true) (hf : freeS ops S listed i = true) (hu : (getF s.F d).noName = true) (ha : notAl op = true)
    (h : qn k w0 ops W S m Q l (listed.setIfInBounds i true) (s.put d (.tup []))) : qn k w0 ops W S m Q (i :: l) listed s :=
  d_core (wf := W) hi rfl hN hr (by unfold fsB; simp [hf]) hu ha (.inr ⟨by simp only [wantI, hj, hv], rfl⟩) h
/-- A store, alone. -/
theorem s_st {t : Nat} {x y : Operand} {r off n : Nat} {tt : Nat} {cs vs : List CV} (hi : ops[i]? = some ⟨none, .store t x y, ty, pp, af, none⟩) (hx : s.ev x = .one (.ref r off)) (hW : inW W r = true) (hH : getH s.H r = .blk tt cs) (hn : (tyAt k.τ t).size = some n) (hy : (s.ev y).cells = some vs) (hl : Nat.beq vs.length n = true) (hle : Nat.ble (off + n) cs.length = true)
    (hl : l.length = nq) (h : qn k w0 ops W S m Q l (listed.setIfInBounds i true) (s.hput r (.blk tt (setSeg cs off vs)))) : qst k w0 ops W S m Q nq i listed s := by
  unfold qn at h
  unfold qst
  subst hl
  refine ⟨_, hi, .inr ⟨rfl, rfl, r, .blk tt (setSeg cs off vs), hW, fun s' h1 h2 => ?_, ?_⟩⟩
  · have ex : s'.ev x = s.ev x := by cases x <;> first | rfl | exact h1 _ (by simp [Op.operands])
    have ey : s'.ev y = s.ev y := by cases y <;> first | rfl | exact h1 _ (by simp [Op.operands])
    have := opr_store (P := k.P) (T := k.T) (N := k.N) (w0 := w0) (s := s') (o := ⟨none, .store t x y, ty, pp, af, none⟩) k.ok rfl rfl (by rw [ex]; exact hx) (by rw [h2]; exact hH) hn (by rw [ey]; exact hy) (Nat.eq_of_beq_eq_true hl) (Nat.le_of_ble_eq_true hle)
    exact this
  · have e2 : getH (s.hput r (VH.blk tt (setSeg cs off vs))).H = puth (getH s.H) r (.blk tt (setSeg cs off vs)) := by
      funext q
      show getH ((r, _) :: s.H) q = _
      rw [hget_put]; rfl
    rw [e2] at h
    exact h
theorem d_st {t : Nat} {x y : Operand} {r off n : Nat} {tt : Nat} {cs vs : List CV} (hi : ops[i]? = some ⟨none, .store t x y, ty, pp, af, none⟩) (hr : Region.ready .any ops listed = [i]) (hx : s.ev x = .one (.ref r off)) (hW : inW W r = true) (hH : getH s.H r = .blk tt cs) (hn : (tyAt k.τ t).size = some n) (hy : (s.ev y).cells = some vs) (hl : Nat.beq vs.length n = true) (hle : Nat.ble (off + n) cs.length = true)
    (h : qn k w0 ops W S m Q l (listed.setIfInBounds i true) (s.hput r (.blk tt (setSeg cs off vs)))) : qn k w0 ops W S m Q (i :: l) listed s :=
  d_one hr (s_st hi hx hW hH hn hy hl hle rfl h)
theorem s_ste {t : Nat} {x y : Operand} {r i2 j2 sz n e : Nat} {rows : List (List Cell)} {row : List Cell} {vs : List CV} {ds : List Cell} (hi : ops[i]? = some ⟨none, .store t x y, ty, pp, af, none⟩) (hx : s.ev x = .one (.el r i2 j2 sz)) (hW : inW W r = true) (hH : getH s.H r = .arr e sz rows) (hn : (tyAt k.τ t).size = some n) (hy : (s.ev y).cells = some vs) (hds : unDL vs = some ds) (hl : ds.length = n) (hrow : rows[i2]? = some row) (hle : j2 + n ≤ row.length)
    (hl : l.length = nq) (h : qn k w0 ops W S m Q l (listed.setIfInBounds i true) (s.hput r (.arr e sz (rows.set i2 (setSegC row j2 ds))))) : qst k w0 ops W S m Q nq i listed s := by
  unfold qn at h
  unfold qst
  subst hl
  refine ⟨_, hi, .inr ⟨rfl, rfl, r, .arr e sz (rows.set i2 (setSegC row j2 ds)), hW, fun s' h1 h2 => ?_, ?_⟩⟩
  · have ex : s'.ev x = s.ev x := by cases x <;> first | rfl | exact h1 _ (by simp [Op.operands])
    have ey : s'.ev y = s.ev y := by cases y <;> first | rfl | exact h1 _ (by simp [Op.operands])
    have := opr_store_el (P := k.P) (T := k.T) (N := k.N) (w0 := w0) (s := s') (o := ⟨none, .store t x y, ty, pp, af, none⟩) k.ok rfl rfl (by rw [ex]; exact hx) (by rw [h2]; exact hH) hn (by rw [ey]; exact hy) hds hl hrow hle
    exact this
  · have e2 : getH (s.hput r (VH.arr e sz (rows.set i2 (setSegC row j2 ds)))).H = puth (getH s.H) r (.arr e sz (rows.set i2 (setSegC row j2 ds))) := by
      funext q
      show getH ((r, _) :: s.H) q = _
      rw [hget_put]; rfl
    rw [e2] at h
    exact h
theorem d_ste {t : Nat} {x y : Operand} {r i2 j2 sz n e : Nat} {rows : List (List Cell)} {row : List Cell} {vs : List CV} {ds : List Cell} (hi : ops[i]? = some ⟨none, .store t x y, ty, pp, af, none⟩) (hr : Region.ready .any ops listed = [i]) (hx : s.ev x = .one (.el r i2 j2 sz)) (hW : inW W r = true) (hH : getH s.H r = .arr e sz rows) (hn : (tyAt k.τ t).size = some n) (hy : (s.ev y).cells = some vs) (hds : unDL vs = some ds) (hl : ds.length = n) (hrow : rows[i2]? = some row) (hle : j2 + n ≤ row.length)
    (h : qn k w0 ops W S m Q l (listed.setIfInBounds i true) (s.hput r (.arr e sz (rows.set i2 (setSegC row j2 ds))))) : qn k w0 ops W S m Q (i :: l) listed s :=
  d_one hr (s_ste hi hx hW hH hn hy hds hl hrow hle rfl h)
theorem d_gs {dst : Option Nat} {j q : Nat} {w : Bool} (c : Bool) (hi : ops[i]? = some ⟨dst, op, ty, pp, af, some (j, w)⟩) (hj : (ops[j]?).bind (·.dst) = some q) (hv : getF s.F q = .one (.d (.bool c))) (h1 : c = true → qn k w0 ops W S m Q (i :: l) listed s) (h2 : c = false → qn k w0 ops W S m Q (i :: l) listed s) : qn k w0 ops W S m Q (i :: l) listed s := by
  cases h : c
  · exact h2 h
  · exact h1 h
/-- What may hand back one of many must be alone. -/
theorem s_nd {post : SV → Prop} (hi : ops[i]? = some ⟨some d, op, ty, pp, af, none⟩) (hN : Nat.blt d k.N = true)
    (he : OpQ k.P k.T k.N w0 (s.lkW (some []) op) ⟨some d, op, ty, pp, af, none⟩ post) (hl : l.length = nq) (h : ∀ v, post v → qn k w0 ops W S m Q l (listed.setIfInBounds i true) (s.put d v)) : qst k w0 ops W S m Q nq i listed s := by
  unfold qn at h
  unfold qst
  subst hl
  exact ⟨_, hi, .inl ⟨d, rfl, nlt hN, .inl ⟨some [], post, .inl ⟨rfl, qf_of he⟩, fun v hv => by have := h v hv; rw [put_f] at this; exact this⟩⟩⟩
theorem d_nd {post : SV → Prop} (hi : ops[i]? = some ⟨some d, op, ty, pp, af, none⟩) (hN : Nat.blt d k.N = true) (hr : Region.ready .any ops listed = [i])
    (he : OpQ k.P k.T k.N w0 (s.lkW (some []) op) ⟨some d, op, ty, pp, af, none⟩ post) (h : ∀ v, post v → qn k w0 ops W S m Q l (listed.setIfInBounds i true) (s.put d v)) : qn k w0 ops W S m Q (i :: l) listed s :=
  d_one hr (s_nd hi hN he rfl h)
theorem s_ndy {post : SV → Prop} {j q : Nat} {w c : Bool} (hi : ops[i]? = some ⟨some d, op, ty, pp, af, some (j, w)⟩) (hj : (ops[j]?).bind (·.dst) = some q) (hv : getF s.F q = .one (.d (.bool c))) (hc : c = w) (hN : Nat.blt d k.N = true)
    (he : OpQ k.P k.T k.N w0 (s.lkW (some []) op) ⟨some d, op, ty, pp, af, some (j, w)⟩ post) (hl : l.length = nq) (h : ∀ v, post v → qn k w0 ops W S m Q l (listed.setIfInBounds i true) (s.put d v)) : qst k w0 ops W S m Q nq i listed s := by
  unfold qn at h
  unfold qst
  subst hl
  exact ⟨_, hi, .inl ⟨d, rfl, nlt hN, .inl ⟨some [], post, .inl ⟨by simp only [wantI, hj, hv]; simp [hc], qf_of he⟩, fun v hv => by have := h v hv; rw [put_f] at this; exact this⟩⟩⟩
theorem d_ndy {post : SV → Prop} {j q : Nat} {w c : Bool} (hi : ops[i]? = some ⟨some d, op, ty, pp, af, some (j, w)⟩) (hj : (ops[j]?).bind (·.dst) = some q) (hv : getF s.F q = .one (.d (.bool c))) (hc : c = w) (hN : Nat.blt d k.N = true) (hr : Region.ready .any ops listed = [i])
    (he : OpQ k.P k.T k.N w0 (s.lkW (some []) op) ⟨some d, op, ty, pp, af, some (j, w)⟩ post) (h : ∀ v, post v → qn k w0 ops W S m Q l (listed.setIfInBounds i true) (s.put d v)) : qn k w0 ops W S m Q (i :: l) listed s :=
  d_one hr (s_ndy hi hj hv hc hN he rfl h)
theorem s_al {t : Nat} {zs : List Z} (hi : ops[i]? = some ⟨some d, .alloc t, ty, pp, af, none⟩) (hN : Nat.blt d k.N = true) (hz : (tyAt k.τ t).zs = some zs) (hfr : s.fresh d = true)
    (hl : l.length = nq) (h : qn k w0 ops W S m Q l (listed.setIfInBounds i true) ((s.hput d (.blk t (zs.map Z.cv))).put d (.one (.ref d 0)))) : qst k w0 ops W S m Q nq i listed s := by
  obtain ⟨f1, f2, f3⟩ := St.fresh_spec hfr
  unfold qn at h
  unfold qst
  subst hl
  refine ⟨_, hi, .inl ⟨d, rfl, nlt hN, .inr (.inl ⟨t, zs, rfl, rfl, hz, ⟨f1, f2, f3⟩, ?_⟩)⟩⟩
  rw [put_f] at h
  have e : getH ((s.hput d (VH.blk t (zs.map Z.cv))).put d (.one (.ref d 0))).H = puth (getH s.H) d (.blk t (zs.map Z.cv)) := by
    funext x
    show getH ((d, _) :: s.H) x = _
    rw [hget_put]; rfl
  rw [e] at h
  exact h
theorem d_al {t : Nat} {zs : List Z} (hi : ops[i]? = some ⟨some d, .alloc t, ty, pp, af, none⟩) (hN : Nat.blt d k.N = true) (hr : Region.ready .any ops listed = [i]) (hz : (tyAt k.τ t).zs = some zs) (hfr : s.fresh d = true)
    (h : qn k w0 ops W S m Q l (listed.setIfInBounds i true) ((s.hput d (.blk t (zs.map Z.cv))).put d (.one (.ref d 0)))) : qn k w0 ops W S m Q (i :: l) listed s :=
  d_one hr (s_al hi hN hz hfr rfl h)
theorem ev_cg {s s' : St} {x : Operand} (h : ∀ t, x = .tmp t → getF s'.F t = getF s.F t) : s'.ev x = s.ev x := by
  cases x <;> first | rfl | exact h _ rfl
theorem src_cg {s s' : St} {sz : Nat} {v : SV} {rows : List (List Cell)} (h : Src s sz v rows) (h2 : ∀ r, getH s'.H r = getH s.H r) : Src s' sz v rows := by
  cases h with
  | d rows h => exact .d rows h
  | sl h => exact .sl ((h2 _).trans h)
  | nil => exact .nil
theorem partsOf_cg {s s' : St} : ∀ (l : List (Nat × Operand)), (∀ p ∈ l, s'.ev p.2 = s.ev p.2) → partsOf s' l = partsOf s l
  | [], _ => rfl
  | p :: l, h => by
    simp only [partsOf]
    rw [h p (by simp), partsOf_cg l fun q hq => h q (by simp [hq])]
/-- A new slice: only a new name. -/
theorem s_bs {t len e sz by_ : Nat} {zs : List Z} {parts : Array (Nat × Operand)} {cp : List (Nat × List CV)} {r : List CV} {fl : List Cell} (hi : ops[i]? = some ⟨some d, .buildSlice t len parts, ty, pp, af, none⟩) (hN : Nat.blt d k.N = true)
    (ht : tyAt k.τ t = .sl e sz by_) (hz : (tyAt k.τ e).zs = some zs) (hp : partsOf s parts.toList = some cp) (hcf : cfill ((List.range len).map fun i => (i * sz, sz)) (List.replicate (len * sz) .u) cp = some r) (hfl : unDL r = some fl)
    (h0 : Nat.blt 0 (len * sz) = true) (hm : Nat.ble (len * sz) 16777216 = true) (hfr : s.fresh d = true) (hzl : zs.length = sz)
    (hl : l.length = nq) (h : qn k w0 ops W S m Q l (listed.setIfInBounds i true) ((s.hput d (.arr e sz (chunks sz len fl))).put d (.one (.sl d len sz)))) : qst k w0 ops W S m Q nq i listed s := by
  obtain ⟨f1, f2, f3⟩ := St.fresh_spec hfr
  unfold qn at h
  unfold qst
  subst hl
  refine ⟨_, hi, .inl ⟨d, rfl, nlt hN, .inr (.inr ⟨.arr e sz (chunks sz len fl), .one (.sl d len sz), rfl, fun s' h1 h2 h3 => ?_, ⟨f1, f2, f3⟩, ?_⟩)⟩⟩
  · have ep : partsOf s' parts.toList = partsOf s parts.toList := partsOf_cg _ fun p hp => ev_cg fun q hq => h1 q (by
      simp only [Op.operands]
      rw [List.mem_map]
      exact ⟨p, hp, hq⟩)
    exact opr_buildSliceG (P := k.P) (T := k.T) (N := k.N) (w0 := w0) (s := s') k.ok rfl rfl (nlt hN) ht hz (by rw [ep]; exact hp) hcf hfl (nlt h0) (Nat.le_of_ble_eq_true hm) h3.ff h3.hh hzl
  · rw [put_f] at h
    have e2 : getH ((s.hput d (VH.arr e sz (chunks sz len fl))).put d (.one (.sl d len sz))).H = puth (getH s.H) d (.arr e sz (chunks sz len fl)) := by
      funext q
      show getH ((d, _) :: s.H) q = _
      rw [hget_put]; rfl
    rw [e2] at h
    exact h
theorem s_bsy {jj q : Nat} {wt c : Bool} {t len e sz by_ : Nat} {zs : List Z} {parts : Array (Nat × Operand)} {cp : List (Nat × List CV)} {r : List CV} {fl : List Cell} (hi : ops[i]? = some ⟨some d, .buildSlice t len parts, ty, pp, af, some (jj, wt)⟩) (hj : (ops[jj]?).bind (·.dst) = some q) (hv : getF s.F q = .one (.d (.bool c))) (hc : c = wt) (hN : Nat.blt d k.N = true)
    (ht : tyAt k.τ t = .sl e sz by_) (hz : (tyAt k.τ e).zs = some zs) (hp : partsOf s parts.toList = some cp) (hcf : cfill ((List.range len).map fun i => (i * sz, sz)) (List.replicate (len * sz) .u) cp = some r) (hfl : unDL r = some fl)
    (h0 : Nat.blt 0 (len * sz) = true) (hm : Nat.ble (len * sz) 16777216 = true) (hfr : s.fresh d = true) (hzl : zs.length = sz)
    (hl : l.length = nq) (h : qn k w0 ops W S m Q l (listed.setIfInBounds i true) ((s.hput d (.arr e sz (chunks sz len fl))).put d (.one (.sl d len sz)))) : qst k w0 ops W S m Q nq i listed s := by
  obtain ⟨f1, f2, f3⟩ := St.fresh_spec hfr
  unfold qn at h
  unfold qst
  subst hl
  refine ⟨_, hi, .inl ⟨d, rfl, nlt hN, .inr (.inr ⟨.arr e sz (chunks sz len fl), .one (.sl d len sz), by simp only [wantI, hj, hv]; simp [hc], fun s' h1 h2 h3 => ?_, ⟨f1, f2, f3⟩, ?_⟩)⟩⟩
  · have ep : partsOf s' parts.toList = partsOf s parts.toList := partsOf_cg _ fun p hp => ev_cg fun q hq => h1 q (by
      simp only [Op.operands]
      rw [List.mem_map]
      exact ⟨p, hp, hq⟩)
    exact opr_buildSliceG (P := k.P) (T := k.T) (N := k.N) (w0 := w0) (s := s') k.ok rfl rfl (nlt hN) ht hz (by rw [ep]; exact hp) hcf hfl (nlt h0) (Nat.le_of_ble_eq_true hm) h3.ff h3.hh hzl
  · rw [put_f] at h
    have e2 : getH ((s.hput d (VH.arr e sz (chunks sz len fl))).put d (.one (.sl d len sz))).H = puth (getH s.H) d (.arr e sz (chunks sz len fl)) := by
      funext q
      show getH ((d, _) :: s.H) q = _
      rw [hget_put]; rfl
    rw [e2] at h
    exact h
theorem d_bs {t len e sz by_ : Nat} {zs : List Z} {parts : Array (Nat × Operand)} {cp : List (Nat × List CV)} {r : List CV} {fl : List Cell} (hi : ops[i]? = some ⟨some d, .buildSlice t len parts, ty, pp, af, none⟩) (hN : Nat.blt d k.N = true) (hr : Region.ready .any ops listed = [i])
    (ht : tyAt k.τ t = .sl e sz by_) (hz : (tyAt k.τ e).zs = some zs) (hp : partsOf s parts.toList = some cp) (hcf : cfill ((List.range len).map fun i => (i * sz, sz)) (List.replicate (len * sz) .u) cp = some r) (hfl : unDL r = some fl)
    (h0 : Nat.blt 0 (len * sz) = true) (hm : Nat.ble (len * sz) 16777216 = true) (hfr : s.fresh d = true) (hzl : zs.length = sz)
    (h : qn k w0 ops W S m Q l (listed.setIfInBounds i true) ((s.hput d (.arr e sz (chunks sz len fl))).put d (.one (.sl d len sz)))) : qn k w0 ops W S m Q (i :: l) listed s :=
  d_one hr (s_bs hi hN ht hz hp hcf hfl h0 hm hfr hzl rfl h)
/-- append to nil: only a new name. -/
theorem s_ap0 {t e sz by_ : Nat} {zs : List Z} {x y : Operand} {rows' : List (List Cell)} (hi : ops[i]? = some ⟨some d, .call { callee := .builtin .append, args := #[x, y], argTypes := #[t, t] }, ty, pp, af, none⟩) (hN : Nat.blt d k.N = true)
    (ht : tyAt k.τ t = .sl e sz by_) (hz : (tyAt k.τ e).zs = some zs) (hzl : zs.length = sz) (h0 : Nat.blt 0 sz = true) (hx : s.ev x = .one .nil) (hy : Src s sz (s.ev y) rows') (hfr : s.fresh d = true) (hbd : rows'.length * by_ ≤ 140737488355328) (hb0 : Nat.blt 0 by_ = true)
    (hl : l.length = nq) (h : qn k w0 ops W S m Q l (listed.setIfInBounds i true) ((s.hput d (.arr e sz rows')).put d (.one (.sl d rows'.length sz)))) : qst k w0 ops W S m Q nq i listed s := by
  obtain ⟨f1, f2, f3⟩ := St.fresh_spec hfr
  unfold qn at h
  unfold qst
  subst hl
  refine ⟨_, hi, .inl ⟨d, rfl, nlt hN, .inr (.inr ⟨.arr e sz rows', .one (.sl d rows'.length sz), rfl, fun s' h1 h2 h3 => ?_, ⟨f1, f2, f3⟩, ?_⟩)⟩⟩
  · have ex : s'.ev x = s.ev x := ev_cg fun q hq => h1 q (by subst hq; simp [Op.operands, Call.operands])
    have ey : s'.ev y = s.ev y := ev_cg fun q hq => h1 q (by subst hq; simp [Op.operands, Call.operands])
    have := append_core (P := k.P) (T := k.T) (N := k.N) (w0 := w0) (s := s') (o := ⟨some d, .call { callee := .builtin .append, args := #[x, y], argTypes := #[t, t] }, ty, pp, af, none⟩) (D := d) (F := s'.F) (r0 := none) (rows := []) k.ok rfl rfl (nlt hN) ht hz hzl (nlt h0) (by rw [ex, hx]; exact .nil) (by rw [ey]; exact src_cg hy h2) h3.ff h3.hh (fun _ => .inr rfl) (by simpa using hbd) (nlt hb0)
    simpa [goneH, St.hput] using this
  · rw [put_f] at h
    have e2 : getH ((s.hput d (VH.arr e sz rows')).put d (.one (.sl d rows'.length sz))).H = puth (getH s.H) d (.arr e sz rows') := by
      funext q
      show getH ((d, _) :: s.H) q = _
      rw [hget_put]; rfl
    rw [e2] at h
    exact h
theorem d_ap0 {t e sz by_ : Nat} {zs : List Z} {x y : Operand} {rows' : List (List Cell)} (hi : ops[i]? = some ⟨some d, .call { callee := .builtin .append, args := #[x, y], argTypes := #[t, t] }, ty, pp, af, none⟩) (hN : Nat.blt d k.N = true) (hr : Region.ready .any ops listed = [i])
    (ht : tyAt k.τ t = .sl e sz by_) (hz : (tyAt k.τ e).zs = some zs) (hzl : zs.length = sz) (h0 : Nat.blt 0 sz = true) (hx : s.ev x = .one .nil) (hy : Src s sz (s.ev y) rows') (hfr : s.fresh d = true) (hbd : rows'.length * by_ ≤ 140737488355328) (hb0 : Nat.blt 0 by_ = true)
    (h : qn k w0 ops W S m Q l (listed.setIfInBounds i true) ((s.hput d (.arr e sz rows')).put d (.one (.sl d rows'.length sz)))) : qn k w0 ops W S m Q (i :: l) listed s :=
  d_one hr (s_ap0 hi hN ht hz hzl h0 hx hy hfr hbd hb0 rfl h)
end
/-- Calls. -/
theorem e_call {pu : Bool} {o : Oper} {f : FuncId} {xs : Array Operand} {ts : Array TypeId} {args : List SV} {v : SV} (ho : o.op = .call { callee := .value (.func f), args := xs, argTypes := ts }) (hic : IC k.P k.T f args (fun x => x = v)) (ha : PsSL k.P k.T s pu xs.toList args) (hsc : pu = true ∨ v.sc = true) : OpE k.P k.T k.N w0 s o v :=
  opq_call ho hic ha (hsc.imp id fun h sv e => e ▸ h)
theorem e_callp {pu : Bool} {o : Oper} {f : FuncId} {xs : Array Operand} {ts : Array TypeId} {args : List SV} {post : SV → Prop} (ho : o.op = .call { callee := .value (.func f), args := xs, argTypes := ts }) (hic : IC k.P k.T f args post) (ha : PsSL k.P k.T s pu xs.toList args) (hsc : pu = true ∨ ∀ v, post v → v.sc = true) : OpQ k.P k.T k.N w0 s o post :=
  opq_call ho hic ha hsc
theorem e_callc {pu : Bool} {o : Oper} {y : Operand} {f : FuncId} {cs cs' : List CV} {xs : Array Operand} {ts : Array TypeId} {args : List SV} {v : SV} (ho : o.op = .call { callee := .value y, args := xs, argTypes := ts }) (hy : s.ev y = .one (.clo f cs)) (hic : IC k.P k.T f (args ++ cs'.map .one) (fun x => x = v)) (ha : PsSL k.P k.T s pu xs.toList args) (hc : PsL k.P k.T s.H pu cs cs') (hsc : pu = true ∨ v.sc = true) : OpE k.P k.T k.N w0 s o v :=
  opq_call_clo ho hy hic ha hc (hsc.imp id fun h sv e => e ▸ h)
end
end Go.Proofs.Ytbnmcdnkeipdhaa
