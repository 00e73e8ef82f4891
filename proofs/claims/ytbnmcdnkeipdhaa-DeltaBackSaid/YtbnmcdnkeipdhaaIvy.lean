/- Results that are owned lists: one new name. -/
import Derived.Test.YtbnmcdnkeipdhaaIvx
set_option linter.all false
namespace Go.Proofs.Ytbnmcdnkeipdhaa
open Go.RowKit Go.Shelf
/-- The result is a list of the caller's, or nil. -/
def OwnL (e sz : Nat) (rows : List (List Cell)) : SV → List (Nat × VH) → Prop := fun x y =>
  (x = .one .nil ∧ y = [] ∧ rows = []) ∨ ∃ r, x = .one (.sl r rows.length sz) ∧ y = [(r, .arr e sz rows)]
def Gh.graft (g g' : Gh) (d : Nat) (bd : Option Nat) (kd : Nat) : Gh := ⟨fun x => if x = d then bd else g.β x, fun x => if x = d then kd else g.κ x, g'.Rd, g.tp, g.tl⟩
section
variable {P : Program} {T : TypeId} {N : Nat} {w0 : Org} {g g' : Gh} {s : St} {a : Act} {w w' : World} {d : Nat} {bd : Option Nat} {kd : Nat} {vh : VH}
theorem graft_hi : (g.graft g' d bd kd).β d = bd ∧ (g.graft g' d bd kd).κ d = kd := by simp [Gh.graft]
theorem graft_lo {x : Nat} (h : x ≠ d) : (g.graft g' d bd kd).β x = g.β x ∧ (g.graft g' d bd kd).κ x = g.κ x := by simp [Gh.graft, h]
theorem Sim.graft (hs : Sim P T N w0 g s a w) (f1 : ∀ x, (getF s.F x).has d = false) (f2 : ∀ r, (getH s.H r).has d = false) (h1 : ∀ b, bd = some b → w.heap.size ≤ b ∧ b < w'.heap.size) (h2 : ∀ b o, g'.Rd b o → bd ≠ some b) (he : ExtC T (psG g s.H w true) g' w w') (hh : HeapOK P (g.graft g' d bd kd) w' d vh) :
    Sim P T N w0 (g.graft g' d bd kd) (s.hput d vh) a w' := by
  have hsz := hs.gi.sz
  have hsz2 := he.keep.size
  have hget : ∀ r, getH (s.hput d vh).H r = if r = d then vh else getH s.H r := fun r => by
    show getH ((d, vh) :: s.H) r = _
    simp only [getH, beq_eq]
    by_cases e : d = r
    · simp [e]
    · simp [e, show ¬ r = d from fun h => e h.symm]
  have hcell : ∀ b o, g.Rd b o → w'.cell? ⟨b, o, none⟩ = w.cell? ⟨b, o, none⟩ := fun b o hr => he.keep.cell (p := ⟨b, o, none⟩) fun hm => by
    obtain ⟨h1, h2, _⟩ := hs.gi.rd b o hr
    rcases hm with hm | hm
    · exact h2 hm
    · simp at hm; omega
  have hf : Fut g.Rd (g.graft g' d bd kd).Rd w w' := ⟨fun b o hr => he.rd b o hr, hcell⟩
  have hown : ∀ r b, live (s.hput d vh).H r → (g.graft g' d bd kd).β r = some b → (r = d ∧ bd = some b ∧ w.heap.size ≤ b ∧ b < w'.heap.size) ∨ (r ≠ d ∧ live s.H r ∧ g.β r = some b ∧ w0.heap.size ≤ b ∧ b < w.heap.size ∧ g.tp ≠ some b) := fun r b hl hb => by
    by_cases e : r = d
    · subst e
      rw [graft_hi.1] at hb
      obtain ⟨q1, q2⟩ := h1 b hb
      exact .inl ⟨rfl, hb, q1, q2⟩
    · rw [(graft_lo e).1] at hb
      have hl' : live s.H r := by unfold live at hl ⊢; rw [hget, if_neg e] at hl; exact hl
      obtain ⟨q1, q2, q3⟩ := hs.gi.bd r b hl' hb
      exact .inr ⟨e, hl', hb, q1, q2, q3⟩
  have htp : ∀ tb, g.tp = some tb → tb < w.heap.size := fun tb h => (hs.gi.tape tb h).1
  refine ⟨⟨fun r r' b q1 q2 q3 q4 => ?_, fun r b q1 q2 => ?_, fun b o hr => ?_, ?_, fun tb htb => ?_, ⟨fun b o hr => he.rd b o (hs.gi.org.rd0 _ _ hr), fun b o hr => ?_, hs.gi.org.tp0, hs.gi.org.tpo⟩⟩, hs.dn, hs.nt, fun x => (hs.hF x).move hf (fun _ h => h) fun r hr => graft_lo fun e => (by subst e; rw [f1 x] at hr; cases hr), fun r => ?_⟩
  · rcases hown r b q1 q3 with ⟨e1, b1, c1, d1⟩ | ⟨e1, l1, b1, c1, d1, _⟩ <;> rcases hown r' b q2 q4 with ⟨e2, b2, c2, d2⟩ | ⟨e2, l2, b2, c2, d2, _⟩
    · rw [e1, e2]
    · omega
    · omega
    · exact hs.gi.inj r r' b l1 l2 b1 b2
  · rcases hown r b q1 q2 with ⟨e1, b1, c1, d1⟩ | ⟨e1, l1, b1, c1, d1, t1⟩
    · exact ⟨by omega, d1, fun h => by have := htp b h; omega⟩
    · exact ⟨c1, by omega, t1⟩
  · have hb : b < w'.heap.size ∧ g.tp ≠ some b ∧ (g.Rd b o ∨ w.heap.size ≤ b) := by
      rcases he.new b o hr with h | ⟨h1, h2⟩
      · obtain ⟨q1, q2, _⟩ := hs.gi.rd b o h
        exact ⟨by omega, q2, .inl h⟩
      · exact ⟨h2, fun h => by have := htp b h; omega, .inr h1⟩
    refine ⟨hb.1, hb.2.1, fun r hl h => ?_⟩
    rcases hown r b hl h with ⟨e1, b1, c1, d1⟩ | ⟨e1, l1, b1, c1, d1, t1⟩
    · exact h2 b o hr b1
    · rcases hb.2.2 with h3 | h3
      · exact (hs.gi.rd b o h3).2.2 r l1 b1
      · omega
  · refine hs.gi.keep.trans (he.keep.mono fun k hk => ?_)
    rcases hk with hk | hk
    · exact hs.gi.org.tpo k hk
    · exact .inr (by omega)
  · exact ⟨by have := htp tb htb; omega, he.tape tb htb⟩
  · rcases he.new b o hr with h | ⟨h1, h2⟩
    · exact hs.gi.org.new0 b o h
    · exact .inr (by omega)
  · rw [hget]
    by_cases e : r = d
    · subst e; rw [if_pos rfl]; exact hh
    · rw [if_neg e]
      refine (hs.hH r).move hf (fun _ h => h) (fun q hq => graft_lo fun e2 => ?_) fun b hl hb => ?_
      · subst e2
        rcases hq with hq | hq
        · rw [f2 r] at hq; cases hq
        · exact e hq.symm
      · obtain ⟨_, a2, a3⟩ := hs.gi.bd r b hl hb
        exact he.keep.block b fun hm => by
          rcases hm with hm | hm
          · exact a3 hm
          · omega
end
section
variable {P : Program} {T : TypeId} {N : Nat} {w0 : Org} {s : St} {o : Oper}
theorem opr_calll {f : FuncId} {xs : Array Operand} {ts : Array TypeId} {args : List SV} {et sz : Nat} {rows : List (List Cell)} {d : Nat} (ho : o.op = .call { callee := .value (.func f), args := xs, argTypes := ts }) (hd : o.dst = some d) (hN : d < N) (hic : ICo P T f args (OwnL et sz rows))
    (ha : PsSL P T s true xs.toList args) (f1 : ∀ x, (getF s.F x).has d = false) (f2 : ∀ r, (getH s.H r).has d = false) (hrow : ∀ row ∈ rows, row.length = sz) : OpR P T N w0 s o (fun s' => s' = (s.hput d (.arr et sz rows)).put d (.one (.sl d rows.length sz))) := by
  intro g a w hs K Q hK
  obtain ⟨k1, k2⟩ := ha.rep hs
  have hrun : (execOp a.eval o).run P w = .ok (.enter f (xs.map a.eval)) w := by
    simp only [execOp, ho, Sem.run_bind, resolve, Act.eval, Deferred.ofValue, Sem.run_pure, Result.andThen_ok, invoke]
    have := hic.1 (#[] ++ xs.map a.eval ++ #[]) w
    simpa using this
  unfold Oper.wp
  rw [hrun, Oper.upon_enter]
  refine (hic.2 (psG g s.H w true) w (xs.map a.eval) (fun _ => rfl) (ps_gi hs true) (by simpa using k1) fun j v sv hv hsv => k2 j v sv (by simpa using hv) hsv).mono fun e w' ⟨u, sv, H', g', h12, h3, h4, h5, h6⟩ => ?_
  subst h3
  rcases h12 with ⟨h1, h2, h0⟩ | ⟨r, h1, h2⟩
  · subst h1 h2 h0
    have hj := hs.graft (d := d) (g' := g') (w' := w') (bd := none) (kd := 0) (vh := .arr et sz []) f1 f2 (fun b hb => by cases hb) (fun b o _ => by simp) h6 ⟨fun row hr => (by cases hr), .inl ⟨graft_hi.1, rfl⟩⟩
    refine hK (g.graft g' d none 0) _ _ _ rfl ?_
    rw [hd]
    refine hj.put hN (.one ?_)
    cases h4 with
    | one h4 => cases h4; exact .slv sz graft_hi.1
  · subst h1 h2
    have hh := h5.hH r
    have hg : getH [(r, VH.arr et sz rows)] r = .arr et sz rows := by simp [getH]
    rw [hg] at hh
    have hl : live [(r, VH.arr et sz rows)] r := by unfold live; rw [hg]; rfl
    obtain ⟨q0, q⟩ := hh
    have hj := hs.graft (d := d) (g' := g') (w' := w') (bd := g'.β r) (kd := g'.κ r) (vh := .arr et sz rows) f1 f2 (fun b hb => h5.bd r b hl hb) (fun b o hr => h5.rd b o hr r hl) h6 ⟨q0, by
      rcases q with ⟨q1, q2⟩ | ⟨b, vals, q1, q2, q3, q4, q5, q6⟩
      · exact .inl ⟨graft_hi.1.trans q1, q2⟩
      · exact .inr ⟨b, vals, graft_hi.1.trans q1, q2, by rw [graft_hi.2]; exact q3, by rw [graft_hi.2]; exact q4, by rw [graft_hi.2]; exact q5, q6⟩⟩
    refine hK (g.graft g' d (g'.β r) (g'.κ r)) _ _ _ rfl ?_
    rw [hd]
    refine hj.put hN (.one ?_)
    cases h4 with
    | one h4 =>
      rcases h4.sl_inv with q | ⟨b, hb, ha, hb2, hv⟩
      · obtain ⟨q1, q2, q3⟩ := q
        have : RepCV P (g.graft g' d (g'.β r) (g'.κ r)) w' u (.sl d 0 sz) := by
          first
            | (rw [q1]; exact .slv sz (graft_hi.1.trans q3))
            | (rw [q2]; exact .slv sz (graft_hi.1.trans q3))
        first
          | (rw [q1]; exact this)
          | (rw [q2]; exact this)
      · have := RepCV.sl (P := P) (g := g.graft g' d (g'.β r) (g'.κ r)) (w := w') (r := d) (b := b) rows.length sz (graft_hi.1.trans hb) (by rw [graft_hi.2]; exact ha) (by rw [graft_hi.2]; exact hb2)
        rw [graft_hi.2] at this
        rw [hv]
        exact this
end
section
variable {P : Program} {T : TypeId} {H H' : List (Nat × VH)}
theorem PsC.cg (h2 : ∀ r, getH H' r = getH H r) {pu : Bool} {c c' : CV} (h : PsC P T H pu c c') : PsC P T H' pu c c' := by
  induction h with
  | d pu x => exact .d pu x
  | nil pu => exact .nil pu
  | nn pu => exact .nn pu
  | fn pu p => exact .fn pu p
  | tape pu => exact .tape pu
  | u pu c => exact .u pu c
  | sl h hn => exact .sl ((h2 _).trans h) hn
  | ref_ h hl hc ih => exact .ref_ ((h2 _).trans h) hl ih
  | el h hi => exact .el ((h2 _).trans h) hi
  | rp_ hl hc ih => exact .rp_ hl ih
  | clo_ hl hc ih => exact .clo_ hl ih
  | cfn_ hl hc he hn hf ih => exact .cfn_ hl ih he hn hf
theorem PsL.cg (h2 : ∀ r, getH H' r = getH H r) {pu : Bool} {c c' : List CV} (h : PsL P T H pu c c') : PsL P T H' pu c c' := by
  induction h with
  | nil => exact .nil _
  | cons h _ ih => exact .cons (h.cg h2) ih
  | same l => exact .same _ l
theorem PsS.cg (h2 : ∀ r, getH H' r = getH H r) {pu : Bool} {c c' : SV} (h : PsS P T H pu c c') : PsS P T H' pu c c' := by
  cases h with
  | one h => exact .one (h.cg h2)
  | agg h => exact .agg (h.cg h2)
theorem PsSL.cg {s s' : St} (h2 : ∀ r, getH s'.H r = getH s.H r) {pu : Bool} {l : List Operand} {l' : List SV} (h : PsSL P T s pu l l') (h1 : ∀ x ∈ l, s'.ev x = s.ev x) : PsSL P T s' pu l l' := by
  induction h with
  | nil => exact .nil _
  | cons h _ ih => exact .cons (by rw [h1 _ (by simp)]; exact h.cg h2) (ih fun x hx => h1 x (by simp [hx]))
end
section
variable {k : Wk} {w0 : Org} {ops : Array Oper} {W : Option (List Nat)} {S listed : Array Bool} {nq m n : Nat} {Q : St → Prop} {s : St} {l : List Nat} {ty : TypeId} {pp : String} {af : Array Edge} {d i : Nat}
/-- Such a call in a region that draws its order: only a new name. -/
theorem s_col {f : FuncId} {xs : Array Operand} {ts : Array TypeId} {args : List SV} {et sz : Nat} {rows : List (List Cell)} (hi : ops[i]? = some ⟨some d, .call { callee := .value (.func f), args := xs, argTypes := ts }, ty, pp, af, none⟩) (hN : Nat.blt d k.N = true)
    (hic : ICo k.P k.T f args (OwnL et sz rows)) (ha : PsSL k.P k.T s true xs.toList args) (hrow : ∀ row ∈ rows, row.length = sz) (hfr : s.fresh d = true)
    (hl : l.length = nq) (h : qn k w0 ops W S m Q l (listed.setIfInBounds i true) ((s.hput d (.arr et sz rows)).put d (.one (.sl d rows.length sz)))) : qst k w0 ops W S m Q nq i listed s := by
  obtain ⟨f1, f2, f3⟩ := St.fresh_spec hfr
  unfold qn at h
  unfold qst
  subst hl
  refine ⟨_, hi, .inl ⟨d, rfl, nlt hN, .inr (.inr ⟨.arr et sz rows, .one (.sl d rows.length sz), rfl, fun s' h1 h2 h3 => ?_, ⟨f1, f2, f3⟩, ?_⟩)⟩⟩
  · exact opr_calll (P := k.P) (T := k.T) (N := k.N) (w0 := w0) (s := s') rfl rfl (nlt hN) hic (ha.cg h2 fun x hx => ev_cg fun q hq => h1 q (by subst hq; simp [Op.operands, Call.operands]; simpa using hx)) h3.ff h3.hh hrow
  · rw [put_f] at h
    have e2 : getH ((s.hput d (VH.arr et sz rows)).put d (.one (.sl d rows.length sz))).H = puth (getH s.H) d (.arr et sz rows) := by
      funext q
      show getH ((d, _) :: s.H) q = _
      rw [hget_put]; rfl
    rw [e2] at h
    exact h
theorem d_col {f : FuncId} {xs : Array Operand} {ts : Array TypeId} {args : List SV} {et sz : Nat} {rows : List (List Cell)} (hi : ops[i]? = some ⟨some d, .call { callee := .value (.func f), args := xs, argTypes := ts }, ty, pp, af, none⟩) (hN : Nat.blt d k.N = true) (hr : Region.ready .any ops listed = [i])
    (hic : ICo k.P k.T f args (OwnL et sz rows)) (ha : PsSL k.P k.T s true xs.toList args) (hrow : ∀ row ∈ rows, row.length = sz) (hfr : s.fresh d = true)
    (h : qn k w0 ops W S m Q l (listed.setIfInBounds i true) ((s.hput d (.arr et sz rows)).put d (.one (.sl d rows.length sz)))) : qn k w0 ops W S m Q (i :: l) listed s :=
  d_one hr (s_col hi hN hic ha hrow hfr rfl h)
end
section
variable {k : Wk} {w0 : Org} {ops : Array Oper} {l : List Oper} {Q : St → Prop} {F : List (Nat × SV)} {H : List (Nat × VH)} {d t : Nat} {p : String} {af : Array Edge}
/-- Such a call, in a row. -/
theorem j_col {f : FuncId} {xs : Array Operand} {ts : Array TypeId} {args : List SV} {et sz : Nat} {rows : List (List Cell)} (hN : Nat.blt d k.N = true) (hic : ICo k.P k.T f args (OwnL et sz rows)) (ha : PsSL k.P k.T ⟨F, H⟩ true xs.toList args) (hrow : ∀ row ∈ rows, row.length = sz) (hfr : (St.mk F H).fresh d = true)
    (h : rg k w0 ops l Q ⟨(d, .one (.sl d rows.length sz)) :: F, (d, .arr et sz rows) :: H⟩) : rg k w0 ops (⟨some d, .call { callee := .value (.func f), args := xs, argTypes := ts }, t, p, af, none⟩ :: l) Q ⟨F, H⟩ :=
  rgI (irg_h rfl (opr_calll rfl rfl (nlt hN) hic ha (St.fresh_spec hfr).1 (St.fresh_spec hfr).2.1 hrow) (rgO h))
end
section
variable {τ : List TyI} {fn : Func} {F : List (Nat × SV)} {H : List (Nat × VH)} {α : Type} {f : α → List Cell} {x0 xs : List α} {e sz : Nat} {t : Tmp}
/-- The end: a list that is owned. -/
theorem o_sl {r n : Nat} (hr : fn.results = #[.tmp t]) (hv : getF F t = .one (.sl r n sz)) (hH : getH H r = .arr e sz (xs.map f)) (hn : n = xs.length) (hp : xs = x0) : RetQo τ fn (OwnL e sz (x0.map f)) .ret ⟨F, H⟩ := by
  subst hp
  refine o_1 hr hv (H := [(r, .arr e sz (xs.map f))]) (.cons (by show VHle [] r (getH H r) _; rw [hH]; exact .arr rfl rfl) .nil) (.inr ⟨r, ?_, rfl⟩)
  rw [hn, List.length_map]
theorem o_nl (hr : fn.results = #[.tmp t]) (hv : getF F t = .one .nil) (hp : x0 = []) : RetQo τ fn (OwnL e sz (x0.map f)) .ret ⟨F, H⟩ := by
  subst hp
  exact o_1 hr hv (H := []) .nil (.inl ⟨rfl, rfl, rfl⟩)
end
section
variable {k : Wk} {w0 : Org} {ops : Array Oper} {l : List Oper} {Q : St → Prop} {F : List (Nat × SV)} {H : List (Nat × VH)} {d t : Nat} {p : String} {af : Array Edge} {α : Type} {g : α → List Cell} {x0 : List α}
theorem v_col {f : FuncId} {xs : Array Operand} {ts : Array TypeId} {args : List SV} {et sz : Nat} (hN : Nat.blt d k.N = true) (hic : ICo k.P k.T f args (OwnL et sz (x0.map g))) (ha : PsSL k.P k.T ⟨F, H⟩ true xs.toList args) (hf : ∀ x, (g x).length = sz) (hfr : (St.mk F H).fresh d = true)
    (h : rg k w0 ops l Q ⟨(d, .one (.sl d x0.length sz)) :: F, (d, .arr et sz (x0.map g)) :: H⟩) : rg k w0 ops (⟨some d, .call { callee := .value (.func f), args := xs, argTypes := ts }, t, p, af, none⟩ :: l) Q ⟨F, H⟩ :=
  j_col hN hic ha (map_rows hf) hfr (by rw [List.length_map]; exact h)
end
section
variable {k : Wk} {w0 : Org} {ops : Array Oper} {W : Option (List Nat)} {S listed : Array Bool} {nq m n : Nat} {Q : St → Prop} {s : St} {l : List Nat} {ty : TypeId} {pp : String} {af : Array Edge} {d i : Nat} {α : Type} {g : α → List Cell} {x0 : List α}
theorem v_scol {f : FuncId} {xs : Array Operand} {ts : Array TypeId} {args : List SV} {et sz : Nat} (hi : ops[i]? = some ⟨some d, .call { callee := .value (.func f), args := xs, argTypes := ts }, ty, pp, af, none⟩) (hN : Nat.blt d k.N = true)
    (hic : ICo k.P k.T f args (OwnL et sz (x0.map g))) (ha : PsSL k.P k.T s true xs.toList args) (hf : ∀ x, (g x).length = sz) (hfr : s.fresh d = true)
    (hl : l.length = nq) (h : qn k w0 ops W S m Q l (listed.setIfInBounds i true) ((s.hput d (.arr et sz (x0.map g))).put d (.one (.sl d x0.length sz)))) : qst k w0 ops W S m Q nq i listed s :=
  s_col hi hN hic ha (map_rows hf) hfr hl (by rw [List.length_map]; exact h)
theorem v_dcol {f : FuncId} {xs : Array Operand} {ts : Array TypeId} {args : List SV} {et sz : Nat} (hi : ops[i]? = some ⟨some d, .call { callee := .value (.func f), args := xs, argTypes := ts }, ty, pp, af, none⟩) (hN : Nat.blt d k.N = true) (hr : Region.ready .any ops listed = [i])
    (hic : ICo k.P k.T f args (OwnL et sz (x0.map g))) (ha : PsSL k.P k.T s true xs.toList args) (hf : ∀ x, (g x).length = sz) (hfr : s.fresh d = true)
    (h : qn k w0 ops W S m Q l (listed.setIfInBounds i true) ((s.hput d (.arr et sz (x0.map g))).put d (.one (.sl d x0.length sz)))) : qn k w0 ops W S m Q (i :: l) listed s :=
  d_one hr (v_scol hi hN hic ha hf hfr rfl h)
end
abbrev ICl (f : Nat) (args : List SV) (e sz : Nat) (rows : List (List Cell)) : Prop := ICo Try.prog 26 f args (OwnL e sz rows)
def ICq (pre : Prop) (f : Nat) (args : List SV) (e sz : Nat) (rows : List (List Cell)) : Prop := pre → ICl f args e sz rows
def ICs (pre : Prop) (f : Nat) (args : List SV) (v : SV) (H : List (Nat × VH)) : Prop := pre → ICo Try.prog 26 f args (fun x y => x = v ∧ y = H)
section
variable {k : Wk} {w0 : Org} {ops : Array Oper} {l : List Oper} {Q : St → Prop} {F : List (Nat × SV)} {H : List (Nat × VH)} {d t : Nat} {p : String} {af : Array Edge} {α : Type} {g : α → List Cell} {x0 : List α}
theorem v_colp {pre : Prop} {f : FuncId} {xs : Array Operand} {ts : Array TypeId} {args : List SV} {et sz : Nat} (hN : Nat.blt d k.N = true) (hk : k.P = Try.prog ∧ k.T = 26) (hic : ICq pre f args et sz (x0.map g)) (ha : PsSL k.P k.T ⟨F, H⟩ true xs.toList args) (hf : ∀ x, (g x).length = sz) (hfr : (St.mk F H).fresh d = true) (hp : pre)
    (h : rg k w0 ops l Q ⟨(d, .one (.sl d x0.length sz)) :: F, (d, .arr et sz (x0.map g)) :: H⟩) : rg k w0 ops (⟨some d, .call { callee := .value (.func f), args := xs, argTypes := ts }, t, p, af, none⟩ :: l) Q ⟨F, H⟩ :=
  v_col hN (by rw [hk.1, hk.2]; exact hic hp) ha hf hfr h
theorem v_callo (B : Nat) {pre : Prop} {f : FuncId} {xs : Array Operand} {ts : Array TypeId} {args : List SV} {v v2 : SV} {H' H2 : List (Nat × VH)} (hN : Nat.blt d k.N = true) (hk : k.P = Try.prog ∧ k.T = 26) (hic : ICs pre f args v H') (ha : PsSL k.P k.T ⟨F, H⟩ true xs.toList args) (hF : undF B F = true) (hH : undH B H = true) (hv : v.ren B = v2) (hH2 : renH B H' ++ H = H2) (hp : pre)
    (h : rg k w0 ops l Q ⟨(d, v2) :: F, H2⟩) : rg k w0 ops (⟨some d, .call { callee := .value (.func f), args := xs, argTypes := ts }, t, p, af, none⟩ :: l) Q ⟨F, H⟩ := by
  subst hv hH2
  exact i_callo (k := k) (s := ⟨F, H⟩) B hN (by rw [hk.1, hk.2]; exact hic hp) ha hF hH h
end
section
variable {k : Wk} {w0 : Org} {ops : Array Oper} {W : Option (List Nat)} {S listed : Array Bool} {nq m n : Nat} {Q : St → Prop} {s : St} {l : List Nat} {ty : TypeId} {pp : String} {af : Array Edge} {d i : Nat} {α : Type} {g : α → List Cell} {x0 : List α}
theorem v_scolp {pre : Prop} {f : FuncId} {xs : Array Operand} {ts : Array TypeId} {args : List SV} {et sz : Nat} (hi : ops[i]? = some ⟨some d, .call { callee := .value (.func f), args := xs, argTypes := ts }, ty, pp, af, none⟩) (hN : Nat.blt d k.N = true) (hk : k.P = Try.prog ∧ k.T = 26)
    (hic : ICq pre f args et sz (x0.map g)) (ha : PsSL k.P k.T s true xs.toList args) (hf : ∀ x, (g x).length = sz) (hfr : s.fresh d = true) (hp : pre)
    (hl : l.length = nq) (h : qn k w0 ops W S m Q l (listed.setIfInBounds i true) ((s.hput d (.arr et sz (x0.map g))).put d (.one (.sl d x0.length sz)))) : qst k w0 ops W S m Q nq i listed s :=
  v_scol hi hN (by rw [hk.1, hk.2]; exact hic hp) ha hf hfr hl h
theorem v_dcolp {pre : Prop} {f : FuncId} {xs : Array Operand} {ts : Array TypeId} {args : List SV} {et sz : Nat} (hi : ops[i]? = some ⟨some d, .call { callee := .value (.func f), args := xs, argTypes := ts }, ty, pp, af, none⟩) (hN : Nat.blt d k.N = true) (hr : Region.ready .any ops listed = [i]) (hk : k.P = Try.prog ∧ k.T = 26)
    (hic : ICq pre f args et sz (x0.map g)) (ha : PsSL k.P k.T s true xs.toList args) (hf : ∀ x, (g x).length = sz) (hfr : s.fresh d = true) (hp : pre)
    (h : qn k w0 ops W S m Q l (listed.setIfInBounds i true) ((s.hput d (.arr et sz (x0.map g))).put d (.one (.sl d x0.length sz)))) : qn k w0 ops W S m Q (i :: l) listed s :=
  v_dcol hi hN hr (by rw [hk.1, hk.2]; exact hic hp) ha hf hfr h
end
section
variable {τ : List TyI} {fn : Func} {post : SV → List (Nat × VH) → Prop} {s : St} {H : List (Nat × VH)}
theorem o_a {t : Tmp} {cs : List CV} (hr : fn.results = #[.tmp t]) (hv : getF s.F t = .agg cs) (hf : FitH [] s H) (h : post (.agg cs) H) : RetQo τ fn post .ret s :=
  ⟨.inl rfl, _, _, H, by rw [hr]; exact .cons (.tmp t) .nil, by rw [hv]; exact .one _, hf, h⟩
end
end Go.Proofs.Ytbnmcdnkeipdhaa
