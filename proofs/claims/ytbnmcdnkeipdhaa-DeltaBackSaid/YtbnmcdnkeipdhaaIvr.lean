/- Results that the caller goes on to own. -/
import Derived.Test.YtbnmcdnkeipdhaaIvq
set_option linter.all false
namespace Go.Proofs.Ytbnmcdnkeipdhaa
open Go.RowKit Go.Shelf
/-- The arrays of H, that a call handed back, are the caller's. -/
structure OwnR (P : Program) (w : World) (g' : Gh) (w' : World) (H : List (Nat × VH)) : Prop where
  inj : ∀ r r' b, live H r → live H r' → g'.β r = some b → g'.β r' = some b → r = r'
  bd : ∀ r b, live H r → g'.β r = some b → w.heap.size ≤ b ∧ b < w'.heap.size
  rd : ∀ b o, g'.Rd b o → ∀ r, live H r → g'.β r ≠ some b
  hH : ∀ r, HeapOK P g' w' r (getH H r)
def ICo (P : Program) (T : TypeId) (f : FuncId) (args : List SV) (post : SV → List (Nat × VH) → Prop) : Prop :=
  Enters P f ∧ ∀ (g : Gh) (w : World) (vals : Array Value), (∀ r, g.β r = none) → GI T (g.org w) g [] w → vals.size = args.length → (∀ (j : Nat) (v : Value) (sv : SV), vals[j]? = some v → args[j]? = some sv → RepSV P g w v sv) →
    Calls P f vals w fun e w' => ∃ v sv H g', post sv H ∧ e = .returned v ∧ RepSV P g' w' v sv ∧ OwnR P w g' w' H ∧ ExtC T g g' w w'

/-! names moved up -/
def CV.ren (B : Nat) : CV → CV
  | .d x => .d x
  | .nil => .nil
  | .sl r n sz => .sl (B + r) n sz
  | .u => .u
  | .ref _ _ => .u
  | .el _ _ _ _ => .u
  | .slp _ _ _ _ => .u
  | .rp _ => .u
  | .clo _ _ => .u
  | .fn _ => .u
  | .tape => .u
mutual
def SV.ren (B : Nat) : SV → SV
  | .u => .u
  | .one c => .one (c.ren B)
  | .agg cs => .agg (cs.map (CV.ren B))
  | .tup vs => .tup (SV.renL B vs)
def SV.renL (B : Nat) : List SV → List SV
  | [] => []
  | v :: l => v.ren B :: SV.renL B l
end
def VH.ren : VH → VH
  | .arr e sz rows => .arr e sz rows
  | .blk _ _ => .gone
  | .gone => .gone
def renH (B : Nat) (H : List (Nat × VH)) : List (Nat × VH) := H.map fun p => (B + p.1, p.2.ren)
mutual
def CV.und (B : Nat) : CV → Bool
  | .ref q _ => Nat.blt q B
  | .sl q _ _ => Nat.blt q B
  | .el q _ _ _ => Nat.blt q B
  | .slp q _ _ _ => Nat.blt q B
  | .rp cs => CV.undL B cs
  | .clo _ cs => CV.undL B cs
  | .u => true
  | .d _ => true
  | .nil => true
  | .fn _ => true
  | .tape => true
def CV.undL (B : Nat) : List CV → Bool
  | [] => true
  | c :: cs => c.und B && CV.undL B cs
end
mutual
def SV.und (B : Nat) : SV → Bool
  | .u => true
  | .one c => c.und B
  | .agg cs => CV.undL B cs
  | .tup vs => SV.undL B vs
def SV.undL (B : Nat) : List SV → Bool
  | [] => true
  | c :: cs => c.und B && SV.undL B cs
end
def VH.und (B : Nat) : VH → Bool
  | .blk _ cs => CV.undL B cs
  | .gone => true
  | .arr _ _ _ => true
def undF (B : Nat) : List (Nat × SV) → Bool
  | [] => true
  | p :: l => p.2.und B && undF B l
def undH (B : Nat) : List (Nat × VH) → Bool
  | [] => true
  | p :: l => Nat.blt p.1 B && p.2.und B && undH B l
theorem blt_lt {a b : Nat} (h : Nat.blt a b = true) : a < b := Nat.lt_of_lt_of_le (Nat.lt_succ_self _) (Nat.le_of_ble_eq_true h)
mutual
theorem CV.und_has {B r : Nat} : ∀ (c : CV), c.und B = true → c.has r = true → r < B
  | .ref q _, h, h2 => by simp only [CV.und] at h; simp only [CV.has] at h2; have := Nat.eq_of_beq_eq_true h2; subst this; exact blt_lt h
  | .sl q _ _, h, h2 => by simp only [CV.und] at h; simp only [CV.has] at h2; have := Nat.eq_of_beq_eq_true h2; subst this; exact blt_lt h
  | .slp q _ _ _, h, h2 => by simp only [CV.und] at h; simp only [CV.has] at h2; have := Nat.eq_of_beq_eq_true h2; subst this; exact blt_lt h
  | .el q _ _ _, h, h2 => by simp only [CV.und] at h; simp only [CV.has] at h2; have := Nat.eq_of_beq_eq_true h2; subst this; exact blt_lt h
  | .rp cs, h, h2 => CV.undL_has cs (by simpa only [CV.und] using h) (by simpa only [CV.has] using h2)
  | .clo _ cs, h, h2 => CV.undL_has cs (by simpa only [CV.und] using h) (by simpa only [CV.has] using h2)
  | .u, h, h2 => by simp [CV.has] at h2
  | .d _, h, h2 => by simp [CV.has] at h2
  | .nil, h, h2 => by simp [CV.has] at h2
  | .fn _, h, h2 => by simp [CV.has] at h2
  | .tape, h, h2 => by simp [CV.has] at h2
theorem CV.undL_has {B r : Nat} : ∀ (cs : List CV), CV.undL B cs = true → CV.hasL r cs = true → r < B
  | [], h, h2 => by simp [CV.hasL] at h2
  | c :: cs, h, h2 => by
    simp only [CV.undL, Bool.and_eq_true] at h
    simp only [CV.hasL, Bool.or_eq_true] at h2
    rcases h2 with h2 | h2
    · exact CV.und_has c h.1 h2
    · exact CV.undL_has cs h.2 h2
end
mutual
theorem SV.und_has {B r : Nat} : ∀ (c : SV), c.und B = true → c.has r = true → r < B
  | .u, h, h2 => by simp [SV.has] at h2
  | .one c, h, h2 => CV.und_has c (by simpa only [SV.und] using h) (by simpa only [SV.has] using h2)
  | .agg cs, h, h2 => CV.undL_has cs (by simpa only [SV.und] using h) (by simpa only [SV.has] using h2)
  | .tup vs, h, h2 => SV.undL_has vs (by simpa only [SV.und] using h) (by simpa only [SV.has] using h2)
theorem SV.undL_has {B r : Nat} : ∀ (cs : List SV), SV.undL B cs = true → SV.hasL r cs = true → r < B
  | [], h, h2 => by simp [SV.hasL] at h2
  | c :: cs, h, h2 => by
    simp only [SV.undL, Bool.and_eq_true] at h
    simp only [SV.hasL, Bool.or_eq_true] at h2
    rcases h2 with h2 | h2
    · exact SV.und_has c h.1 h2
    · exact SV.undL_has cs h.2 h2
end
theorem undF_get {B : Nat} {F : List (Nat × SV)} (h : undF B F = true) (x : Nat) : (getF F x).und B = true := by
  induction F with
  | nil => rfl
  | cons p F ih =>
    simp only [undF, Bool.and_eq_true] at h
    simp only [getF]
    cases Nat.beq p.1 x
    · exact ih h.2
    · exact h.1
theorem undH_get {B : Nat} {H : List (Nat × VH)} (h : undH B H = true) (x : Nat) : (getH H x).und B = true ∧ (live H x → x < B) := by
  induction H with
  | nil => exact ⟨rfl, fun h => by cases h⟩
  | cons p H ih =>
    simp only [undH, Bool.and_eq_true] at h
    unfold live
    simp only [getH]
    cases hb : Nat.beq p.1 x
    · exact ih h.2
    · have := Nat.eq_of_beq_eq_true hb
      exact ⟨h.1.2, fun _ => this ▸ blt_lt h.1.1⟩
theorem renH_get (B : Nat) (H : List (Nat × VH)) (x : Nat) : getH (renH B H) x = if B ≤ x then (getH H (x - B)).ren else .gone := by
  induction H with
  | nil => simp [renH, getH, VH.ren]
  | cons p H ih =>
    simp only [renH, List.map_cons, getH, beq_eq] at ih ⊢
    rw [ih]
    by_cases e : B ≤ x
    · by_cases e2 : p.1 = x - B
      · simp [show B + p.1 = x by omega, e2, e]
      · simp [show ¬ B + p.1 = x by omega, e2, e]
    · simp [show ¬ B + p.1 = x by omega, e]
theorem ren_live {h : VH} (hl : h.ren.live = true) : h.live = true ∧ h.ren = h := by
  cases h <;> first | exact ⟨rfl, rfl⟩ | cases hl
theorem getH_append (A B : List (Nat × VH)) (x : Nat) (h : ∀ p ∈ A, p.1 ≠ x) : getH (A ++ B) x = getH B x := by
  induction A with
  | nil => rfl
  | cons p A ih =>
    simp only [List.cons_append, getH, beq_eq]
    have := h p (by simp)
    simp [this, ih fun q hq => h q (by simp [hq])]
theorem getH_append2 (A B : List (Nat × VH)) (x : Nat) (h : ∀ p ∈ B, p.1 ≠ x) : getH (A ++ B) x = getH A x := by
  induction A with
  | nil =>
    induction B with
    | nil => rfl
    | cons p B ih =>
      simp only [List.nil_append, getH, beq_eq] at ih ⊢
      have := h p (by simp)
      simp [this, ih fun q hq => h q (by simp [hq])]
  | cons p A ih => simp only [List.cons_append, getH, ih]
theorem renH_key {B : Nat} {H : List (Nat × VH)} {p : Nat × VH} (h : p ∈ renH B H) : B ≤ p.1 := by
  unfold renH at h
  obtain ⟨q, _, rfl⟩ := List.mem_map.1 h
  exact Nat.le_add_right _ _
theorem undH_key {B : Nat} {H : List (Nat × VH)} (h : undH B H = true) {p : Nat × VH} (hp : p ∈ H) : p.1 < B := by
  induction H with
  | nil => cases hp
  | cons q H ih =>
    simp only [undH, Bool.and_eq_true] at h
    rcases List.mem_cons.1 hp with rfl | hp
    · exact blt_lt h.1.1
    · exact ih h.2 hp
theorem joinH_get {B : Nat} {H H' : List (Nat × VH)} (h : undH B H = true) (x : Nat) : getH (renH B H' ++ H) x = if B ≤ x then (getH H' (x - B)).ren else getH H x := by
  by_cases e : B ≤ x
  · rw [getH_append2 _ _ _ (fun p hp => by have := undH_key h hp; omega), renH_get, if_pos e, if_pos e]
  · rw [getH_append _ _ _ (fun p hp => by have := renH_key hp; omega), if_neg e]
def Gh.join (g g' : Gh) (B : Nat) : Gh := ⟨fun x => if B ≤ x then g'.β (x - B) else g.β x, fun x => if B ≤ x then g'.κ (x - B) else g.κ x, g'.Rd, g.tp, g.tl⟩
section
variable {P : Program} {T : TypeId} {N : Nat} {w0 : Org} {g g' : Gh} {s : St} {a : Act} {w w' : World} {B : Nat} {H : List (Nat × VH)}
theorem join_hi (x : Nat) : (g.join g' B).β (B + x) = g'.β x ∧ (g.join g' B).κ (B + x) = g'.κ x := by
  simp only [Gh.join]; rw [if_pos (by omega), if_pos (by omega)]; exact ⟨by congr 1; omega, by congr 1; omega⟩
theorem join_lo {x : Nat} (h : x < B) : (g.join g' B).β x = g.β x ∧ (g.join g' B).κ x = g.κ x := by
  simp only [Gh.join]; rw [if_neg (by omega), if_neg (by omega)]; exact ⟨rfl, rfl⟩
theorem RepCV.ren {v : Value} {c : CV} (h : RepCV P g' w v c) : RepCV P (g.join g' B) w v (c.ren B) := by
  cases h with
  | u h => exact .u h
  | d h => exact .d h
  | nil => exact .nil
  | @slv r sz h => exact .slv sz ((join_hi r).1.trans h)
  | @sl r b n sz h h1 h2 =>
    obtain ⟨e1, e2⟩ := join_hi (g := g) (g' := g') (B := B) r
    have := RepCV.sl (P := P) (g := g.join g' B) (w := w) (r := B + r) (b := b) n sz (e1.trans h) (by rw [e2]; exact h1) (by rw [e2]; exact h2)
    rwa [e2] at this
  | fn h => exact .u h.oneCell
  | _ => exact .u rfl
theorem SV.renL_eq (B : Nat) (l : List SV) : SV.renL B l = l.map (SV.ren B) := by
  induction l with
  | nil => rfl
  | cons v l ih => simp [SV.renL, ih]
theorem RepSV.ren {v : Value} {c : SV} (h : RepSV P g' w v c) : RepSV P (g.join g' B) w v (c.ren B) := by
  induction h with
  | u v => exact .u v
  | one h => exact .one h.ren
  | agg vs cs hs h =>
    refine .agg vs _ (by simpa using hs) fun j v c h1 h2 => ?_
    · rw [List.getElem?_map] at h2
      cases hx : cs[j]? with
      | none => rw [hx] at h2; cases h2
      | some x => rw [hx] at h2; simp at h2; subst h2; exact (h j v x h1 hx).ren
  | tup vs ss hs h ih =>
    simp only [SV.ren, SV.renL_eq]
    refine .tup vs _ (by simpa using hs) fun j v c h1 h2 => ?_
    · rw [List.getElem?_map] at h2
      cases hx : ss[j]? with
      | none => rw [hx] at h2; cases h2
      | some x => rw [hx] at h2; simp at h2; subst h2; exact ih j v x h1 hx
theorem Sim.join (hs : Sim P T N w0 g s a w) (hF : undF B s.F = true) (hH : undH B s.H = true) (ho : OwnR P w g' w' H) (he : ExtC T (psG g s.H w true) g' w w') : Sim P T N w0 (g.join g' B) ⟨s.F, renH B H ++ s.H⟩ a w' := by
  have hsz := hs.gi.sz
  have hsz2 := he.keep.size
  have hcell : ∀ b o, g.Rd b o → w'.cell? ⟨b, o, none⟩ = w.cell? ⟨b, o, none⟩ := fun b o hr => he.keep.cell (p := ⟨b, o, none⟩) fun hm => by
    obtain ⟨h1, h2, _⟩ := hs.gi.rd b o hr
    rcases hm with hm | hm
    · exact h2 hm
    · simp at hm; omega
  have hf : Fut g.Rd (g.join g' B).Rd w w' := ⟨fun b o hr => he.rd b o hr, hcell⟩
  have hlive : ∀ r, live (renH B H ++ s.H) r → (B ≤ r ∧ live H (r - B)) ∨ (r < B ∧ live s.H r) := fun r hl => by
    unfold live at hl ⊢
    rw [joinH_get hH] at hl
    by_cases e : B ≤ r
    · rw [if_pos e] at hl; exact .inl ⟨e, (ren_live hl).1⟩
    · rw [if_neg e] at hl; exact .inr ⟨by omega, hl⟩
  have hown : ∀ r b, live (renH B H ++ s.H) r → (g.join g' B).β r = some b → (B ≤ r ∧ live H (r - B) ∧ g'.β (r - B) = some b ∧ w.heap.size ≤ b ∧ b < w'.heap.size) ∨ (r < B ∧ live s.H r ∧ g.β r = some b ∧ w0.heap.size ≤ b ∧ b < w.heap.size ∧ g.tp ≠ some b) := fun r b hl hb => by
    rcases hlive r hl with ⟨e, h1⟩ | ⟨e, h1⟩
    · simp only [Gh.join, if_pos e] at hb
      obtain ⟨q1, q2⟩ := ho.bd _ _ h1 hb
      exact .inl ⟨e, h1, hb, q1, q2⟩
    · rw [(join_lo e).1] at hb
      obtain ⟨q1, q2, q3⟩ := hs.gi.bd r b h1 hb
      exact .inr ⟨e, h1, hb, q1, q2, q3⟩
  have htp : ∀ tb, g.tp = some tb → tb < w.heap.size := fun tb h => (hs.gi.tape tb h).1
  refine ⟨⟨fun r r' b h1 h2 h3 h4 => ?_, fun r b h1 h2 => ?_, fun b o hr => ?_, ?_, fun tb htb => ?_, ⟨fun b o hr => he.rd b o (hs.gi.org.rd0 _ _ hr), fun b o hr => ?_, hs.gi.org.tp0, hs.gi.org.tpo⟩⟩, hs.dn, hs.nt, fun x => (hs.hF x).move hf (fun _ h => h) fun r hr => join_lo (SV.und_has _ (undF_get hF x) hr), fun r => ?_⟩
  · rcases hown r b h1 h3 with ⟨e1, l1, b1, c1, d1⟩ | ⟨e1, l1, b1, c1, d1, _⟩ <;> rcases hown r' b h2 h4 with ⟨e2, l2, b2, c2, d2⟩ | ⟨e2, l2, b2, c2, d2, _⟩
    · have := ho.inj _ _ b l1 l2 b1 b2; omega
    · omega
    · omega
    · exact hs.gi.inj r r' b l1 l2 b1 b2
  · rcases hown r b h1 h2 with ⟨e1, l1, b1, c1, d1⟩ | ⟨e1, l1, b1, c1, d1, t1⟩
    · exact ⟨by omega, d1, fun h => by have := htp b h; omega⟩
    · exact ⟨c1, by omega, t1⟩
  · have hb : b < w'.heap.size ∧ g.tp ≠ some b ∧ (g.Rd b o ∨ w.heap.size ≤ b) := by
      rcases he.new b o hr with h | ⟨h1, h2⟩
      · obtain ⟨q1, q2, _⟩ := hs.gi.rd b o h
        exact ⟨by omega, q2, .inl h⟩
      · exact ⟨h2, fun h => by have := htp b h; omega, .inr h1⟩
    refine ⟨hb.1, hb.2.1, fun r hl h => ?_⟩
    rcases hown r b hl h with ⟨e1, l1, b1, c1, d1⟩ | ⟨e1, l1, b1, c1, d1, t1⟩
    · exact ho.rd b o hr _ l1 b1
    · rcases hb.2.2 with h3 | h3
      · exact (hs.gi.rd b o h3).2.2 r l1 b1
      · omega
  · refine hs.gi.keep.trans (he.keep.mono fun k hk => ?_)
    rcases hk with hk | hk
    · exact hs.gi.org.tpo k hk
    · exact .inr (by omega)
  · exact ⟨by have := htp tb htb; omega, he.tape tb htb⟩
  · rcases he.new b o hr with h | ⟨h1, h2⟩
    · exact hs.gi.org.new0 b o h
    · exact .inr (by omega)
  · show HeapOK P (g.join g' B) w' r (getH (renH B H ++ s.H) r)
    rw [joinH_get hH]
    by_cases e : B ≤ r
    · rw [if_pos e]
      have hh := ho.hH (r - B)
      obtain ⟨e1, e2⟩ := join_hi (g := g) (g' := g') (B := B) (r - B)
      rw [show B + (r - B) = r by omega] at e1 e2
      cases hx : getH H (r - B) with
      | gone => trivial
      | blk t cs => trivial
      | arr et sz rows =>
        rw [hx] at hh
        obtain ⟨h0, h⟩ := hh
        refine ⟨h0, ?_⟩
        rcases h with ⟨h1, h2⟩ | ⟨b, vals, h1, h2, h3, h4, h5, h6⟩
        · exact .inl ⟨e1.trans h1, h2⟩
        · exact .inr ⟨b, vals, e1.trans h1, h2, by rw [e2]; exact h3, by rw [e2]; exact h4, by rw [e2]; exact h5, h6⟩
    · rw [if_neg e]
      obtain ⟨u1, u2⟩ := undH_get hH r
      refine (hs.hH r).move hf (fun _ h => h) (fun q hq => ?_) fun b hl hb => ?_
      · rcases hq with hq | rfl
        · cases hx : getH s.H r with
          | gone => rw [hx] at hq; cases hq
          | arr _ _ _ => rw [hx] at hq; cases hq
          | blk t cs => rw [hx] at hq u1; exact join_lo (CV.undL_has cs u1 hq)
        · exact join_lo (by omega)
      · obtain ⟨_, a2, a3⟩ := hs.gi.bd r b hl hb
        exact he.keep.block b fun hm => by
          rcases hm with hm | hm
          · exact a3 hm
          · omega
end
section
variable {P : Program} {T : TypeId} {N : Nat} {w0 : Org} {g g' : Gh} {s : St} {a : Act} {w w' : World} {o : Oper} {τ : List TyI}
/-- A call whose result the caller goes on to own. -/
theorem opr_callo {f : FuncId} {xs : Array Operand} {ts : Array TypeId} {args : List SV} {v : SV} {H : List (Nat × VH)} {d : Nat} (B : Nat) (ho : o.op = .call { callee := .value (.func f), args := xs, argTypes := ts }) (hd : o.dst = some d) (hN : d < N) (hic : ICo P T f args (fun x y => x = v ∧ y = H))
    (ha : PsSL P T s true xs.toList args) (hF : undF B s.F = true) (hH : undH B s.H = true) : OpR P T N w0 s o (fun s' => s' = (St.mk s.F (renH B H ++ s.H)).put d (v.ren B)) := by
  intro g a w hs K Q hK
  obtain ⟨k1, k2⟩ := ha.rep hs
  have hrun : (execOp a.eval o).run P w = .ok (.enter f (xs.map a.eval)) w := by
    simp only [execOp, ho, Sem.run_bind, resolve, Act.eval, Deferred.ofValue, Sem.run_pure, Result.andThen_ok, invoke]
    have := hic.1 (#[] ++ xs.map a.eval ++ #[]) w
    simpa using this
  unfold Oper.wp
  rw [hrun, Oper.upon_enter]
  refine (hic.2 (psG g s.H w true) w (xs.map a.eval) (fun _ => rfl) (ps_gi hs true) (by simpa using k1) fun j v sv hv hsv => k2 j v sv (by simpa using hv) hsv).mono fun e w' ⟨u, sv, H', g', ⟨h1, h2⟩, h3, h4, h5, h6⟩ => ?_
  subst h1; subst h2; subst h3
  have hj := hs.join hF hH h5 h6
  refine hK (g.join g' B) _ _ _ rfl ?_
  rw [hd]
  exact hj.put hN h4.ren
inductive ResO : List SV → SV → Prop where
  | one (v : SV) : ResO [v] v
  | two (v1 v2 : SV) (l : List SV) : ResO (v1 :: v2 :: l) (.tup (v1 :: v2 :: l))
def RetQo (τ : List TyI) (fn : Func) (post : SV → List (Nat × VH) → Prop) (e : Exit) (s : St) : Prop :=
  (e = .ret ∨ e = .normal) ∧ ∃ raw sv H, ResL τ s fn.results.toList raw ∧ ResO raw sv ∧ FitH [] s H ∧ post sv H
theorem results_runO (hτ : tabB P 0 τ = true) (hs : Sim P T N w0 g s a w) {fn : Func} {raw : List SV} {sv : SV} (h : ResL τ s fn.results.toList raw) (hr : ResO raw sv) : ∃ v, (results fn a.tmps).run P w = .ok v w ∧ RepSV P g w v sv := by
  obtain ⟨vs, h1, h2, h3⟩ := h.run hτ hs
  have hm : (results fn a.tmps).run P w = .ok (if h : vs.toArray.size = 1 then vs.toArray[0] else .tuple vs.toArray) w := by
    unfold results
    rw [Array.mapM_eq_mapM_toList]
    simp only [Sem.run_bind, map_eq_pure_bind, Sem.run_pure]
    change (((Sem.run P (fn.results.toList.mapM (resF a)) w).andThen _).andThen _) = _
    rw [h1]
    rfl
  refine ⟨_, hm, ?_⟩
  cases hr with
  | one v =>
    obtain ⟨u, rfl⟩ : ∃ u, vs = [u] := by
      match vs, h2 with
      | [u], _ => exact ⟨u, rfl⟩
    exact h3 0 u _ rfl rfl
  | two v1 v2 l =>
    have hlen : vs.toArray.size ≠ 1 := by simp [h2]
    rw [dif_neg hlen]
    exact .tup _ _ (by simpa using h2) fun j v c hv hc => h3 j v c (by simpa using hv) hc
theorem ico_of {f : FuncId} {fn : Func} {c : Code} {args : List SV} {post : SV → List (Nat × VH) → Prop} (hτ : tabB P 0 τ = true) (hf : P.funcs[f]? = some fn) (hname : (fn.name == "runtime.NumGoroutine") = false) (hb : fn.body = some c) (hn : Nat.ble args.length fn.ntmps = true)
    (h : ∀ w0, iwp P T fn.ntmps w0 c (RetQo τ fn post) ⟨argF 0 args, []⟩) : ICo P T f args post := by
  refine ⟨enters_of hf hname hb, fun g w vals hβ hgi hsz hrep => calls_of_wp hf hb ?_⟩
  have hle := Nat.le_of_ble_eq_true hn
  have hs : Sim P T fn.ntmps (g.org w) g ⟨argF 0 args, []⟩ { tmps := vals ++ Array.replicate (fn.ntmps - vals.size) undef, defers := [] } w := by
    refine ⟨hgi, rfl, by simp; omega, fun x => ?_, fun r => trivial⟩
    show RepSV P g w _ (getF (argF 0 args) x)
    rw [argF_get]
    simp only [Nat.zero_le, if_true, Nat.sub_zero]
    cases hx : args[x]? with
    | none => exact .u _
    | some sv =>
      have hlt := (List.getElem?_eq_some_iff.1 hx).1
      have hv : vals[x]? = some (vals[x]'(by omega)) := Array.getElem?_eq_getElem (by omega)
      have := hrep x _ sv hv hx
      simpa [Array.getElem_append, show x < vals.size by omega, show x < vals.size + (fn.ntmps - vals.size) by omega] using this
  refine wp_mono (h (g.org w) g _ w hs) fun e a' w' ⟨g', s', ⟨he, raw, sv, H, hr1, hr2, hfit, hp⟩, hs'⟩ => ?_
  obtain ⟨v, hrun, hrv⟩ := results_runO hτ hs' hr1 hr2
  have hv0 : g'.virt [] = g' := by unfold Gh.virt; simp
  have hs2 := hs'.fits (s' := ⟨[], H⟩) (vs := []) ⟨.nil, hfit⟩
  rw [hv0] at hs2
  have hext : ExtC T g g' w w' := by
    refine ⟨fun b o h => hs'.gi.org.rd0 b o h, fun b o h => ?_, hs'.gi.keep, fun tb htb => ?_⟩
    · have hlt := (hs'.gi.rd b o h).1
      rcases hs'.gi.org.new0 b o h with h | h
      · exact .inl h
      · exact .inr ⟨h, hlt⟩
    · obtain ⟨e1, e2⟩ := hs'.gi.org.tp0 tb htb
      have := (hs'.gi.tape tb e1).2
      rw [e2] at this
      exact this
  have hown : OwnR P w g' w' H := ⟨hs2.gi.inj, fun r b hl hb => ⟨(hs2.gi.bd r b hl hb).1, (hs2.gi.bd r b hl hb).2.1⟩, fun b o hr => (hs2.gi.rd b o hr).2.2, hs2.hH⟩
  rcases he with rfl | rfl
  · exact ⟨hs'.dn, v, hrun, v, sv, H, g', hp, rfl, hrv, hown, hext⟩
  · exact ⟨hs'.dn, v, hrun, v, sv, H, g', hp, rfl, hrv, hown, hext⟩
end
section
variable {k : Wk} {w0 : Org} {ops : Array Oper} {l : List Oper} {Q : St → Prop} {s : St} {d t : Nat} {p : String} {af : Array Edge}
theorem i_callo {f : FuncId} {xs : Array Operand} {ts : Array TypeId} {args : List SV} {v : SV} {H : List (Nat × VH)} (B : Nat) (hN : Nat.blt d k.N = true) (hic : ICo k.P k.T f args (fun x y => x = v ∧ y = H)) (ha : PsSL k.P k.T s true xs.toList args) (hF : undF B s.F = true) (hH : undH B s.H = true)
    (h : rg k w0 ops l Q ((St.mk s.F (renH B H ++ s.H)).put d (v.ren B))) : rg k w0 ops (⟨some d, .call { callee := .value (.func f), args := xs, argTypes := ts }, t, p, af, none⟩ :: l) Q s :=
  rgI (irg_h rfl (opr_callo B rfl rfl (nlt hN) hic ha hF hH) (rgO h))
end
theorem ico_wk (k : Wk) {f : FuncId} {fn : Func} {c : Code} {args : List SV} {post : SV → List (Nat × VH) → Prop} (hf : k.P.funcs[f]? = some fn) (hN : fn.ntmps = k.N) (hname : (fn.name == "runtime.NumGoroutine") = false) (hb : fn.body = some c) (hn : Nat.ble args.length k.N = true)
    (h : ∀ w0, wk k w0 c (RetQo k.τ fn post) ⟨argF 0 args, []⟩) : ICo k.P k.T f args post :=
  ico_of k.ok hf hname hb (by rw [hN]; exact hn) fun w0 => by rw [hN]; exact wkO (h w0)
section
variable {τ : List TyI} {fn : Func} {post : SV → List (Nat × VH) → Prop} {s : St} {H : List (Nat × VH)}
/-- One result, that is owned. -/
theorem o_1 {t : Tmp} {v : CV} (hr : fn.results = #[.tmp t]) (hv : getF s.F t = .one v) (hf : FitH [] s H) (h : post (.one v) H) : RetQo τ fn post .ret s :=
  ⟨.inl rfl, _, _, H, by rw [hr]; exact .cons (.tmp t) .nil, by rw [hv]; exact .one _, hf, h⟩
/-- A struct in a variable, with lists that are owned. -/
theorem o_c {t : Tmp} {ty r off n tt : Nat} {cs : List CV} {fs zs} (hr : fn.results = #[.cell t ty]) (hv : getF s.F t = .one (.ref r off)) (hH : getH s.H r = .blk tt cs) (ht : tyAt τ ty = .st n fs zs) (hle : off + n ≤ cs.length) (hf : FitH [] s H) (h : post (.agg ((cs.drop off).take n)) H) : RetQo τ fn post .ret s :=
  ⟨.inl rfl, _, _, H, by rw [hr]; exact .cons (.celln hv hH ht hle) .nil, .one _, hf, h⟩
end
/-! forgetting, in the midst of a region -/
theorem CVle.rfl_ (c : CV) : CVle [] c c := by
  cases c with
  | u => exact .u _
  | d x => exact .d rfl
  | nil => exact .nil
  | ref r o => exact .ref rfl rfl
  | sl r n sz => exact .sl rfl rfl
  | el r i j sz => exact .el rfl rfl rfl
  | slp r o n sz => exact .slp rfl
  | rp cs => exact .rp fun r h => by cases h
  | clo f cs => exact .clo fun r h => by cases h
  | fn p => exact .fn p
  | tape => exact .tape
def killC (r : Nat) (c : CV) : CV := bif c.has r then .u else c
theorem killC_le (r : Nat) (c : CV) : CVle [] c (killC r c) := by
  unfold killC
  cases c.has r
  · exact CVle.rfl_ c
  · exact .u c
theorem killL_le (r : Nat) (l : List CV) : CVleL [] l (l.map (killC r)) := by
  induction l with
  | nil => exact .nil
  | cons c l ih => exact .cons (killC_le r c) ih
def killV (r : Nat) : VH → VH
  | .blk t cs => .blk t (cs.map (killC r))
  | .arr e sz rows => .arr e sz rows
  | .gone => .gone
def killH (r : Nat) (H : List (Nat × VH)) : List (Nat × VH) := (H.map (·.1)).map fun x => (x, killV r (getH H x))
theorem killH_fit (s : St) (r : Nat) : FitH [] s (killH r s.H) := by
  unfold killH
  generalize s.H.map (·.1) = l
  induction l with
  | nil => exact .nil
  | cons x l ih =>
    refine .cons ?_ ih
    cases getH s.H x with
    | gone => exact .gone _
    | blk t cs => exact .blk rfl (killL_le r cs)
    | arr e sz rows => exact .arr rfl rfl
theorem Sim.forgetH {P : Program} {T : TypeId} {N : Nat} {w0 : Org} {g : Gh} {s : St} {a : Act} {w : World} (hs : Sim P T N w0 g s a w) {H : List (Nat × VH)} (h : FitH [] s H) : Sim P T N w0 g ⟨s.F, H⟩ a w := by
  have hv0 : g.virt [] = g := by unfold Gh.virt; simp
  have hs2 := hs.fits (s' := ⟨[], H⟩) (vs := []) ⟨.nil, h⟩
  rw [hv0] at hs2
  exact ⟨hs2.gi, hs.dn, hs.nt, hs.hF, hs2.hH⟩
section
variable {k : Wk} {w0 : Org} {ops : Array Oper} {l : List Oper} {Q : St → Prop} {s : St} {d t t' : Nat} {x y : Operand} {p : String} {af : Array Edge}
theorem i_fgH {H : List (Nat × VH)} (h : FitH [] s H) (hk : rg k w0 ops l Q ⟨s.F, H⟩) : rg k w0 ops l Q s := by
  refine rgI ?_
  intro g a w hs
  exact rgO hk g a w (hs.forgetH h)
/-- append, where a variable still has the old list. -/
theorem i_apk {e sz by_ r n : Nat} {zs : List Z} {rows rows' : List (List Cell)} (hN : Nat.blt d k.N = true) (ht : tyAt k.τ t' = .sl e sz by_) (hz : (tyAt k.τ e).zs = some zs) (hzl : zs.length = sz) (h0 : Nat.blt 0 sz = true) (hx : s.ev x = .one (.sl r n sz)) (hr : getH s.H r = .arr e sz rows) (hr2 : getH (killH r s.H) r = .arr e sz rows) (hn : n = rows.length) (hy : Src ⟨s.F, killH r s.H⟩ sz (s.ev y) rows') (hf : allH r (killH r s.H) = true)
    (hbd : (rows.length + rows'.length) * by_ ≤ 140737488355328) (hb0 : Nat.blt 0 by_ = true) (h : rg k w0 ops l Q ((St.mk (killF r s.F) ((r, .arr e sz (rows ++ rows')) :: killH r s.H)).put d (.one (.sl r (rows ++ rows').length sz)))) : rg k w0 ops (⟨some d, .call { callee := .builtin .append, args := #[x, y], argTypes := #[t', t'] }, t, p, af, none⟩ :: l) Q s :=
  i_fgH (killH_fit s r) (i_ap (s := ⟨s.F, killH r s.H⟩) hN ht hz hzl h0 hx hr2 hn hy hf hbd hb0 h)
end
end Go.Proofs.Ytbnmcdnkeipdhaa
