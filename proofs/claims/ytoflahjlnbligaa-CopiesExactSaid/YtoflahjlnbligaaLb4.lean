/- Texts of the library, put together. -/
import Derived.Test.YtoflahjlnbligaaLb3
import Derived.Laws.IdiomStrings
import Derived.Laws.BytesArg
import Derived.Laws.Cover1
/- Ways that meet; bytes and their texts. -/
set_option linter.all false
set_option maxRecDepth 20000
namespace Go.Proofs.Ytoflahjlnbligaa
open Go.RowKit Go.Shelf
def irow_u64 (z : Int) : List Cell := [.int .u64 z]
theorem irow_u64_mk (a : Int) : [Cell.int .u64 a] = irow_u64 a := rfl
section
variable {P : Program} {T : TypeId} {N : Nat} {w0 : Org} {g : Gh} {a : Act} {w : World} {s : St} {o : Oper} {τ : List TyI}
theorem FrF.refl (H : List (Nat × VH)) (rs : List Nat) (F : List (Nat × SV)) : FrF H rs F F := by
  induction F with
  | nil => exact .nil
  | cons x F ih => exact .cons (.same _) ih
def dropB (d : Nat) (H : List (Nat × VH)) : List (Nat × VH) := H.map fun p => if p.1 = d then (p.1, .gone) else p
theorem dropB_fr (H0 : List (Nat × VH)) (d : Nat) (H : List (Nat × VH)) : FrH H0 [d] H (dropB d H) := by
  induction H with
  | nil => exact .nil
  | cons p H ih =>
    obtain ⟨x, v⟩ := p
    unfold dropB
    rw [List.map_cons]
    by_cases e : x = d
    · subst e; simp only [if_true]; exact .cons (.gone v (by simp)) ih
    · rw [if_neg e]; exact .cons (.same v (by simp; exact e)) ih
theorem dropB_get (d : Nat) (H : List (Nat × VH)) {r : Nat} (h : r ≠ d) : getH (dropB d H) r = getH H r := by
  induction H with
  | nil => rfl
  | cons p H ih =>
    obtain ⟨x, v⟩ := p
    unfold dropB at ih ⊢
    rw [List.map_cons]
    by_cases e : x = d
    · subst e
      rw [if_pos rfl]
      simp only [getH, beq_eq]
      rw [decide_eq_false (Ne.symm h)]
      exact ih
    · rw [if_neg e]
      simp only [getH, beq_eq]
      by_cases e2 : x = r
      · subst e2; simp
      · simp [e2, ih]
theorem opr_gone {d n sz e : Nat} {rows : List (List Cell)} (h : OpR P T N w0 s o (fun s' => s' = (s.hput d (.arr e sz rows)).put d (.one (.sl d n sz)))) (hn : n = rows.length) : OpR P T N w0 s o (fun s' => s' = (s.hput d .gone).put d (.one (.d (.list rows)))) := by
  intro g a w hs K Q hK
  refine h g a w hs K Q fun g' s' a' w' e1 hs' => ?_
  subst e1
  have hH : getH ((d, VH.arr e sz rows) :: s.H) d = .arr e sz rows := by simp [getH]
  have h2 := hs'.fr (rs := [d]) (F' := (d, .one (.d (.list rows))) :: s.F) (dropB_fr _ d _) (.cons (.one (.fz (by simp) hH hn)) (FrF.refl _ _ _))
  refine hK _ _ a' w' rfl (h2.less (fun x => .inl rfl) fun r => ?_)
  by_cases e2 : r = d
  · subst e2
    right
    show getH ((r, VH.gone) :: s.H) r = _
    simp [getH]
  · left
    show getH ((d, VH.gone) :: s.H) r = getH (dropB d ((d, VH.arr e sz rows) :: s.H)) r
    rw [dropB_get d _ e2]
    simp only [getH, beq_eq]
    rw [decide_eq_false (Ne.symm e2)]
    rfl
theorem ope_max3 {ts : Array TypeId} {x y z : Operand} {k : IntKind} {m n q : Int} (ho : o.op = .call { callee := .builtin .max, args := #[x, y, z], argTypes := ts }) (hx : s.ev x = .one (.d (.int k m))) (hy : s.ev y = .one (.d (.int k n))) (hz : s.ev z = .one (.d (.int k q))) : OpE P T N w0 s o (.one (.d (.int k (max (max m n) q)))) :=
  ope_val fun g a w hs => by
    have h1 := hs.ev x; rw [hx] at h1
    have h2 := hs.ev y; rw [hy] at h2
    have h3 := hs.ev z; rw [hz] at h3
    have e : (if q > (if n > m then n else m) then q else (if n > m then n else m)) = max (max m n) q := by split <;> split <;> omega
    refine ⟨.int k (max (max m n) q), ?_, .one (.d (.int _ _ ?_))⟩
    · simp only [execOp, ho, resolve, invoke, builtin]
      simp [h1.int_inv.1, h2.int_inv.1, h3.int_inv.1, run_max_int3, e, Result.andThen]
    · have : max (max m n) q = m ∨ max (max m n) q = n ∨ max (max m n) q = q := by omega
      rcases this with e | e | e <;> rw [e]
      · exact h1.int_inv.2
      · exact h2.int_inv.2
      · exact h3.int_inv.2
end
section
variable {k : Wk} {w0 : Org} {ops : Array Oper} {l : List Oper} {Q : St → Prop} {F F' : List (Nat × SV)} {H H' : List (Nat × VH)} {d t t' ty : Nat} {p : String} {af : Array Edge} {x y : Operand} {s : St} {gd : Option (Nat × Bool)} {xs : List Int}
theorem v_max3 {ts : Array TypeId} {z : Operand} {kk : IntKind} {m n q : Int} (hN : Nat.blt d k.N = true) (hx : (St.mk F H).ev x = .one (.d (.int kk m))) (hy : (St.mk F H).ev y = .one (.d (.int kk n))) (hz : (St.mk F H).ev z = .one (.d (.int kk q))) (h : rg k w0 ops l Q ⟨(d, .one (.d (.int kk (max (max m n) q)))) :: F, H⟩) : rg k w0 ops (⟨some d, .call { callee := .builtin .max, args := #[x, y, z], argTypes := ts }, ty, p, af, none⟩ :: l) Q ⟨F, H⟩ :=
  rgI (irg_e rfl rfl (nlt hN) (ope_max3 rfl hx hy hz) (rgO h))
end
section
variable {k : Wk} {w0 : Org} {ops : Array Oper} {W : Option (List Nat)} {S listed : Array Bool} {m i nq d : Nat} {l : List Nat} {Q : St → Prop} {s : St} {ty : Nat} {pp : String} {af : Array Edge}
theorem v_sbsf {α : Type} (f : α → List Cell) {xs : List α} {t len e sz by_ : Nat} {zs : List Z} {parts : Array (Nat × Operand)} {cp : List (Nat × List CV)} {r : List CV} {fl : List Cell} (hi : ops[i]? = some ⟨some d, .buildSlice t len parts, ty, pp, af, none⟩) (hN : Nat.blt d k.N = true)
    (ht : tyAt k.τ t = .sl e sz by_) (hz : (tyAt k.τ e).zs = some zs) (hp : partsOf s parts.toList = some cp) (hcf : cfill ((List.range len).map fun i => (i * sz, sz)) (List.replicate (len * sz) .u) cp = some r) (hfl : unDL r = some fl)
    (h0 : Nat.blt 0 (len * sz) = true) (hm : Nat.ble (len * sz) 16777216 = true) (hfr : s.fresh d = true) (hzl : zs.length = sz) (hrow : chunks sz len fl = xs.map f) (hn : len = xs.length)
    (hl : l.length = nq) (h : qn k w0 ops W S m Q l (listed.setIfInBounds i true) ((s.hput d .gone).put d (.one (.d (.list (xs.map f)))))) : qst k w0 ops W S m Q nq i listed s := by
  obtain ⟨f1, f2, f3⟩ := St.fresh_spec hfr
  unfold qn at h
  unfold qst
  subst hl
  refine ⟨_, hi, .inl ⟨d, rfl, nlt hN, .inr (.inr (.inl ⟨.gone, .one (.d (.list (xs.map f))), rfl, fun s' h1 h2 h3 => ?_, ⟨f1, f2, f3⟩, ?_⟩))⟩⟩
  · have ep : partsOf s' parts.toList = partsOf s parts.toList := partsOf_cg _ fun p hp => ev_cg fun q hq => h1 q (by
      simp only [Op.operands]
      rw [List.mem_map]
      exact ⟨p, hp, hq⟩)
    have := opr_gone (opr_buildSliceG (P := k.P) (T := k.T) (N := k.N) (w0 := w0) (s := s') (o := ⟨some d, .buildSlice t len parts, ty, pp, af, none⟩) k.ok rfl rfl (nlt hN) ht hz (by rw [ep]; exact hp) hcf hfl (nlt h0) (Nat.le_of_ble_eq_true hm) h3.ff h3.hh hzl) (by rw [hrow, List.length_map]; exact hn)
    rw [hrow] at this
    exact this
  · rw [put_f] at h
    have e2 : getH ((s.hput d VH.gone).put d (.one (.d (.list (xs.map f))))).H = puth (getH s.H) d .gone := by
      funext q
      show getH ((d, _) :: s.H) q = _
      rw [hget_put]; rfl
    rw [e2] at h
    exact h
theorem v_dbsf {α : Type} (f : α → List Cell) {xs : List α} {t len e sz by_ : Nat} {zs : List Z} {parts : Array (Nat × Operand)} {cp : List (Nat × List CV)} {r : List CV} {fl : List Cell} (hi : ops[i]? = some ⟨some d, .buildSlice t len parts, ty, pp, af, none⟩) (hN : Nat.blt d k.N = true) (hr : Region.ready .any ops listed = [i])
    (ht : tyAt k.τ t = .sl e sz by_) (hz : (tyAt k.τ e).zs = some zs) (hp : partsOf s parts.toList = some cp) (hcf : cfill ((List.range len).map fun i => (i * sz, sz)) (List.replicate (len * sz) .u) cp = some r) (hfl : unDL r = some fl)
    (h0 : Nat.blt 0 (len * sz) = true) (hm : Nat.ble (len * sz) 16777216 = true) (hfr : s.fresh d = true) (hzl : zs.length = sz) (hrow : chunks sz len fl = xs.map f) (hn : len = xs.length)
    (h : qn k w0 ops W S m Q l (listed.setIfInBounds i true) ((s.hput d .gone).put d (.one (.d (.list (xs.map f)))))) : qn k w0 ops W S m Q (i :: l) listed s :=
  d_one hr (v_sbsf f hi hN ht hz hp hcf hfl h0 hm hfr hzl hrow hn rfl h)
end
end Go.Proofs.Ytoflahjlnbligaa
/- Calls that change what they were handed. -/
set_option linter.all false
set_option maxRecDepth 20000
namespace Go.Proofs.Ytoflahjlnbligaa
open Go.RowKit Go.Shelf
def CV.nl : CV → Bool
  | .d _ => true
  | .nil => true
  | .u => true
  | _ => false
def CV.nlL : List CV → Bool
  | [] => true
  | c :: l => c.nl && CV.nlL l
def VH.nl : VH → Bool
  | .arr _ _ _ => true
  | .blk _ cs => CV.nlL cs
  | _ => false
theorem CV.nlL_get {cs : List CV} (h : CV.nlL cs = true) {j : Nat} {c : CV} (hj : cs[j]? = some c) : c.nl = true := by
  induction cs generalizing j with
  | nil => simp at hj
  | cons x cs ih =>
    simp [CV.nlL] at h
    cases j with
    | zero => simp at hj; subst hj; exact h.1
    | succ j => exact ih h.2 (by simpa using hj)
theorem CV.nl_nt {c : CV} (h : c.nl = true) : c.nt = true := by cases c <;> first | rfl | cases h
theorem CV.nl_has {c : CV} (h : c.nl = true) (r : Nat) : c.has r = false := by cases c <;> first | rfl | cases h
theorem VH.nl_live {h : VH} (hn : h.nl = true) : h.live = true := by cases h <;> first | rfl | cases hn
inductive Mv (r : Nat) : CV → CV → Prop where
  | sl (n sz : Nat) : Mv r (.sl r n sz) (.sl 0 n sz)
  | ref (off : Nat) : Mv r (.ref r off) (.ref 0 off)
def ICmm (P : Program) (T : TypeId) (f : FuncId) (c : CV) (args : List SV) (vh : VH) (post : SV → VH → Prop) : Prop :=
  Enters P f ∧ ∀ (w0 : Org) (g : Gh) (w : World) (u : Value) (vals : Array Value), w0.w = w → GI T w0 g [(0, vh)] w → RepCV P g w u c → HeapOK P g w 0 vh → vals.size = args.length → (∀ (j : Nat) (v : Value) (sv : SV), vals[j]? = some v → args[j]? = some sv → RepSV P g w v sv) →
    Calls P f (#[u] ++ vals) w fun e w' => ∃ v sv vh' g', post sv vh' ∧ vh'.nl = true ∧ e = .returned v ∧ RepSV P g' w' v sv ∧ sv.pl = true ∧ GI T w0 g' [(0, vh')] w' ∧ RepCV P g' w' u c ∧ HeapOK P g' w' 0 vh'
section
variable {P : Program} {T : TypeId} {N : Nat} {w0 : Org} {g g' g1 : Gh} {s s' : St} {a : Act} {w w' : World} {τ : List TyI}
theorem GI.sub {H H' : List (Nat × VH)} (h : GI T w0 g H w) (hl : ∀ r, live H' r → live H r) : GI T w0 g H' w :=
  ⟨fun r r' b h1 h2 => h.inj r r' b (hl r h1) (hl r' h2), fun r b h1 => h.bd r b (hl r h1), fun b o h1 => ⟨(h.rd b o h1).1, (h.rd b o h1).2.1, fun r h2 => (h.rd b o h1).2.2 r (hl r h2)⟩, h.keep, h.tape, h.org, h.exs (fun _ _ h => h) fun c hc => ⟨rfl, hc.2.2.1, hc.2.2.2.1, fun r h2 => hc.2.2.2.2 r (hl r h2)⟩⟩
theorem HeapOK.other {r q : Nat} {vh : VH} (h : HeapOK P g w r vh) (hn : vh.nl = true) (hf : Fut g.Rd g1.Rd w w') (hβ : g1.β q = g.β r) (hκ : ∀ b, g.β r = some b → g1.κ q = g.κ r) (hbl : ∀ b, g.β r = some b → w'.heap[b]? = w.heap[b]?) : HeapOK P g1 w' q vh := by
  cases vh with
  | gone => cases hn
  | pin v c => cases hn
  | tbl _ _ _ _ => cases hn
  | blk t cs =>
    obtain ⟨b, vals, h1, h2, h3, h4⟩ := h
    refine ⟨b, vals, hβ.trans h1, (hbl b h1).trans h2, h3, fun j v c hv hc => ?_⟩
    have hc2 := CV.nlL_get hn hc
    exact (h4 j v c hv hc).moveN hf (CV.nl_nt hc2) fun q hq => by rw [CV.nl_has hc2] at hq; cases hq
  | arr e sz rows =>
    obtain ⟨h0, h⟩ := h
    refine ⟨h0, ?_⟩
    rcases h with ⟨h1, h2⟩ | ⟨b, vals, h1, h2, h3, h4, h5, h6⟩
    · exact .inl ⟨hβ.trans h1, h2⟩
    · have e2 := hκ b h1
      refine .inr ⟨b, vals, hβ.trans h1, (hbl b h1).trans h2, by rw [e2]; exact h3, by rw [e2]; exact h4, by rw [e2]; exact h5, fun i j row x hi hj => ?_⟩
      obtain ⟨u, hu, hr⟩ := h6 i j row x hi hj
      exact ⟨u, hu, hr.mono hf.rd hf.cell⟩
theorem results_run0 (hτ : tabB P 0 τ = true) (hs : Sim P T N w0 g s a w) {fn : Func} {raw : List SV} {sv : SV} (h : ResL τ s fn.results.toList raw) (hr : Res [] raw sv) : ∃ v, (results fn a.tmps).run P w = .ok v w ∧ RepSV P g w v sv := by
  have hs0 : Sim P T N w0 g ⟨s.F, []⟩ a w := hs.forgetH .nil
  have hr' : Res (St.mk s.F []).H raw sv := hr
  obtain ⟨vs, h1, h2, h3⟩ := h.run hτ hs
  have hm : (results fn a.tmps).run P w = .ok (if h : vs.toArray.size = 1 then vs.toArray[0] else .tuple vs.toArray) w := by
    unfold results
    rw [Array.mapM_eq_mapM_toList]
    simp only [Sem.run_bind, map_eq_pure_bind, Sem.run_pure]
    change (((Sem.run P (fn.results.toList.mapM (resF a)) w).andThen _).andThen _) = _
    rw [h1]
    rfl
  have key : RepSV P (g.all [] w g.tp g.tl) w (if h : vs.toArray.size = 1 then vs.toArray[0] else .tuple vs.toArray) sv := by
    cases hr' with
    | one h =>
      obtain ⟨u, rfl⟩ : ∃ u, vs = [u] := by
        match vs, h2 with
        | [u], _ => exact ⟨u, rfl⟩
      exact h.rep hs0 (h3 0 u _ rfl rfl)
    | @two v1 v2 l l' hz =>
      have hlen : vs.toArray.size ≠ 1 := by simp [h2]
      rw [dif_neg hlen]
      obtain ⟨k1, k2⟩ := hz.rep (tp := g.tp) (tl := g.tl) hs0
      refine .tup _ _ (by simp; omega) fun j v c' hv hc => ?_
      have hj := (List.getElem?_eq_some_iff.1 hc).1
      have hraw : (v1 :: v2 :: l)[j]? = some ((v1 :: v2 :: l)[j]'(by omega)) := List.getElem?_eq_getElem (by omega)
      exact k2 j v _ c' hraw hc (h3 j v _ (by simpa using hv) hraw)
    | none =>
      obtain rfl : vs = [] := List.eq_nil_of_length_eq_zero h2
      exact .tup _ _ rfl (by simp)
  refine ⟨_, hm, key.plain hr.pl ⟨fun b o h => ?_, fun _ _ _ => rfl⟩⟩
  rcases h with h | ⟨⟨r, hl, _⟩, _⟩
  · exact h
  · cases hl
def RetQm (τ : List TyI) (fn : Func) (u : Value) (c : CV) (post : SV → VH → Prop) (e : Exit) (s : St) : Prop :=
  (e = .ret ∨ e = .normal) ∧ ∃ raw sv vh', ResL τ s fn.results.toList raw ∧ Res [] raw sv ∧ getH s.H 0 = vh' ∧ vh'.nl = true ∧ getH s.H 1000 = .pin u c ∧ post sv vh'
theorem icm_of {f : FuncId} {fn : Func} {cd : Code} {c : CV} {args : List SV} {vh : VH} {post : SV → VH → Prop} (hτ : tabB P 0 τ = true) (hf : P.funcs[f]? = some fn) (hname : (fn.name == "runtime.NumGoroutine") = false) (hb : fn.body = some cd) (hn : Nat.ble (args.length + 1) fn.ntmps = true)
    (h : ∀ w0 u, iwp P T fn.ntmps w0 cd (RetQm τ fn u c post) ⟨argF 0 (.one c :: args), [(0, vh), (1000, .pin u c)]⟩) : ICmm P T f c args vh post := by
  refine ⟨enters_of hf hname hb, fun w0 g w u vals hw0 hgi hu hvh hsz hrep => calls_of_wp hf hb ?_⟩
  have hle := Nat.le_of_ble_eq_true hn
  have hrep' : ∀ (j : Nat) (v : Value) (sv : SV), (#[u] ++ vals)[j]? = some v → (SV.one c :: args)[j]? = some sv → RepSV P g w v sv := fun j v sv h1 h2 => by
    cases j with
    | zero => rw [Array.getElem?_append_left (by simp)] at h1; simp at h1 h2; subst h1 h2; exact .one hu
    | succ j =>
      rw [Array.getElem?_append_right (by simp)] at h1
      exact hrep j v sv (by simpa using h1) (by simpa using h2)
  have hlen : (#[u] ++ vals).size = (SV.one c :: args).length := by simp [hsz]; omega
  generalize hA : (SV.one c :: args) = A at hrep' hlen h
  generalize hV : (#[u] ++ vals) = V at hrep' hlen
  have hA2 : A.length = args.length + 1 := by rw [← hA]; rfl
  have hs : Sim P T fn.ntmps w0 g ⟨argF 0 A, [(0, vh), (1000, .pin u c)]⟩ { tmps := V ++ Array.replicate (fn.ntmps - V.size) undef, defers := [] } w := by
    refine ⟨hgi.sub fun r hl => ?_, rfl, by simp; omega, fun x => ?_, fun r => ?_⟩
    · unfold live at hl ⊢
      simp only [getH] at hl ⊢
      by_cases e0 : Nat.beq 0 r = true
      · simpa only [e0, cond_true] using hl
      · simp only [e0, cond_false] at hl ⊢
        cases h1 : Nat.beq 1000 r <;> simp only [h1, cond_true, cond_false] at hl <;> cases hl
    · show RepSV P g w _ (getF (argF 0 A) x)
      rw [argF_get]
      simp only [Nat.zero_le, if_true, Nat.sub_zero]
      cases hx : A[x]? with
      | none => exact .u _
      | some sv =>
        have hlt := (List.getElem?_eq_some_iff.1 hx).1
        have hv : V[x]? = some (V[x]'(by omega)) := Array.getElem?_eq_getElem (by omega)
        have := hrep' x _ sv hv hx
        simpa [Array.getElem_append, show x < V.size by omega, show x < V.size + (fn.ntmps - V.size) by omega] using this
    · show HeapOK P g w r (getH [(0, vh), (1000, .pin u c)] r)
      simp only [getH, beq_eq]
      by_cases e0 : 0 = r
      · subst e0; simpa using hvh
      · simp only [e0, decide_false, cond_false]
        by_cases e1 : 1000 = r
        · simp only [e1, decide_true, cond_true]; exact hu
        · simp only [e1, decide_false, cond_false]; trivial
  refine wp_mono (h w0 u g _ w hs) fun e a' w' ⟨g', s', ⟨he, raw, sv, vh', hr1, hr2, q1, q2, q3, hp⟩, hs'⟩ => ?_
  obtain ⟨v, hrun, hrv⟩ := results_run0 hτ hs' hr1 hr2
  have g0 : GI T w0 g' [(0, vh')] w' := hs'.gi.sub fun r hl => by
    unfold live at hl ⊢
    simp only [getH, beq_eq] at hl
    by_cases e0 : 0 = r
    · subst e0; rw [q1]; simpa using hl
    · simp only [e0, decide_false, cond_false] at hl; cases hl
  have k1 := hs'.hH 0; rw [q1] at k1
  have k2 := hs'.hH 1000; rw [q3] at k2
  rcases he with rfl | rfl
  · exact ⟨hs'.dn, v, hrun, v, sv, vh', g', hp, q2, rfl, hrv, hr2.pl, g0, k2, k1⟩
  · exact ⟨hs'.dn, v, hrun, v, sv, vh', g', hp, q2, rfl, hrv, hr2.pl, g0, k2, k1⟩
end
section
variable {P : Program} {T : TypeId} {N : Nat} {w0 : Org} {g g' : Gh} {s : St} {a : Act} {w w' : World} {o : Oper} {τ : List TyI}
def Gh.lend (g : Gh) (r : Nat) : Gh := ⟨fun x => if x = 0 then g.β r else none, fun x => if x = 0 then g.κ r else g.κ x, g.Rd, g.tp, g.tl, fun _ => none⟩
def Org.lend (g : Gh) (w : World) (r : Nat) : Org := ⟨w, g.Rd, g.tp, g.tl, fun k => g.β r = some k⟩
theorem Mv.rep {r : Nat} {cr c : CV} (h : Mv r cr c) {u : Value} (hu : RepCV P g w u cr) : RepCV P (g.lend r) w u c := by
  cases h with
  | sl n sz =>
    rcases hu.sl_inv with ⟨rfl, rfl, hb⟩ | ⟨b, hb, h1, h2, rfl⟩
    · exact .slv _ (by simpa [Gh.lend] using hb)
    · have := RepCV.sl (P := P) (g := g.lend r) (w := w) (r := 0) (b := b) n sz (by simpa [Gh.lend] using hb) (by simpa [Gh.lend] using h1) (by simpa [Gh.lend] using h2)
      simpa [Gh.lend] using this
  | ref off => obtain ⟨b, hb, rfl⟩ := hu.ref_inv; exact .ref _ (by simpa [Gh.lend] using hb)
theorem Mv.same {r : Nat} {cr c : CV} (h : Mv r cr c) {u : Value} (hu : RepCV P g w u cr) (hu' : RepCV P g' w' u c) : g'.β 0 = g.β r ∧ ∀ b, g.β r = some b → (∃ n sz, cr = .sl r n sz) → g'.κ 0 = g.κ r := by
  cases h with
  | sl n sz =>
    rcases hu.sl_inv with ⟨rfl, rfl, hb⟩ | ⟨b, hb, h1, h2, rfl⟩
    · rcases hu'.sl_inv with ⟨_, _, hb'⟩ | ⟨b', hb', _, _, e⟩
      · exact ⟨by rw [hb, hb'], fun b h => by rw [hb] at h; cases h⟩
      · cases e
    · rcases hu'.sl_inv with ⟨e, _, _⟩ | ⟨b', hb', _, _, e⟩
      · cases e
      · simp at e
        obtain ⟨e1, e2⟩ := e
        subst e1
        exact ⟨by rw [hb, hb'], fun _ _ _ => e2.symm⟩
  | ref off =>
    obtain ⟨b, hb, rfl⟩ := hu.ref_inv
    obtain ⟨b', hb', e⟩ := hu'.ref_inv
    simp at e
    subst e
    exact ⟨by rw [hb, hb'], fun _ _ ⟨_, _, h⟩ => by cases h⟩
theorem lend_gi (hs : Sim P T N w0 g s a w) {r : Nat} {vh : VH} (hr : getH s.H r = vh) (hl : vh.live = true) : GI T (Org.lend g w r) (g.lend r) [(0, vh)] w := by
  have hlr : live s.H r := by unfold live; rw [hr]; exact hl
  have only : ∀ q, live [(0, vh)] q → q = 0 := fun q hq => by
    unfold live at hq
    simp only [getH, beq_eq] at hq
    by_cases e : 0 = q
    · exact e.symm
    · simp only [e, decide_false, cond_false] at hq; cases hq
  refine ⟨fun q q' b h1 h2 _ _ => by rw [only q h1, only q' h2], fun q b h1 h2 => ?_, fun b o h => ?_, Keep.refl _ _, fun tb h => ?_, ⟨fun _ _ h => h, fun _ _ h => .inl h, fun tb h => ⟨h, rfl⟩, fun tb h => .inl h⟩, fun c o h => (by cases h)⟩
  · have := only q h1; subst this
    have hb : g.β r = some b := by simpa [Gh.lend] using h2
    exact ⟨.inr hb, (hs.gi.bd r b hlr hb).2⟩
  · refine ⟨(hs.gi.rd b o h).1, (hs.gi.rd b o h).2.1, fun q hq e => ?_⟩
    have := only q hq; subst this
    exact (hs.gi.rd b o h).2.2 r hlr (by simpa [Gh.lend] using e)
  · exact hs.gi.tape tb h
theorem psG_lend {v : Value} {sv : SV} {r : Nat} {H : List (Nat × VH)} (h : RepSV P (psG g H w true) w v sv) (h0 : sv.has 0 = false) : RepSV P (g.lend r) w v sv :=
  (h.move (g' := ⟨fun _ => none, (g.lend r).κ, g.Rd, g.tp, g.tl, fun _ => none⟩) (Fut.refl _ _) (fun _ h => h) fun q hq => ⟨rfl, by
    simp only [Gh.lend, psG]
    rw [if_neg (fun e => by subst e; rw [h0] at hq; cases hq)]⟩).move (Fut.refl _ _) (fun _ h => h) fun q hq => ⟨by
    simp only [Gh.lend]
    rw [if_neg (fun e => by subst e; rw [h0] at hq; cases hq)], rfl⟩
theorem opr_callm {f : FuncId} {x : Operand} {xr : List Operand} {xs : Array Operand} {ts : Array TypeId} {args : List SV} {v : SV} {vh vh' : VH} {cr c : CV} {r d : Nat} (ho : o.op = .call { callee := .value (.func f), args := xs, argTypes := ts }) (hxs : xs.toList = x :: xr) (hd : o.dst = some d) (hN : d < N) (hic : ICmm P T f c args vh (fun x y => x = v ∧ y = vh'))
    (hx : s.ev x = .one cr) (hm : Mv r cr c) (hr : getH s.H r = vh) (hnl : vh.nl = true) (ha : PsSL P T s true xr args) (h0 : SV.hasL 0 args = false) (hk : (∃ n sz, cr = .sl r n sz) ∨ ∃ t cs, vh' = .blk t cs) :
    OpR P T N w0 s o (fun s' => s' = (s.hput r vh').put d v) := by
  intro g a w hs K Q hK
  obtain ⟨k1, k2⟩ := ha.rep hs
  have hev := hs.ev x; rw [hx] at hev
  have hlv := VH.nl_live hnl
  have hlr : live s.H r := by unfold live; rw [hr]; exact hlv
  have hh := hs.hH r; rw [hr] at hh
  have hxa : xs.map a.eval = #[a.eval x] ++ (xr.map a.eval).toArray := by
    apply Array.toList_inj.1; simp [hxs]
  have hrun : (execOp a.eval o).run P w = .ok (.enter f (xs.map a.eval)) w := by
    simp only [execOp, ho, Sem.run_bind, resolve, Act.eval, Deferred.ofValue, Sem.run_pure, Result.andThen_ok, invoke]
    have := hic.1 (#[] ++ xs.map a.eval ++ #[]) w
    simpa using this
  rw [hxa] at hrun
  unfold Oper.wp
  rw [hrun, Oper.upon_enter]
  have hvh0 : HeapOK P (g.lend r) w 0 vh := hh.other hnl (Fut.refl _ _) (by simp [Gh.lend]) (fun b hb => by simp [Gh.lend]) fun _ _ => rfl
  refine (hic.2 (Org.lend g w r) (g.lend r) w (a.eval x) (xr.map a.eval).toArray rfl (lend_gi hs hr hlv) (hm.rep hev.one_inv) hvh0 (by simpa using k1) fun j v sv hv hsv => ?_).mono fun e w' ⟨v1, sv, vh1, g', ⟨h1, h2⟩, h3, h4, h5, h6, h7, h8, h9⟩ => ?_
  · refine psG_lend (k2 j v sv (by simpa using hv) hsv) ?_
    cases hb : sv.has 0 with
    | false => rfl
    | true => rw [SV.hasL_get hsv hb] at h0; cases h0
  subst h1; subst h2; subst h4
  have hlv1 := VH.nl_live h3
  obtain ⟨e1, e2⟩ := hm.same hev.one_inv h8
  have hkeep : Keep (MutO (Org.lend g w r)) w w' := h7.keep
  have hsz : w.heap.size ≤ w'.heap.size := hkeep.size
  have hsz0 := hs.gi.sz
  have nomut : ∀ b, b < w.heap.size → g.tp ≠ some b → g.β r ≠ some b → ¬ MutO (Org.lend g w r) b := fun b q1 q2 q3 hm => by
    rcases hm with hm | hm | hm
    · exact q2 hm
    · have : w.heap.size ≤ b := hm; omega
    · exact q3 hm
  have hf : Fut g.Rd g'.Rd w w' := ⟨fun b o h => h7.org.rd0 b o h, fun b o h => hkeep.cell (p := ⟨b, o, none⟩) (nomut b (hs.gi.rd b o h).1 (hs.gi.rd b o h).2.1 ((hs.gi.rd b o h).2.2 r hlr))⟩
  have hget : ∀ q, getH (s.hput r vh1).H q = if q = r then vh1 else getH s.H q := fun q => by
    show getH ((r, vh1) :: s.H) q = _
    simp only [getH, beq_eq]
    by_cases e : r = q
    · simp [e]
    · simp [e, show ¬ q = r from fun h => e h.symm]
  have lv : ∀ q, live (s.hput r vh1).H q → live s.H q := fun q hq => by
    unfold live at hq ⊢
    rw [hget] at hq
    by_cases e : q = r
    · subst e; rw [hr]; exact hlv
    · rwa [if_neg e] at hq
  have hl0 : live [(0, vh1)] 0 := by unfold live; exact hlv1
  have hrd : ∀ b o, g'.Rd b o → g.Rd b o ∨ w.heap.size ≤ b := fun b o h => by
    rcases h7.org.new0 b o h with h' | h' | h'
    · exact .inl h'
    · exact .inr h'
    · exact absurd (e1.trans h') ((h7.rd b o h).2.2 0 hl0)
  let g2 : Gh := ⟨g.β, g.κ, g'.Rd, g.tp, g.tl, g.ex⟩
  have hs2 : Sim P T N w0 g2 (s.hput r vh1) a w' := by
    refine ⟨⟨fun q q' b q1 q2 => hs.gi.inj q q' b (lv q q1) (lv q' q2), fun q b q1 q2 => ?_, fun b o h => ?_, ?_, fun tb htb => ?_, ⟨fun b o h => h7.org.rd0 b o (hs.gi.org.rd0 b o h), fun b o h => ?_, hs.gi.org.tp0, hs.gi.org.tpo⟩, hs.gi.exs (fun _ _ h => h) fun c hc => ?_⟩, hs.dn, hs.nt, fun y => (hs.hF y).move hf (fun _ h => h) fun _ _ => ⟨rfl, rfl⟩, fun q => ?_⟩
    · obtain ⟨a1, a2, a3⟩ := hs.gi.bd q b (lv q q1) q2
      exact ⟨a1, by omega, a3⟩
    · refine ⟨(h7.rd b o h).1, fun e => (h7.rd b o h).2.1 (h7.org.tp0 b e).1, fun q hq e => ?_⟩
      by_cases eq : q = r
      · subst eq; exact (h7.rd b o h).2.2 0 hl0 (e1.trans e)
      · rcases hrd b o h with h' | h'
        · exact (hs.gi.rd b o h').2.2 q (lv q hq) e
        · have := (hs.gi.bd q b (lv q hq) e).2.1; omega
    · refine hs.gi.keep.trans (hkeep.mono fun k hk => ?_)
      rcases hk with hk | hk | hk
      · exact hs.gi.org.tpo k hk
      · exact .inr (.inl (Nat.le_trans hsz0 hk))
      · exact .inr (hs.gi.bd r k hlr hk).1
    · obtain ⟨q1, q2⟩ := h7.org.tp0 tb htb
      have := h7.tape tb q1
      rw [q2] at this
      exact this
    · rcases hrd b o h with h' | h'
      · exact hs.gi.org.new0 b o h'
      · exact .inr (.inl (Nat.le_trans hsz0 h'))
    · obtain ⟨_, c2, c3, c4, c5⟩ := hc
      refine ⟨hkeep.block c (nomut c c2 c3 fun e => c5 r hlr e), c3, fun o ho2 => ?_, fun q hq => c5 q (lv q hq)⟩
      rcases hrd c o ho2 with h | h
      · exact c4 o h
      · omega
    · show HeapOK P g2 w' q (getH (s.hput r vh1).H q)
      rw [hget]
      by_cases e : q = r
      · subst e
        rw [if_pos rfl]
        cases hm with
        | sl n sz => exact h9.other h3 (Fut.refl _ _) e1.symm (fun b hb => (e2 b (e1.symm.trans hb) ⟨n, sz, rfl⟩).symm) fun _ _ => rfl
        | ref off =>
          cases vh1 with
          | gone => cases h3
          | pin _ _ => cases h3
          | tbl _ _ _ _ => cases h3
          | blk t cs => obtain ⟨b, vals, q1, q2, q3, q4⟩ := h9
                        exact ⟨b, vals, e1.symm.trans q1, q2, q3, fun j v c hv hc => (q4 j v c hv hc).moveN (Fut.refl _ _) (CV.nl_nt (CV.nlL_get h3 hc)) fun q hq => by rw [CV.nl_has (CV.nlL_get h3 hc)] at hq; cases hq⟩
          | arr e sz rows => (rcases hk with ⟨_, _, h⟩ | ⟨_, _, h⟩ <;> cases h)
      · rw [if_neg e]
        exact (hs.hH q).move hf (fun _ h => h) (fun _ _ => ⟨rfl, rfl⟩) (fun b hl hb => hkeep.block b (nomut b (hs.gi.bd q b hl hb).2.1 (hs.gi.bd q b hl hb).2.2 fun e' => e (hs.gi.inj q r b hl hlr hb e'))) fun _ _ h => h
  refine hK g2 _ _ _ rfl ?_
  rw [hd]
  exact hs2.put hN (h5.plain h6 (Fut.refl _ _))
end
def ICm (pre : Prop) (f : Nat) (args : List SV) (e sz n : Nat) (rows : List (List Cell)) (v : SV) (rows' : List (List Cell)) : Prop :=
  pre → ICmm Try.prog 26 f (.sl 0 n sz) args (.arr e sz rows) (fun x y => x = v ∧ y = .arr e sz rows')
section
variable {k : Wk} {w0 : Org} {ops : Array Oper} {l : List Oper} {Q : St → Prop} {F : List (Nat × SV)} {H : List (Nat × VH)} {d t : Nat} {p : String} {af : Array Edge}
theorem v_callm {pre : Prop} {f : FuncId} {x : Operand} {xr : List Operand} {xs : Array Operand} {ts : Array TypeId} {args : List SV} {v : SV} {r n e sz : Nat} {rows rows' : List (List Cell)} (hN : Nat.blt d k.N = true) (hk : k.P = Try.prog ∧ k.T = 26) (hxs : xs.toList = x :: xr) (hx : (St.mk F H).ev x = .one (.sl r n sz)) (hr : getH H r = .arr e sz rows) (hic : ICm pre f args e sz n rows v rows')
    (ha : PsSL k.P k.T ⟨F, H⟩ true xr args) (h0 : SV.hasL 0 args = false) (hp : pre) (h : rg k w0 ops l Q ⟨(d, v) :: F, (r, .arr e sz rows') :: H⟩) :
    rg k w0 ops (⟨some d, .call { callee := .value (.func f), args := xs, argTypes := ts }, t, p, af, none⟩ :: l) Q ⟨F, H⟩ :=
  rgI (irg_h rfl (opr_callm rfl hxs rfl (nlt hN) (by rw [hk.1, hk.2]; exact hic hp) hx (.sl n sz) hr rfl ha h0 (.inl ⟨_, _, rfl⟩)) (rgO h))
end
theorem icm_wk (k : Wk) {f : FuncId} {fn : Func} {cd : Code} {c : CV} {args : List SV} {vh : VH} {post : SV → VH → Prop} (hf : k.P.funcs[f]? = some fn) (hN : fn.ntmps = k.N) (hname : (fn.name == "runtime.NumGoroutine") = false) (hb : fn.body = some cd) (hn : Nat.ble (args.length + 1) k.N = true)
    (h : ∀ w0 u, wk k w0 cd (RetQm k.τ fn u c post) ⟨argF 0 (.one c :: args), [(0, vh), (1000, .pin u c)]⟩) : ICmm k.P k.T f c args vh post :=
  icm_of k.ok hf hname hb (by rw [hN]; exact hn) fun w0 u => by rw [hN]; exact wkO (h w0 u)
section
variable {τ : List TyI} {fn : Func} {F : List (Nat × SV)} {H : List (Nat × VH)} {α : Type} {f : α → List Cell} {xs x0 : List α} {e sz : Nat} {u : Value} {c : CV} {ex : Exit} {sv : SV}
theorem m_0 (he : ex = .ret ∨ ex = .normal) (hr : fn.results = #[]) (hH : getH H 0 = .arr e sz (xs.map f)) (hp : getH H 1000 = .pin u c) (hx : xs = x0) : RetQm τ fn u c (fun x y => x = .tup [] ∧ y = .arr e sz (x0.map f)) ex ⟨F, H⟩ := by
  subst hx
  exact ⟨he, [], .tup [], _, by rw [hr]; exact .nil, .none, hH, rfl, hp, rfl, rfl⟩
end
def othersB (ops : Array Oper) (i x : Nat) : Bool := (List.range ops.size).all fun k => Nat.beq k i || match ops[k]? with
  | some ok => !memB (ok.looksAt ops) x
  | none => true
theorem othersB_spec {ops : Array Oper} {i x : Nat} (h : othersB ops i x = true) (k : Nat) (ok : Oper) (hk : ops[k]? = some ok) (hne : k ≠ i) : x ∉ ok.looksAt ops := by
  unfold othersB at h
  rw [List.all_eq_true] at h
  have h1 := h k (List.mem_range.2 (Array.getElem?_eq_some_iff.1 hk).1)
  simp only [hk, beq_eq, hne, decide_false, Bool.false_or, Bool.not_eq_true'] at h1
  intro hm
  rw [memB_iff.2 hm] at h1
  cases h1
def allFx (x r : Nat) : List (Nat × SV) → Bool
  | [] => true
  | p :: l => (Nat.beq p.1 x || !p.2.has r) && allFx x r l
theorem allFx_get {x r : Nat} {F : List (Nat × SV)} (h : allFx x r F = true) {y : Nat} (hy : y ≠ x) : (getF F y).has r = false := by
  induction F with
  | nil => rfl
  | cons p F ih =>
    simp only [allFx, Bool.and_eq_true, Bool.or_eq_true, beq_eq, decide_eq_true_eq] at h
    simp only [getF, beq_eq]
    by_cases e : p.1 = y
    · simp only [e, decide_true, cond_true]
      rcases h.1 with h1 | h1
      · exact absurd (e.symm.trans h1) hy
      · simpa using h1
    · simp only [e, decide_false, cond_false]; exact ih h.2
def dropH (r : Nat) : List (Nat × VH) → List (Nat × VH)
  | [] => []
  | p :: l => (p.1, bif Nat.beq p.1 r then .gone else p.2) :: dropH r l
theorem dropH_get (r : Nat) (H : List (Nat × VH)) (q : Nat) : getH (dropH r H) q = if q = r then .gone else getH H q := by
  induction H with
  | nil => simp [dropH, getH]
  | cons p H ih =>
    simp only [dropH, getH, beq_eq, ih]
    by_cases e : p.1 = q
    · subst e; by_cases e2 : p.1 = r <;> simp [e2]
    · simp [e]
theorem dropH_fr (H0 : List (Nat × VH)) (r : Nat) (H : List (Nat × VH)) : FrH H0 [r] H (dropH r H) := by
  induction H with
  | nil => exact .nil
  | cons p H ih =>
    refine .cons ?_ ih
    rw [beq_eq]
    by_cases e : p.1 = r
    · simp only [e, decide_true, cond_true]; exact .gone _ (by simp)
    · simp only [e, decide_false, cond_false]; exact .same _ (by simp [e])
section
variable {P : Program} {T : TypeId} {N : Nat} {w0 : Org} {s : St} {o : Oper} {τ : List TyI}
theorem opr_append_F (hτ : tabB P 0 τ = true) {t d e sz by_ r : Nat} {F : List (Nat × SV)} {zs : List Z} {x y : Operand} {rows rows' : List (List Cell)} (ho : o.op = .call { callee := .builtin .append, args := #[x, y], argTypes := #[t, t] }) (hd : o.dst = some d) (hN : d < N)
    (ht : tyAt τ t = .sl e sz by_) (hz : (tyAt τ e).zs = some zs) (hzl : zs.length = sz) (h0 : 0 < sz) (hx : s.ev x = .one (.sl r rows.length sz)) (hr : getH s.H r = .arr e sz rows) (hy : Src s sz (s.ev y) rows') (q1 : ∀ y, (getF F y).has r = false) (hfr : ∀ q, (getH s.H q).has r = false) (q2 : ∀ y, getF F y = .u ∨ getF F y = getF s.F y)
    (hbd : (rows.length + rows'.length) * by_ ≤ 140737488355328) (hb0 : 0 < by_) :
    OpR P T N w0 s o (fun s' => s' = (St.mk F ((r, .gone) :: s.H)).put d (.one (.d (.list (rows ++ rows'))))) := by
  have h := append_core (P := P) (T := T) (N := N) (w0 := w0) (D := r) (F := F) (r0 := some r) (rows := rows) hτ ho hd hN ht hz hzl h0 (by rw [hx]; exact .sl hr) hy q1 hfr q2 hbd hb0
  intro g a w hs K Q hK
  refine h g a w hs K Q fun g' s' a' w' e hs' => ?_
  subst e
  have hfr1 := hs'.fr (rs := [r]) (F' := (d, .one (.d (.list (rows ++ rows')))) :: F) (dropH_fr _ r _) (.cons (.one (.fz (e := e) (rows := rows ++ rows') (by simp) (by show getH ((r, VH.arr e sz (rows ++ rows')) :: _) r = _; simp only [getH, beq_eq, decide_true, cond_true]) rfl)) (frF_same F))
  refine hK _ _ _ _ rfl (hfr1.less (fun y => .inl rfl) fun q => .inl ?_)
  show getH ((r, .gone) :: s.H) q = getH (dropH r ((r, VH.arr _ _ _) :: goneH (some r) s.H)) q
  rw [dropH_get]
  simp only [getH, beq_eq, goneH_get]
  by_cases e : q = r
  · subst e; simp
  · simp [e, show ¬ r = q from fun h => e h.symm]
end
section
variable {k : Wk} {w0 : Org} {ops : Array Oper} {W : Option (List Nat)} {S listed : Array Bool} {nq m n : Nat} {Q : St → Prop} {s : St} {l : List Nat} {ty : TypeId} {pp : String} {af : Array Edge} {d i : Nat}
theorem v_sapf {α : Type} (f : α → List Cell) {xs ys : List α} {t e sz by_ r nn x' : Nat} {zs : List Z} {y : Operand} {rows' : List (List Cell)} (hi : ops[i]? = some ⟨some d, .call { callee := .builtin .append, args := #[.tmp x', y], argTypes := #[t, t] }, ty, pp, af, none⟩) (hN : Nat.blt d k.N = true) (hne : Nat.beq x' d = false)
    (ht : tyAt k.τ t = .sl e sz by_) (hz : (tyAt k.τ e).zs = some zs) (hzl : zs.length = sz) (h0 : Nat.blt 0 sz = true) (hx : getF s.F x' = .one (.sl r nn sz)) (hr : getH s.H r = .arr e sz (xs.map f)) (hn : nn = xs.length) (hy : Src s sz (s.ev y) rows') (hrow : rows' = ys.map f) (hW : inW W r = true) (hot : othersB ops i x' = true) (hF : allFx x' r s.F = true) (hfr : allH r s.H = true) (hb0 : Nat.blt 0 by_ = true) (hb1 : Nat.ble by_ 140000 = true) (hbd : xs.length + ys.length ≤ 1000000000)
    (hl : l.length = nq) (h : qn k w0 ops W S m Q l (listed.setIfInBounds i true) ((St.mk ((x', .u) :: s.F) ((r, .gone) :: s.H)).put d (.one (.d (.list ((xs ++ ys).map f)))))) : qst k w0 ops W S m Q nq i listed s := by
  unfold qn at h
  unfold qst
  subst hl hrow hn
  have hne' : x' ≠ d := fun e => by rw [e] at hne; simp at hne
  refine ⟨_, hi, .inl ⟨d, rfl, nlt hN, .inr (.inr (.inr ⟨x', r, .gone, .one (.d (.list ((xs ++ ys).map f))), rfl, hW, ?_, othersB_spec hot, hne', rfl, fun s' h1 h2 h3 => ?_, fun y hy => allFx_get hF hy, ?_⟩))⟩⟩
  · exact tmp_looks (by simp [Op.operands, Call.operands])
  · have ex : s'.ev (.tmp x') = .one (.sl r (xs.map f).length sz) := by
      show getF s'.F x' = _
      rw [h1 x' (by simp [Op.operands, Call.operands]), hx, List.length_map]
    have ey : s'.ev y = s.ev y := ev_cg fun q hq => h1 q (by subst hq; simp [Op.operands, Call.operands])
    have := opr_append_F (P := k.P) (T := k.T) (N := k.N) (w0 := w0) (s := s') (o := ⟨some d, .call { callee := .builtin .append, args := #[.tmp x', y], argTypes := #[t, t] }, ty, pp, af, none⟩) (F := (x', .u) :: s'.F) (rows := xs.map f) (rows' := ys.map f) k.ok rfl rfl (nlt hN) ht hz hzl (nlt h0) ex (by rw [h2]; exact hr) (by rw [ey]; exact src_cg hy h2) (fun y => by
      simp only [getF, beq_eq]
      by_cases e : x' = y
      · simp [e, SV.has]
      · simp only [e, decide_false, cond_false]; exact h3 y fun h => e h.symm) (fun q => by rw [h2]; exact allH_get hfr q) (fun y => by
      simp only [getF, beq_eq]
      by_cases e : x' = y
      · simp [e]
      · simp [e]) (by
      rw [List.length_map, List.length_map]
      have := Nat.le_of_ble_eq_true hb1
      have h9 : (xs.length + ys.length) * by_ ≤ 1000000000 * 140000 := Nat.mul_le_mul hbd this
      omega) (nlt hb0)
    rw [List.map_append]
    exact this
  · have e2 : getH ((St.mk ((x', .u) :: s.F) ((r, .gone) :: s.H)).put d (.one (.d (.list ((xs ++ ys).map f))))).H = puth (getH s.H) r .gone := by
      funext q
      show getH ((r, VH.gone) :: s.H) q = _
      rw [hget_put]; rfl
    have e3 : getF ((St.mk ((x', .u) :: s.F) ((r, .gone) :: s.H)).put d (.one (.d (.list ((xs ++ ys).map f))))).F = putf (putf (getF s.F) x' .u) d (.one (.d (.list ((xs ++ ys).map f)))) := by
      funext y
      rw [get_put]
      simp only [putf, getF, beq_eq]
      by_cases e : d = y
      · simp [e]
      · by_cases e2 : x' = y <;> simp [e, e2]
    rw [e2, e3] at h
    exact h
end
theorem v_ndq {k : Wk} {w0 : Org} {ops : Array Oper} {l : List Oper} {Q : St → Prop} {F : List (Nat × SV)} {H : List (Nat × VH)} {d t : Nat} {p : String} {af : Array Edge} {pre : Prop} {pu : Bool} {f : FuncId} {xs : Array Operand} {ts : Array TypeId} {args : List SV} {α : Type} {φ : α → Prop} {g : α → SV} {R : α → Prop} (hN : Nat.blt d k.N = true) (hk : k.P = Try.prog ∧ k.T = 26) (hic : ICp pre f args (ND φ g)) (ha : PsSL k.P k.T ⟨F, H⟩ pu xs.toList args) (hsc : pu = true ∨ ∀ x, (g x).sc = true) (hpre : pre) (hP : Hld (∀ x, φ x → R x))
    (h : ∀ x, φ x → Hld (R x) → rg k w0 ops l Q ⟨(d, g x) :: F, H⟩) : rg k w0 ops (⟨some d, .call { callee := .value (.func f), args := xs, argTypes := ts }, t, p, af, none⟩ :: l) Q ⟨F, H⟩ :=
  v_nd hN (by rw [hk.1, hk.2]; exact hic hpre) ha hsc hP h
end Go.Proofs.Ytoflahjlnbligaa
