/- Contracts on ideal values; calls. -/
import Derived.Test.YtbnmcdnkeipdhaaIvi
set_option linter.all false
namespace Go.Proofs.Ytbnmcdnkeipdhaa
open Go.RowKit Go.Shelf

/-- What a call leaves. -/
structure ExtC (T : TypeId) (g g' : Gh) (w w' : World) : Prop where
  rd : ∀ b o, g.Rd b o → g'.Rd b o
  new : ∀ b o, g'.Rd b o → g.Rd b o ∨ (w.heap.size ≤ b ∧ b < w'.heap.size)
  keep : Keep (Mut g.tp w.heap.size) w w'
  tape : ∀ tb, g.tp = some tb → TapeR T g.tl g'.Rd w' tb
def Gh.org (g : Gh) (w : World) : Org := ⟨w, g.Rd, g.tp, g.tl⟩
/-- The function f, of such arguments, hands back something of post, and stores into nothing that was there but the tape. -/
def IC (P : Program) (T : TypeId) (f : FuncId) (args : List SV) (post : SV → Prop) : Prop :=
  Enters P f ∧ ∀ (g : Gh) (w : World) (vals : Array Value), (∀ r, g.β r = none) → GI T (g.org w) g [] w → vals.size = args.length → (∀ (j : Nat) (v : Value) (sv : SV), vals[j]? = some v → args[j]? = some sv → RepSV P g w v sv) →
    Calls P f vals w fun e w' => ∃ v sv g', post sv ∧ sv.pl = true ∧ e = .returned v ∧ RepSV P g' w' v sv ∧ ExtC T g g' w w'
theorem IC.mono {P : Program} {T : TypeId} {f : FuncId} {args : List SV} {post post' : SV → Prop} (h : IC P T f args post) (hp : ∀ v, post v → post' v) : IC P T f args post' :=
  ⟨h.1, fun g w vals h1 h2 h3 h4 => (h.2 g w vals h1 h2 h3 h4).mono fun e w' ⟨v, sv, g', a1, a2, a3, a4, a5⟩ => ⟨v, sv, g', hp sv a1, a2, a3, a4, a5⟩⟩

/-! results -/
/-- What is handed back, as plain data. -/
inductive RzC (H : List (Nat × VH)) : CV → CV → Prop where
  | d (x : Cell) : RzC H (.d x) (.d x)
  | nil : RzC H .nil (.d (.list []))
  | sl {r n sz : Nat} {e : TypeId} {rows : List (List Cell)} (h : getH H r = .arr e sz rows) (hn : n = rows.length) : RzC H (.sl r n sz) (.d (.list rows))
inductive RzL (H : List (Nat × VH)) : List CV → List CV → Prop where
  | nil : RzL H [] []
  | cons {c c' : CV} {l l' : List CV} (h : RzC H c c') (hl : RzL H l l') : RzL H (c :: l) (c' :: l')
  | same (l : List Cell) : RzL H (l.map .d) (l.map .d)
inductive RzS (H : List (Nat × VH)) : SV → SV → Prop where
  | one {c c' : CV} (h : RzC H c c') : RzS H (.one c) (.one c')
  | agg {l l' : List CV} (h : RzL H l l') : RzS H (.agg l) (.agg l')
inductive RzSL (H : List (Nat × VH)) : List SV → List SV → Prop where
  | nil : RzSL H [] []
  | cons {c c' : SV} {l l' : List SV} (h : RzS H c c') (hl : RzSL H l l') : RzSL H (c :: l) (c' :: l')
/-- What the result variables hold. -/
inductive ResV (τ : List TyI) (s : St) : ResultVar → SV → Prop where
  | tmp (t : Tmp) : ResV τ s (.tmp t) (getF s.F t)
  | cell1 {t : Tmp} {ty t' : TypeId} {r off : Nat} {cs : List CV} {c : CV} (h : getF s.F t = .one (.ref r off)) (hH : getH s.H r = .blk t' cs) (ht : (tyAt τ ty).isOne = true) (hc : cs[off]? = some c) : ResV τ s (.cell t ty) (.one c)
  | celln {t : Tmp} {ty t' : TypeId} {r off n : Nat} {cs : List CV} {fs zs} (h : getF s.F t = .one (.ref r off)) (hH : getH s.H r = .blk t' cs) (ht : tyAt τ ty = .st n fs zs) (hc : off + n ≤ cs.length) : ResV τ s (.cell t ty) (.agg ((cs.drop off).take n))
inductive ResL (τ : List TyI) (s : St) : List ResultVar → List SV → Prop where
  | nil : ResL τ s [] []
  | cons {r : ResultVar} {v : SV} {l : List ResultVar} {l' : List SV} (h : ResV τ s r v) (hl : ResL τ s l l') : ResL τ s (r :: l) (v :: l')
/-- The plain result of a function whose results are these. -/
inductive Res (H : List (Nat × VH)) : List SV → SV → Prop where
  | one {v v' : SV} (h : RzS H v v') : Res H [v] v'
  | two {v1 v2 : SV} {l l' : List SV} (h : RzSL H (v1 :: v2 :: l) l') : Res H (v1 :: v2 :: l) (.tup l')
  | none : Res H [] (.tup [])
/-- Where a function ends. -/
def RetQ (τ : List TyI) (fn : Func) (post : SV → Prop) (e : Exit) (s : St) : Prop :=
  (e = .ret ∨ e = .normal) ∧ ∃ raw sv, ResL τ s fn.results.toList raw ∧ Res s.H raw sv ∧ post sv

theorem plL_d (l : List Cell) : plL (l.map .d) = true := by
  induction l with
  | nil => rfl
  | cons c l ih => simp [plL, CV.pl, ih]
theorem RzL.pl {H : List (Nat × VH)} {l l' : List CV} (h : RzL H l l') : plL l' = true := by
  induction h with
  | nil => rfl
  | cons h hl ih => simp only [plL, ih, Bool.and_true]; cases h <;> rfl
  | same l => exact plL_d l
theorem RzS.pl {H : List (Nat × VH)} {c c' : SV} (h : RzS H c c') : c'.pl = true := by
  cases h with
  | one h => cases h <;> rfl
  | agg h => exact h.pl
theorem RzSL.pl {H : List (Nat × VH)} {l l' : List SV} (h : RzSL H l l') : SV.plS l' = true := by
  induction h with
  | nil => rfl
  | cons h hl ih => simp only [SV.plS, ih, h.pl, Bool.and_true]
theorem Res.pl {H : List (Nat × VH)} {l : List SV} {c : SV} (h : Res H l c) : c.pl = true := by
  cases h with
  | one h => exact h.pl
  | two h => exact h.pl
  | none => rfl
section
variable {P : Program} {T : TypeId} {N : Nat} {w0 : Org} {g g' : Gh} {s s' : St} {a : Act} {w w' : World} {τ : List TyI}
/-- All blocks of the call's own are given away, to be read. -/
def allRd (g : Gh) (H : List (Nat × VH)) (w : World) : Nat → Nat → Prop := fun b o => g.Rd b o ∨ ((∃ r, live H r ∧ g.β r = some b) ∧ (w.cell? ⟨b, o, none⟩).isSome = true)
def Gh.all (g : Gh) (H : List (Nat × VH)) (w : World) (tp : Option Nat) (tl : Option Addr × Nat × Nat × (Nat → Int)) : Gh := ⟨fun _ => none, g.κ, allRd g H w, tp, tl⟩
theorem Sim.all_fut (hs : Sim P T N w0 g s a w) : Fut g.Rd (allRd g s.H w) w w := ⟨fun _ _ h => .inl h, fun _ _ _ => rfl⟩
theorem Sim.all_rd (hs : Sim P T N w0 g s a w) {b o : Nat} (h : allRd g s.H w b o) : b < w.heap.size ∧ g.tp ≠ some b := by
  rcases h with h | ⟨⟨r, hl, hb⟩, _⟩
  · exact ⟨(hs.gi.rd b o h).1, (hs.gi.rd b o h).2.1⟩
  · exact ⟨(hs.gi.bd r b hl hb).2.1, (hs.gi.bd r b hl hb).2.2⟩
variable {tp : Option Nat} {tl : Option Addr × Nat × Nat × (Nat → Int)}
theorem arr_cell {r n sz : Nat} {e : TypeId} {rows : List (List Cell)} (hs : Sim P T N w0 g s a w) (h : getH s.H r = .arr e sz rows) (hn : n = rows.length) {v : Value} (hv : RepCV P g w v (.sl r n sz)) : RepCell (allRd g s.H w) w v (.list rows) := by
  subst hn
  have hh := hs.hH r; rw [h] at hh
  obtain ⟨g0, _⟩ := hh
  have hl : live s.H r := by unfold live; rw [h]; rfl
  rcases arr_vals hs h hv with ⟨rfl, rfl, _⟩ | ⟨b, vals, hb, rfl, hbl, h1, h2, h3, h4⟩
  · exact .list none 0 [] 0 (fun _ _ => undef) (fun _ => rfl) (Nat.le_refl _) (by unfold maxLen; omega) (by simp) (by simp) (by simp)
  · refine .list (some ⟨b, 0, none⟩) (g.κ r) rows sz (fun i j => vals.getD (i * sz + j) undef) (fun h => by cases h) h2 h3 g0 (fun i j hi hj => ?_) (fun i j row x hi hj => ?_)
    · have hlt : i * sz + j < vals.size := by
        have : (i + 1) * sz ≤ g.κ r * sz := Nat.mul_le_mul_right _ (by omega)
        rw [Nat.add_mul] at this
        omega
      have hc : w.cell? ⟨b, 0 + (i * sz + j), none⟩ = some (vals.getD (i * sz + j) undef) := by
        rw [Nat.zero_add, hbl.cell]; simp [Array.getD, hlt]
      exact ⟨b, 0, rfl, .inr ⟨⟨r, hl, hb⟩, by rw [hc]; rfl⟩, hc⟩
    · obtain ⟨u, hu, hr⟩ := h4 i j row x hi hj
      have : vals.getD (i * sz + j) undef = u := by rw [Array.getD_eq_getD_getElem?, hu]; rfl
      rw [this]
      exact hr.mono (fun _ _ h => .inl h) (fun _ _ _ => rfl)
theorem RzC.rep {c c' : CV} (h : RzC s.H c c') (hs : Sim P T N w0 g s a w) {v : Value} (hv : RepCV P g w v c) : RepCV P (g.all s.H w tp tl) w v c' := by
  cases h with
  | d x => cases hv; rename_i h; exact .d (h.mono hs.all_fut.rd hs.all_fut.cell)
  | nil => exact .d ((hv.unD rfl).mono hs.all_fut.rd hs.all_fut.cell)
  | sl h hn => exact .d (arr_cell hs h hn hv)
theorem RzL.rep {l l' : List CV} (h : RzL s.H l l') (hs : Sim P T N w0 g s a w) : l.length = l'.length ∧ ∀ (j : Nat) (v : Value) (c : CV) (c' : CV), l[j]? = some c → l'[j]? = some c' → RepCV P g w v c → RepCV P (g.all s.H w tp tl) w v c' := by
  induction h with
  | nil => simp
  | cons h hl ih =>
    refine ⟨by simp [ih.1], fun j v c c' h1 h2 hv => ?_⟩
    cases j with
    | zero => simp at h1 h2; subst h1 h2; exact h.rep hs hv
    | succ j => exact ih.2 j v c c' (by simpa using h1) (by simpa using h2) hv
  | same l =>
    refine ⟨rfl, fun j v c c' h1 h2 hv => ?_⟩
    rw [h1] at h2
    injection h2 with h2
    subst h2
    rw [List.getElem?_map] at h1
    cases hx : l[j]? with
    | none => rw [hx] at h1; cases h1
    | some x =>
      rw [hx] at h1
      simp at h1
      subst h1
      exact (RzC.d x).rep hs hv
theorem RzS.rep {c c' : SV} (h : RzS s.H c c') (hs : Sim P T N w0 g s a w) {v : Value} (hv : RepSV P g w v c) : RepSV P (g.all s.H w tp tl) w v c' := by
  cases h with
  | one h => exact .one (h.rep hs hv.one_inv)
  | agg h =>
    obtain ⟨vs, rfl, hsz, hr⟩ := hv.agg_inv
    obtain ⟨k1, k2⟩ := h.rep hs
    refine .agg vs _ (by omega) fun j v c' h1 h2 => ?_
    have hj := (List.getElem?_eq_some_iff.1 h2).1
    exact k2 j v _ c' (List.getElem?_eq_getElem (by omega)) h2 (hr j v _ h1 (List.getElem?_eq_getElem (by omega)))
theorem RzSL.rep {l l' : List SV} (h : RzSL s.H l l') (hs : Sim P T N w0 g s a w) : l.length = l'.length ∧ ∀ (j : Nat) (v : Value) (c : SV) (c' : SV), l[j]? = some c → l'[j]? = some c' → RepSV P g w v c → RepSV P (g.all s.H w tp tl) w v c' := by
  induction h with
  | nil => simp
  | cons h hl ih =>
    refine ⟨by simp [ih.1], fun j v c c' h1 h2 hv => ?_⟩
    cases j with
    | zero => simp at h1 h2; subst h1 h2; exact h.rep hs hv
    | succ j => exact ih.2 j v c c' (by simpa using h1) (by simpa using h2) hv
theorem load_blk1 (hs : Sim P T N w0 g s a w) {t ty t' r off : Nat} {cs : List CV} {c : CV} (h : getF s.F t = .one (.ref r off)) (hH : getH s.H r = .blk t' cs) (ht : oneT P ty = true) (hc : cs[off]? = some c) :
    ∃ v, (do loadVar ty (← asAddr (a.tmps.getD t undef)) : Sem Value).run P w = .ok v w ∧ RepSV P g w v (.one c) := by
  have h1 := hs.hF t; rw [h] at h1
  obtain ⟨b, hb, e⟩ := h1.one_inv.ref_inv
  have hh := hs.hH r; rw [hH] at hh
  obtain ⟨b', vals, hb', hbl, hsz, hv⟩ := hh
  obtain rfl : b = b' := by rw [hb] at hb'; injection hb'
  have hlt := (List.getElem?_eq_some_iff.1 hc).1
  have hc2 := hbl.cell off
  rw [Array.getElem?_eq_getElem (by omega)] at hc2
  exact ⟨vals[off]'(by omega), by simp [e, asAddr, run_load_one ht hc2], .one (hv off _ c (Array.getElem?_eq_getElem (by omega)) hc)⟩
theorem load_blkn (hs : Sim P T N w0 g s a w) {t ty t' r off n : Nat} {cs : List CV} (h : getF s.F t = .one (.ref r off)) (hH : getH s.H r = .blk t' cs) (ht : aggT P ty n = true) (hc : off + n ≤ cs.length) :
    ∃ v, (do loadVar ty (← asAddr (a.tmps.getD t undef)) : Sem Value).run P w = .ok v w ∧ RepSV P g w v (.agg ((cs.drop off).take n)) := by
  have h1 := hs.hF t; rw [h] at h1
  obtain ⟨b, hb, e⟩ := h1.one_inv.ref_inv
  have hh := hs.hH r; rw [hH] at hh
  obtain ⟨b', vals, hb', hbl, hsz, hv⟩ := hh
  obtain rfl : b = b' := by rw [hb] at hb'; injection hb'
  have hl := run_load_agg (P := P) (w := w) ht (b := b) (o := off) (f := fun j => vals.getD (off + j) undef) (fun j hj => by
    rw [hbl.cell (off + j)]; simp [Array.getD, show off + j < vals.size by omega])
  refine ⟨.agg ((List.range n).map fun j => vals.getD (off + j) undef).toArray, ?_, .agg _ _ (by simp; omega) fun j v c hv' hc' => ?_⟩
  · rw [e]
    simp only [asAddr, Sem.run_bind, Sem.run_pure, Result.andThen_ok]
    exact hl
  · have hj : j < n := by have := (List.getElem?_eq_some_iff.1 hc').1; simp at this; omega
    rw [List.getElem?_take_of_lt hj, List.getElem?_drop] at hc'
    simp [hj, show off + j < vals.size by omega] at hv'
    rw [← hv']
    exact hv (off + j) _ c (Array.getElem?_eq_getElem (by omega)) hc'
def resF (a : Act) : ResultVar → Sem Value
  | .tmp t => pure (a.tmps.getD t undef)
  | .cell b t => do loadVar t (← asAddr (a.tmps.getD b undef))
theorem ResL.run (hτ : tabB P 0 τ = true) (hs : Sim P T N w0 g s a w) {l : List ResultVar} {raw : List SV} (h : ResL τ s l raw) :
    ∃ vs : List Value, (l.mapM (resF a)).run P w = .ok vs w ∧ vs.length = raw.length ∧ ∀ (j : Nat) (v : Value) (sv : SV), vs[j]? = some v → raw[j]? = some sv → RepSV P g w v sv := by
  induction h with
  | nil => exact ⟨[], by simp, rfl, by simp⟩
  | @cons r v l l' h hl ih =>
    obtain ⟨vs, h1, h2, h3⟩ := ih
    have key : ∃ u, (resF a r).run P w = .ok u w ∧ RepSV P g w u v := by
      cases h with
      | tmp t => exact ⟨a.tmps.getD t undef, rfl, hs.hF t⟩
      | cell1 h hH ht hc => exact load_blk1 hs h hH (tab_one hτ ht) hc
      | celln h hH ht hc => exact load_blkn hs h hH (tab_agg hτ ht) hc
    obtain ⟨u, hu, hr⟩ := key
    refine ⟨u :: vs, ?_, by simp [h2], fun j v' sv' hv hsv => ?_⟩
    · rw [List.mapM_cons]
      simp only [Sem.run_bind, hu, Result.andThen_ok, h1, Sem.run_pure]
    · cases j with
      | zero => simp at hv hsv; subst hv hsv; exact hr
      | succ j => exact h3 j v' sv' (by simpa using hv) (by simpa using hsv)
theorem results_run (hτ : tabB P 0 τ = true) (hs : Sim P T N w0 g s a w) {fn : Func} {raw : List SV} {sv : SV} (h : ResL τ s fn.results.toList raw) (hr : Res s.H raw sv) : ∃ v, (results fn a.tmps).run P w = .ok v w ∧ RepSV P (g.all s.H w tp tl) w v sv := by
  obtain ⟨vs, h1, h2, h3⟩ := h.run hτ hs
  have hm : (results fn a.tmps).run P w = .ok (if h : vs.toArray.size = 1 then vs.toArray[0] else .tuple vs.toArray) w := by
    unfold results
    rw [Array.mapM_eq_mapM_toList]
    simp only [Sem.run_bind, map_eq_pure_bind, Sem.run_pure]
    change (((Sem.run P (fn.results.toList.mapM (resF a)) w).andThen _).andThen _) = _
    rw [h1]
    rfl
  refine ⟨_, hm, ?_⟩
  cases hr with
  | one h =>
    obtain ⟨u, rfl⟩ : ∃ u, vs = [u] := by
      match vs, h2 with
      | [u], _ => exact ⟨u, rfl⟩
    exact h.rep hs (h3 0 u _ rfl rfl)
  | @two v1 v2 l l' hz =>
    have hlen : vs.toArray.size ≠ 1 := by simp [h2]
    rw [dif_neg hlen]
    obtain ⟨k1, k2⟩ := hz.rep (tp := tp) (tl := tl) hs
    refine .tup _ _ (by simp; omega) fun j v c' hv hc => ?_
    have hj := (List.getElem?_eq_some_iff.1 hc).1
    have hraw : (v1 :: v2 :: l)[j]? = some ((v1 :: v2 :: l)[j]'(by omega)) := List.getElem?_eq_getElem (by omega)
    exact k2 j v _ c' hraw hc (h3 j v _ (by simpa using hv) hraw)
  | none =>
    obtain rfl : vs = [] := List.eq_nil_of_length_eq_zero h2
    exact .tup _ _ rfl (by simp)

def argF : Nat → List SV → List (Nat × SV)
  | _, [] => []
  | k, v :: l => (k, v) :: argF (k + 1) l
theorem argF_get (k : Nat) (l : List SV) (x : Nat) : getF (argF k l) x = if k ≤ x then (l[x - k]?).getD .u else .u := by
  induction l generalizing k with
  | nil => simp [argF, getF]
  | cons v l ih =>
    simp only [argF, getF, beq_eq]
    by_cases e : k = x
    · subst e; simp
    · simp only [e, decide_false, cond_false]
      rw [ih]
      by_cases h : k ≤ x
      · rw [if_pos (by omega), if_pos h, show x - k = (x - (k + 1)) + 1 by omega]
        simp
      · rw [if_neg (by omega), if_neg h]
theorem ic_of {f : FuncId} {fn : Func} {c : Code} {args : List SV} {post : SV → Prop} (hτ : tabB P 0 τ = true) (hf : P.funcs[f]? = some fn) (hname : (fn.name == "runtime.NumGoroutine") = false) (hb : fn.body = some c) (hn : Nat.ble args.length fn.ntmps = true)
    (h : ∀ w0, iwp P T fn.ntmps w0 c (RetQ τ fn post) ⟨argF 0 args, []⟩) : IC P T f args post := by
  refine ⟨enters_of hf hname hb, fun g w vals hβ hgi hsz hrep => calls_of_wp hf hb ?_⟩
  have hle := Nat.le_of_ble_eq_true hn
  have hs : Sim P T fn.ntmps (g.org w) g ⟨argF 0 args, []⟩ { tmps := vals ++ Array.replicate (fn.ntmps - vals.size) undef, defers := [] } w := by
    refine ⟨hgi, rfl, by simp; omega, fun x => ?_, fun r => trivial⟩
    show RepSV P g w _ (getF (argF 0 args) x)
    rw [argF_get]
    simp only [Nat.zero_le, if_true, Nat.sub_zero]
    cases hx : args[x]? with
    | none => exact .u _
    | some sv =>
      have hlt := (List.getElem?_eq_some_iff.1 hx).1
      have hv : vals[x]? = some (vals[x]'(by omega)) := Array.getElem?_eq_getElem (by omega)
      have := hrep x _ sv hv hx
      simpa [Array.getElem_append, show x < vals.size by omega, show x < vals.size + (fn.ntmps - vals.size) by omega] using this
  refine wp_mono (h (g.org w) g _ w hs) fun e a' w' ⟨g', s', ⟨he, raw, sv, hr1, hr2, hp⟩, hs'⟩ => ?_
  obtain ⟨v, hrun, hrv⟩ := results_run (tp := g.tp) (tl := g.tl) hτ hs' hr1 hr2
  have hext : ExtC T g (g'.all s'.H w' g.tp g.tl) w w' := by
    refine ⟨fun b o h => .inl (hs'.gi.org.rd0 b o h), fun b o h => ?_, hs'.gi.keep, fun tb htb => ?_⟩
    · have hlt := (hs'.all_rd h).1
      rcases h with h | ⟨⟨r, hl, hb⟩, _⟩
      · rcases hs'.gi.org.new0 b o h with h | h
        · exact .inl h
        · exact .inr ⟨h, hlt⟩
      · exact .inr ⟨(hs'.gi.bd r b hl hb).1, hlt⟩
    · obtain ⟨e1, e2⟩ := hs'.gi.org.tp0 tb htb
      have := (hs'.gi.tape tb e1).2
      rw [e2] at this
      exact this.keep hs'.all_fut rfl
  rcases he with rfl | rfl
  · exact ⟨hs'.dn, v, hrun, v, sv, _, hp, hr2.pl, rfl, hrv, hext⟩
  · exact ⟨hs'.dn, v, hrun, v, sv, _, hp, hr2.pl, rfl, hrv, hext⟩
end

/-! arguments -/
def DV.sv : DV → SV
  | .one c => .one (.d c)
  | .agg cs => .agg (cs.map .d)
theorem RepDV.sv {P : Program} {g : Gh} {w : World} {v : Value} {d : DV} (h : RepDV g.Rd w v d) : RepSV P g w v d.sv := by
  cases h with
  | one h => exact .one (.d h)
  | agg vs cs hs h =>
    refine .agg vs _ (by simp [hs]) fun j v c h1 h2 => ?_
    rw [List.getElem?_map] at h2
    cases hx : cs[j]? with
    | none => rw [hx] at h2; cases h2
    | some x => rw [hx] at h2; simp at h2; subst h2; exact .d (h j v x h1 hx)
/-- The function f, of these captured cells, computes p. -/
def FnSpec (P : Program) (T : TypeId) (f : FuncId) (caps : List CV) (p : List DV → Option Cell) : Prop :=
  ∀ (args : List DV) (r : Cell), p args = some r → (∃ u, r.sval = some u) ∧ IC P T f (args.map DV.sv ++ caps.map .one) (fun sv => sv = .one (.d r))
/-- What is handed to a call. -/
inductive PsC (P : Program) (T : TypeId) (H : List (Nat × VH)) : Bool → CV → CV → Prop where
  | d (pu : Bool) (x : Cell) : PsC P T H pu (.d x) (.d x)
  | nil (pu : Bool) : PsC P T H pu .nil (.d (.list []))
  | nn (pu : Bool) : PsC P T H pu .nil .nil
  | fn (pu : Bool) (p : List DV → Option Cell) : PsC P T H pu (.fn p) (.fn p)
  | tape (pu : Bool) : PsC P T H pu .tape .tape
  | u (pu : Bool) (c : CV) : PsC P T H pu c .u
  | sl {r n sz : Nat} {e : TypeId} {rows : List (List Cell)} (h : getH H r = .arr e sz rows) (hn : n = rows.length) : PsC P T H false (.sl r n sz) (.d (.list rows))
  | ref_ {r off : Nat} {t : TypeId} {cs cs' : List CV} (h : getH H r = .blk t cs) (hl : (cs.drop off).length = cs'.length) (hc : ∀ (j : Nat) (c c' : CV), (cs.drop off)[j]? = some c → cs'[j]? = some c' → PsC P T H false c c') : PsC P T H false (.ref r off) (.rp cs')
  | el {r i j sz : Nat} {e : TypeId} {rows : List (List Cell)} {row : List Cell} (h : getH H r = .arr e sz rows) (hi : rows[i]? = some row) : PsC P T H false (.el r i j sz) (.rp ((row.drop j).map .d))
  | rp_ {pu : Bool} {cs cs' : List CV} (hl : cs.length = cs'.length) (hc : ∀ (j : Nat) (c c' : CV), cs[j]? = some c → cs'[j]? = some c' → PsC P T H pu c c') : PsC P T H pu (.rp cs) (.rp cs')
  | clo_ {pu : Bool} {f : FuncId} {cs cs' : List CV} (hl : cs.length = cs'.length) (hc : ∀ (j : Nat) (c c' : CV), cs[j]? = some c → cs'[j]? = some c' → PsC P T H pu c c') : PsC P T H pu (.clo f cs) (.clo f cs')
  | cfn_ {pu : Bool} {f : FuncId} {cs cs' : List CV} {p : List DV → Option Cell} (hl : cs.length = cs'.length) (hc : ∀ (j : Nat) (c c' : CV), cs[j]? = some c → cs'[j]? = some c' → PsC P T H pu c c') (he : Enters P f) (hn : CV.ntL cs' = true) (hf : FnSpec P T f cs' p) : PsC P T H pu (.clo f cs) (.fn p)
inductive PsL (P : Program) (T : TypeId) (H : List (Nat × VH)) : Bool → List CV → List CV → Prop where
  | nil (pu : Bool) : PsL P T H pu [] []
  | cons {pu : Bool} {c c' : CV} {l l' : List CV} (h : PsC P T H pu c c') (hl : PsL P T H pu l l') : PsL P T H pu (c :: l) (c' :: l')
  | same (pu : Bool) (l : List Cell) : PsL P T H pu (l.map .d) (l.map .d)
section
variable {P : Program} {T : TypeId} {H : List (Nat × VH)} {pu : Bool}
theorem PsL.get {l l' : List CV} (h : PsL P T H pu l l') : l.length = l'.length ∧ ∀ (j : Nat) (c c' : CV), l[j]? = some c → l'[j]? = some c' → PsC P T H pu c c' := by
  induction h with
  | nil => simp
  | cons h hl ih =>
    refine ⟨by simp [ih.1], fun j c c' q1 q2 => ?_⟩
    cases j with
    | zero => simp at q1 q2; subst q1 q2; exact h
    | succ j => exact ih.2 j c c' (by simpa using q1) (by simpa using q2)
  | same l =>
    refine ⟨rfl, fun j c c' h1 h2 => ?_⟩
    rw [h1] at h2
    injection h2 with h2
    subst h2
    rw [List.getElem?_map] at h1
    cases hx : l[j]? with
    | none => rw [hx] at h1; cases h1
    | some x => rw [hx] at h1; simp at h1; subst h1; exact .d _ x
theorem PsC.ref {r off : Nat} {t : TypeId} {cs cs' : List CV} (h : getH H r = .blk t cs) (hl : PsL P T H false (cs.drop off) cs') : PsC P T H false (.ref r off) (.rp cs') := .ref_ h hl.get.1 hl.get.2
theorem PsC.rp {cs cs' : List CV} (h : PsL P T H pu cs cs') : PsC P T H pu (.rp cs) (.rp cs') := .rp_ h.get.1 h.get.2
theorem PsC.clo {f : FuncId} {cs cs' : List CV} (h : PsL P T H pu cs cs') : PsC P T H pu (.clo f cs) (.clo f cs') := .clo_ h.get.1 h.get.2
theorem PsC.cfn {f : FuncId} {cs cs' : List CV} {p : List DV → Option Cell} (h : PsL P T H pu cs cs') (he : Enters P f) (hn : CV.ntL cs' = true) (hf : FnSpec P T f cs' p) : PsC P T H pu (.clo f cs) (.fn p) := .cfn_ h.get.1 h.get.2 he hn hf
end
inductive PsS (P : Program) (T : TypeId) (H : List (Nat × VH)) : Bool → SV → SV → Prop where
  | one {pu : Bool} {c c' : CV} (h : PsC P T H pu c c') : PsS P T H pu (.one c) (.one c')
  | agg {pu : Bool} {l l' : List CV} (h : PsL P T H pu l l') : PsS P T H pu (.agg l) (.agg l')
inductive PsSL (P : Program) (T : TypeId) (s : St) : Bool → List Operand → List SV → Prop where
  | nil (pu : Bool) : PsSL P T s pu [] []
  | cons {pu : Bool} {x : Operand} {v : SV} {l : List Operand} {l' : List SV} (h : PsS P T s.H pu (s.ev x) v) (hl : PsSL P T s pu l l') : PsSL P T s pu (x :: l) (v :: l')

section
variable {P : Program} {T : TypeId} {N : Nat} {w0 : Org} {g g' : Gh} {s s' : St} {a : Act} {w w' : World} {o : Oper}
/-- What is read by a callee: all, or just what is sealed. -/
def psRd (g : Gh) (H : List (Nat × VH)) (w : World) : Bool → Nat → Nat → Prop
  | true => g.Rd
  | false => allRd g H w
def psG (g : Gh) (H : List (Nat × VH)) (w : World) (pu : Bool) : Gh := ⟨fun _ => none, g.κ, psRd g H w pu, g.tp, g.tl⟩
theorem psRd_fut (hs : Sim P T N w0 g s a w) (pu : Bool) : Fut g.Rd (psRd g s.H w pu) w w := by
  cases pu
  · exact hs.all_fut
  · exact Fut.refl _ _
theorem fnspec_ok {f : FuncId} {cs : List CV} {p : List DV → Option Cell} {vs : Array Value} (g : Gh) (hβ : ∀ r, g.β r = none) (he : Enters P f) (hf : FnSpec P T f cs p) (hsz : vs.size = cs.length)
    (hr : ∀ (j : Nat) (v : Value) (c : CV), vs[j]? = some v → cs[j]? = some c → RepCV P g w v c) (htp : CV.ntL cs = true) : FnOK P g.Rd w (.func (.func f) #[] vs) p := by
  refine ⟨f, vs, rfl, he, fun Rd' w' hfut hlt args vals r hp hlen hrep => ?_⟩
  obtain ⟨⟨u, hu⟩, _, hic⟩ := hf args r hp
  have hgi : GI T (Gh.org ⟨fun _ => none, g.κ, Rd', none, g.tl⟩ w') ⟨fun _ => none, g.κ, Rd', none, g.tl⟩ [] w' :=
    ⟨fun r r' b h => (by cases h), fun r b h => (by cases h), fun b o h => ⟨hlt b o h, (by simp), fun r h => (by cases h)⟩, Keep.refl _ _, fun tb h => (by cases h), ⟨fun _ _ h => h, fun _ _ h => .inl h, fun tb h => (by cases h), fun tb h => (by cases h)⟩⟩
  refine (hic ⟨fun _ => none, g.κ, Rd', none, g.tl⟩ w' (vals ++ vs) (fun _ => rfl) hgi (by simp; omega) fun j v sv hv hsv => ?_).mono fun e w'' ⟨v, sv, g', h1, h2, h3, h4, h5⟩ => ?_
  · by_cases hj : j < vals.size
    · rw [Array.getElem?_append_left hj] at hv
      rw [List.getElem?_append_left (by simp; omega), List.getElem?_map] at hsv
      cases hx : args[j]? with
      | none => rw [hx] at hsv; cases hsv
      | some d => rw [hx] at hsv; simp at hsv; subst hsv; exact RepDV.sv (g := ⟨fun _ => none, g.κ, Rd', none, g.tl⟩) (hrep j v d hv hx)
    · rw [Array.getElem?_append_right (by omega)] at hv
      rw [List.getElem?_append_right (by simp; omega), List.getElem?_map] at hsv
      simp only [List.length_map, ← hlen] at hsv
      cases hx : cs[j - vals.size]? with
      | none => rw [hx] at hsv; cases hsv
      | some c =>
        rw [hx] at hsv
        simp at hsv
        subst hsv
        exact .one ((hr _ v c hv hx).moveN (g' := ⟨fun _ => none, g.κ, Rd', none, g.tl⟩) hfut (CV.ntL_get htp hx) fun r _ => ⟨(hβ r).symm, rfl⟩)
  · subst h1
    refine ⟨u, hu, ?_, ?_⟩
    · rw [h3]
      cases h4 with | one h => cases h with | d h => rw [h.sval hu]
    · exact h5.keep.to_below fun k hk => by
        rcases hk with hk | hk
        · cases hk
        · exact hk
theorem PsC.rep {pu : Bool} {c c' : CV} (h : PsC P T s.H pu c c') (hs : Sim P T N w0 g s a w) {v : Value} (hv : RepCV P g w v c) : RepCV P (psG g s.H w pu) w v c' := by
  induction h generalizing v with
  | d pu x => cases hv; rename_i h; exact .d (h.mono (psRd_fut hs pu).rd (psRd_fut hs pu).cell)
  | nil pu => exact .d ((hv.unD rfl).mono (psRd_fut hs pu).rd (psRd_fut hs pu).cell)
  | nn pu => cases hv; exact .nil
  | fn pu p => cases hv; rename_i h; exact .fn (h.mono (psRd_fut hs pu))
  | tape pu => cases hv; rename_i h; exact .tape h
  | u pu c => exact .u hv.one
  | sl h hn => exact .d (arr_cell hs h hn hv)
  | @ref_ r off t cs cs' h hl hc ih =>
    obtain ⟨b, hb, rfl⟩ := hv.ref_inv
    have hh := hs.hH r; rw [h] at hh
    obtain ⟨b', vals, hb', hbl, hsz, hr⟩ := hh
    obtain rfl : b = b' := by rw [hb] at hb'; injection hb'
    have hlv : live s.H r := by unfold live; rw [h]; rfl
    simp at hl
    refine .rp b off cs' (fun j => vals.getD (off + j) undef) (fun j c hj => ?_) (fun j c hj => ?_)
    · have hlt := (List.getElem?_eq_some_iff.1 hj).1
      have hc : w.cell? ⟨b, off + j, none⟩ = some (vals.getD (off + j) undef) := by
        rw [hbl.cell]; simp [Array.getD, show off + j < vals.size by omega]
      exact ⟨.inr ⟨⟨r, hlv, hb⟩, by rw [hc]; rfl⟩, hc⟩
    · have hlt := (List.getElem?_eq_some_iff.1 hj).1
      have hc : cs[off + j]? = some (cs[off + j]'(by omega)) := List.getElem?_eq_getElem (by omega)
      have hv : vals[off + j]? = some (vals.getD (off + j) undef) := by simp [Array.getD, show off + j < vals.size by omega]
      exact ih j _ c (by rw [List.getElem?_drop]; exact hc) hj (hr (off + j) _ _ hv hc)
  | @el r i j sz e rows row h hi =>
    obtain ⟨b, hb, rfl⟩ := hv.el_inv
    obtain ⟨vals, hbl, hrl, hsz, hr⟩ := arr_row hs h hi hb
    have hlv : live s.H r := by unfold live; rw [h]; rfl
    refine .rp b (i * sz + j) _ (fun k => vals.getD (i * sz + j + k) undef) (fun k c hk => ?_) (fun k c hk => ?_)
    · have hlt := (List.getElem?_eq_some_iff.1 hk).1
      simp at hlt
      have hc : w.cell? ⟨b, i * sz + j + k, none⟩ = some (vals.getD (i * sz + j + k) undef) := by
        rw [hbl.cell]; simp [Array.getD, show i * sz + j + k < vals.size by omega]
      exact ⟨.inr ⟨⟨r, hlv, hb⟩, by rw [hc]; rfl⟩, hc⟩
    · rw [List.getElem?_map, List.getElem?_drop] at hk
      cases hx : row[j + k]? with
      | none => rw [hx] at hk; cases hk
      | some x =>
        rw [hx] at hk
        simp at hk
        subst hk
        obtain ⟨u, hu, hru⟩ := hr (j + k) x hx
        have : vals.getD (i * sz + j + k) undef = u := by rw [Array.getD_eq_getD_getElem?, Nat.add_assoc, hu]; rfl
        rw [this]
        exact .d (hru.mono hs.all_fut.rd hs.all_fut.cell)
  | @rp_ pu cs cs' hl hc ih =>
    obtain ⟨b, o', vals, rfl, h1, h2⟩ := hv.rp_inv
    refine .rp b o' _ vals (fun j c hj => ?_) (fun j c hj => ?_)
    · have hlt := (List.getElem?_eq_some_iff.1 hj).1
      obtain ⟨q1, q2⟩ := h1 j _ (List.getElem?_eq_getElem (by omega))
      exact ⟨(psRd_fut hs pu).rd _ _ q1, q2⟩
    · have hlt := (List.getElem?_eq_some_iff.1 hj).1
      exact ih j _ c (List.getElem?_eq_getElem (by omega)) hj (h2 j _ (List.getElem?_eq_getElem (by omega)))
  | @clo_ pu f cs cs' hl hc ih =>
    cases hv with
    | clo f vs cs hs' hr =>
      refine .clo f vs _ (by omega) fun j v c h1 h2 => ?_
      have hlt := (List.getElem?_eq_some_iff.1 h2).1
      exact ih j _ c (List.getElem?_eq_getElem (by omega)) h2 (hr j v _ h1 (List.getElem?_eq_getElem (by omega)))
  | @cfn_ pu f cs cs' p hl hc he hn hf ih =>
    cases hv with
    | clo f vs cs hs' hr =>
      refine .fn (fnspec_ok (psG g s.H w pu) (fun _ => rfl) he hf (by omega) (fun j v c h1 h2 => ?_) hn)
      have hlt := (List.getElem?_eq_some_iff.1 h2).1
      exact ih j _ c (List.getElem?_eq_getElem (by omega)) h2 (hr j v _ h1 (List.getElem?_eq_getElem (by omega)))
theorem PsL.rep {pu : Bool} {l l' : List CV} (h : PsL P T s.H pu l l') (hs : Sim P T N w0 g s a w) : l.length = l'.length ∧ ∀ (j : Nat) (v : Value) (c : CV) (c' : CV), l[j]? = some c → l'[j]? = some c' → RepCV P g w v c → RepCV P (psG g s.H w pu) w v c' :=
  ⟨h.get.1, fun j v c c' h1 h2 hv => (h.get.2 j c c' h1 h2).rep hs hv⟩
theorem PsS.rep {pu : Bool} {c c' : SV} (h : PsS P T s.H pu c c') (hs : Sim P T N w0 g s a w) {v : Value} (hv : RepSV P g w v c) : RepSV P (psG g s.H w pu) w v c' := by
  cases h with
  | one h => exact .one (h.rep hs hv.one_inv)
  | agg h =>
    obtain ⟨vs, rfl, hsz, hr⟩ := hv.agg_inv
    obtain ⟨k1, k2⟩ := h.rep hs
    refine .agg vs _ (by omega) fun j v c' h1 h2 => ?_
    have hj := (List.getElem?_eq_some_iff.1 h2).1
    exact k2 j v _ c' (List.getElem?_eq_getElem (by omega)) h2 (hr j v _ h1 (List.getElem?_eq_getElem (by omega)))
theorem PsSL.rep {pu : Bool} {l : List Operand} {l' : List SV} (h : PsSL P T s pu l l') (hs : Sim P T N w0 g s a w) : l.length = l'.length ∧ ∀ (j : Nat) (v : Value) (c' : SV), (l.map a.eval)[j]? = some v → l'[j]? = some c' → RepSV P (psG g s.H w pu) w v c' := by
  induction h with
  | nil => simp
  | @cons x v l l' h hl ih =>
    refine ⟨by simp [ih.1], fun j v' c' h1 h2 => ?_⟩
    cases j with
    | zero => simp at h1 h2; subst h1 h2; exact h.rep hs (hs.ev x)
    | succ j => exact ih.2 j v' c' (by simpa using h1) (by simpa using h2)
theorem ps_gi (hs : Sim P T N w0 g s a w) (pu : Bool) : GI T ((psG g s.H w pu).org w) (psG g s.H w pu) [] w := by
  refine ⟨fun r r' b h => (by cases h), fun r b h => (by cases h), fun b o h => ?_, Keep.refl _ _, fun tb htb => ?_, ⟨fun _ _ h => h, fun _ _ h => .inl h, fun tb h => ⟨h, rfl⟩, fun tb h => .inl h⟩⟩
  · have : b < w.heap.size ∧ g.tp ≠ some b := by
      cases pu
      · exact hs.all_rd h
      · exact ⟨(hs.gi.rd b o h).1, (hs.gi.rd b o h).2.1⟩
    exact ⟨this.1, this.2, fun r h => (by cases h)⟩
  · obtain ⟨a1, a2⟩ := hs.gi.tape tb htb
    exact ⟨a1, a2.keep (psRd_fut hs pu) rfl⟩
/-- What a caller has after a call. -/
theorem after_call (hs : Sim P T N w0 g s a w) {pu : Bool} {v : Value} {sv : SV} (hp : sv.pl = true) (hsc : pu = true ∨ sv.sc = true) (hr : RepSV P g' w' v sv) (he : ExtC T (psG g s.H w pu) g' w w') :
    ∃ g2, Ext T g g2 w w' ∧ RepSV P g2 w' v sv := by
  have hkc : ∀ b o, g.Rd b o → w'.cell? ⟨b, o, none⟩ = w.cell? ⟨b, o, none⟩ := fun b o hb => he.keep.cell (p := ⟨b, o, none⟩) fun hm => by
    obtain ⟨h1, h2, _⟩ := hs.gi.rd b o hb
    rcases hm with hm | hm
    · exact h2 hm
    · simp at hm; omega
  refine ⟨⟨g.β, g.κ, fun b o => g.Rd b o ∨ (g'.Rd b o ∧ w.heap.size ≤ b ∧ b < w'.heap.size), g.tp, g.tl⟩, ⟨rfl, rfl, rfl, rfl, fun _ _ h => .inl h, fun b o h => h.imp id (fun h => h.2), he.keep, fun tb htb => ?_⟩, ?_⟩
  · obtain ⟨⟨k, h1, h2⟩, h3, _⟩ := he.tape tb htb
    obtain ⟨_, _, h4⟩ := (hs.gi.tape tb htb).2
    refine ⟨⟨k, h1, h2⟩, h3, fun i hi => ?_⟩
    obtain ⟨b, o, e, q1, q2⟩ := h4 i hi
    exact ⟨b, o, e, .inl q1, (hkc b _ q1).trans q2⟩
  · rcases hsc with rfl | hsc
    · refine hr.plain hp ⟨fun b o h => ?_, fun _ _ _ => rfl⟩
      rcases he.new b o h with h' | h'
      · exact .inl h'
      · exact .inr ⟨h, h'⟩
    · exact hr.scal hsc
/-- A call of a function that is known. -/
theorem opq_call {f : FuncId} {xs : Array Operand} {ts : Array TypeId} {args : List SV} {post : SV → Prop} {pu : Bool} (ho : o.op = .call { callee := .value (.func f), args := xs, argTypes := ts }) (hic : IC P T f args post)
    (ha : PsSL P T s pu xs.toList args) (hsc : pu = true ∨ ∀ sv, post sv → sv.sc = true) : OpQ P T N w0 s o post := by
  intro g a w hs K Q hK
  obtain ⟨k1, k2⟩ := ha.rep hs
  have hrun : (execOp a.eval o).run P w = .ok (.enter f (xs.map a.eval)) w := by
    simp only [execOp, ho, Sem.run_bind, resolve, Act.eval, Deferred.ofValue, Sem.run_pure, Result.andThen_ok, invoke]
    have := hic.1 (#[] ++ xs.map a.eval ++ #[]) w
    simpa using this
  unfold Oper.wp
  rw [hrun, Oper.upon_enter]
  refine (hic.2 (psG g s.H w pu) w (xs.map a.eval) (fun _ => rfl) (ps_gi hs pu) (by simpa using k1) fun j v sv hv hsv => k2 j v sv (by simpa using hv) hsv).mono fun e w' ⟨v, sv, g', h1, h2, h3, h4, h5⟩ => ?_
  subst h3
  obtain ⟨g2, q1, q2⟩ := after_call hs h2 (hsc.imp id fun h => h sv h1) h4 h5
  exact hK v w' ⟨g2, sv, h1, q1, q2⟩
/-- A call of a closure. -/
theorem opq_call_clo {f : FuncId} {y : Operand} {cs : List CV} {xs : Array Operand} {ts : Array TypeId} {args : List SV} {cs' : List CV} {post : SV → Prop} {pu : Bool} (ho : o.op = .call { callee := .value y, args := xs, argTypes := ts }) (hy : s.ev y = .one (.clo f cs))
    (hic : IC P T f (args ++ cs'.map .one) post) (ha : PsSL P T s pu xs.toList args) (hc : PsL P T s.H pu cs cs') (hsc : pu = true ∨ ∀ sv, post sv → sv.sc = true) : OpQ P T N w0 s o post := by
  intro g a w hs K Q hK
  obtain ⟨k1, k2⟩ := ha.rep hs
  obtain ⟨c1, c2⟩ := hc.rep hs
  have hcl := hs.ev y
  rw [hy] at hcl
  obtain ⟨vs, hev, hvs, hvr⟩ : ∃ vs : Array Value, a.eval y = .func (.func f) #[] vs ∧ vs.size = cs.length ∧ ∀ (j : Nat) (v : Value) (c : CV), vs[j]? = some v → cs[j]? = some c → RepCV P g w v c := by
    have := hcl.one_inv
    generalize a.eval y = v at this
    cases this with
    | clo f vs cs hs h => exact ⟨vs, rfl, hs, h⟩
  have hrun : (execOp a.eval o).run P w = .ok (.enter f (xs.map a.eval ++ vs)) w := by
    simp only [execOp, ho, Sem.run_bind, resolve, hev, Deferred.ofValue, Sem.run_pure, Result.andThen_ok, invoke]
    have := hic.1 (#[] ++ xs.map a.eval ++ vs) w
    simpa using this
  unfold Oper.wp
  rw [hrun, Oper.upon_enter]
  refine (hic.2 (psG g s.H w pu) w (xs.map a.eval ++ vs) (fun _ => rfl) (ps_gi hs pu) (by simp at k1 ⊢; omega) fun j v sv hv hsv => ?_).mono fun e w' ⟨v, sv, g', h1, h2, h3, h4, h5⟩ => ?_
  · simp at k1
    by_cases hj : j < xs.size
    · rw [Array.getElem?_append_left (by simpa using hj)] at hv
      rw [List.getElem?_append_left (by omega)] at hsv
      exact k2 j v sv (by simpa using hv) hsv
    · rw [Array.getElem?_append_right (by simp; omega)] at hv
      rw [List.getElem?_append_right (by omega), List.getElem?_map] at hsv
      simp at hv
      cases hx : cs'[j - args.length]? with
      | none => rw [hx] at hsv; cases hsv
      | some c =>
        rw [hx] at hsv
        simp at hsv
        subst hsv
        rw [k1] at hv
        have hlt := (List.getElem?_eq_some_iff.1 hx).1
        exact .one (c2 _ v _ c (List.getElem?_eq_getElem (by omega)) hx (hvr _ v _ hv (List.getElem?_eq_getElem (by omega))))
  · subst h3
    obtain ⟨g2, q1, q2⟩ := after_call hs h2 (hsc.imp id fun h => h sv h1) h4 h5
    exact hK v w' ⟨g2, sv, h1, q1, q2⟩
def dvL (s : St) : List Operand → List DV → Prop
  | [], [] => True
  | x :: l, .one c :: r => s.ev x = .one (.d c) ∧ dvL s l r
  | x :: l, .agg cs :: r => s.ev x = .agg (cs.map .d) ∧ dvL s l r
  | _, _ => False
theorem dvL_rep (hs : Sim P T N w0 g s a w) : ∀ (l : List Operand) (r : List DV), dvL s l r → l.length = r.length ∧ ∀ (j : Nat) (v : Value) (d : DV), (l.map a.eval)[j]? = some v → r[j]? = some d → RepDV g.Rd w v d
  | [], [], _ => by simp
  | [], _ :: _, h => by cases h
  | _ :: _, [], h => by cases h
  | x :: l, .one c :: r, h => by
    obtain ⟨h1, h2⟩ := h
    obtain ⟨k1, k2⟩ := dvL_rep hs l r h2
    refine ⟨by simp [k1], fun j v d q1 q2 => ?_⟩
    cases j with
    | zero =>
      simp at q1 q2
      subst q1 q2
      have := hs.ev x; rw [h1] at this
      exact .one (this.one_inv.unD rfl)
    | succ j => exact k2 j v d (by simpa using q1) (by simpa using q2)
  | x :: l, .agg cs :: r, h => by
    obtain ⟨h1, h2⟩ := h
    obtain ⟨k1, k2⟩ := dvL_rep hs l r h2
    refine ⟨by simp [k1], fun j v d q1 q2 => ?_⟩
    cases j with
    | zero =>
      simp at q1 q2
      subst q1 q2
      have := hs.ev x; rw [h1] at this
      obtain ⟨vs, e, hsz, hr⟩ := this.agg_inv
      rw [e]
      refine .agg vs cs (by simpa using hsz) fun j v c p1 p2 => ?_
      have := hr j v (.d c) p1 (by rw [List.getElem?_map, p2]; rfl)
      cases this
      assumption
    | succ j => exact k2 j v d (by simpa using q1) (by simpa using q2)
/-- A call of a function that is an argument. -/
theorem ope_call_fn {y : Operand} {p : List DV → Option Cell} {xs : Array Operand} {ts : Array TypeId} {args : List DV} {r : Cell} (ho : o.op = .call { callee := .value y, args := xs, argTypes := ts }) (hy : s.ev y = .one (.fn p))
    (ha : dvL s xs.toList args) (hp : p args = some r) (hw : ∀ k n, r = .int k n → (Lit.int k n).wf = true) (hz : ∀ b, r = .str b → b.size ≤ maxLen) : OpE P T N w0 s o (.one (.d r)) := by
  intro g a w hs K Q hK
  obtain ⟨k1, k2⟩ := dvL_rep hs _ _ ha
  have hcl := hs.ev y
  rw [hy] at hcl
  obtain ⟨f, cap, hev, hen, hc⟩ : FnOK P g.Rd w (a.eval y) p := by
    have := hcl.one_inv
    generalize a.eval y = v at this
    cases this with
    | fn h => exact h
  have hrun : (execOp a.eval o).run P w = .ok (.enter f (xs.map a.eval ++ cap)) w := by
    simp only [execOp, ho, Sem.run_bind, resolve, hev, Deferred.ofValue, Sem.run_pure, Result.andThen_ok, invoke]
    have := hen (#[] ++ xs.map a.eval ++ cap) w
    simpa using this
  unfold Oper.wp
  rw [hrun, Oper.upon_enter]
  refine (hc g.Rd w (Fut.refl _ _) (fun b o h => (hs.gi.rd b o h).1) args (xs.map a.eval) r hp (by simpa using k1) fun j v d q1 q2 => k2 j v d (by simpa using q1) q2).mono fun e w' ⟨u, hu, he, hB⟩ => ?_
  subst he
  have hk : Keep (Mut g.tp w.heap.size) w w' := Keep.below hB fun k hk => .inr hk
  have hext : Ext T g g w w' := ⟨rfl, rfl, rfl, rfl, fun _ _ h => h, fun _ _ h => .inl h, hk, fun tb htb => by
    obtain ⟨a1, a2⟩ := hs.gi.tape tb htb
    exact a2.keep ⟨fun _ _ h => h, fun b o h => World.cell?_of_block (w := w) (a := ⟨b, o, none⟩) (hB.block b (hs.gi.rd b o h).1)⟩ (hB.block tb a1)⟩
  refine hK u w' ⟨g, _, rfl, hext, .one (.d ?_)⟩
  cases r with
  | bool b => simp [Cell.sval] at hu; subst hu; exact .bool b
  | int k n => simp [Cell.sval] at hu; subst hu; exact .int k n (hw k n rfl)
  | str b => simp [Cell.sval] at hu; subst hu; exact .str b (hz b rfl)
  | list xs => simp [Cell.sval] at hu
end
end Go.Proofs.Ytbnmcdnkeipdhaa
