/- Texts of the library, put together. -/
import Derived.Test.YtcbppkfnfbdkhaaLb1
import Derived.Still
import Derived.Laws.StructEq
import Derived.Deep.Slices
import Derived.Deep.Fields
import Derived.ChangeSame
import Derived.OpenShut
import Derived.ShutString
/- Contracts on ideal values; calls. -/
set_option linter.all false
namespace Go.Proofs.Ytcbppkfnfbdkhaa
open Go.RowKit Go.Shelf

structure ExtC (T : TypeId) (g g' : Gh) (w w' : World) : Prop where
  rd : ∀ b o, g.Rd b o → g'.Rd b o
  new : ∀ b o, g'.Rd b o → g.Rd b o ∨ (w.heap.size ≤ b ∧ b < w'.heap.size)
  keep : Keep (Mut g.tp w.heap.size) w w'
  tape : ∀ tb, g.tp = some tb → TapeR T g.tl g'.Rd w' tb
def Gh.org (g : Gh) (w : World) : Org := ⟨w, g.Rd, g.tp, g.tl, fun _ => False⟩
theorem own_org {g : Gh} {w : World} {k : Nat} (h : (g.org w).own k) : w.heap.size ≤ k := h.resolve_right id
theorem mut_org {g : Gh} {w w' : World} (h : Keep (MutO (g.org w)) w w') : Keep (Mut g.tp w.heap.size) w w' := h.mono fun k hk => hk.imp id own_org
def IC (P : Program) (T : TypeId) (f : FuncId) (args : List SV) (post : SV → Prop) : Prop :=
  Enters P f ∧ ∀ (g : Gh) (w : World) (vals : Array Value), (∀ r, g.β r = none) → GI T (g.org w) g [] w → vals.size = args.length → (∀ (j : Nat) (v : Value) (sv : SV), vals[j]? = some v → args[j]? = some sv → RepSV P g w v sv) →
    Calls P f vals w fun e w' => ∃ v sv g', post sv ∧ sv.pl = true ∧ e = .returned v ∧ RepSV P g' w' v sv ∧ ExtC T g g' w w'
theorem IC.mono {P : Program} {T : TypeId} {f : FuncId} {args : List SV} {post post' : SV → Prop} (h : IC P T f args post) (hp : ∀ v, post v → post' v) : IC P T f args post' :=
  ⟨h.1, fun g w vals h1 h2 h3 h4 => (h.2 g w vals h1 h2 h3 h4).mono fun e w' ⟨v, sv, g', a1, a2, a3, a4, a5⟩ => ⟨v, sv, g', hp sv a1, a2, a3, a4, a5⟩⟩

inductive RzC (H : List (Nat × VH)) : CV → CV → Prop where
  | d (x : Cell) : RzC H (.d x) (.d x)
  | nil : RzC H .nil (.d (.list []))
  | sl {r n sz : Nat} {e : TypeId} {rows : List (List Cell)} (h : getH H r = .arr e sz rows) (hn : n = rows.length) : RzC H (.sl r n sz) (.d (.list rows))
inductive RzL (H : List (Nat × VH)) : List CV → List CV → Prop where
  | nil : RzL H [] []
  | cons {c c' : CV} {l l' : List CV} (h : RzC H c c') (hl : RzL H l l') : RzL H (c :: l) (c' :: l')
  | same (l : List Cell) : RzL H (l.map .d) (l.map .d)
inductive RzS (H : List (Nat × VH)) : SV → SV → Prop where
  | one {c c' : CV} (h : RzC H c c') : RzS H (.one c) (.one c')
  | agg {l l' : List CV} (h : RzL H l l') : RzS H (.agg l) (.agg l')
inductive RzSL (H : List (Nat × VH)) : List SV → List SV → Prop where
  | nil : RzSL H [] []
  | cons {c c' : SV} {l l' : List SV} (h : RzS H c c') (hl : RzSL H l l') : RzSL H (c :: l) (c' :: l')
inductive ResV (τ : List TyI) (s : St) : ResultVar → SV → Prop where
  | tmp (t : Tmp) : ResV τ s (.tmp t) (getF s.F t)
  | cell1 {t : Tmp} {ty t' : TypeId} {r off : Nat} {cs : List CV} {c : CV} (h : getF s.F t = .one (.ref r off)) (hH : getH s.H r = .blk t' cs) (ht : (tyAt τ ty).isOne = true) (hc : cs[off]? = some c) : ResV τ s (.cell t ty) (.one c)
  | celln {t : Tmp} {ty t' : TypeId} {r off n : Nat} {cs : List CV} {fs zs} (h : getF s.F t = .one (.ref r off)) (hH : getH s.H r = .blk t' cs) (ht : tyAt τ ty = .st n fs zs) (hc : off + n ≤ cs.length) : ResV τ s (.cell t ty) (.agg ((cs.drop off).take n))
inductive ResL (τ : List TyI) (s : St) : List ResultVar → List SV → Prop where
  | nil : ResL τ s [] []
  | cons {r : ResultVar} {v : SV} {l : List ResultVar} {l' : List SV} (h : ResV τ s r v) (hl : ResL τ s l l') : ResL τ s (r :: l) (v :: l')
inductive Res (H : List (Nat × VH)) : List SV → SV → Prop where
  | one {v v' : SV} (h : RzS H v v') : Res H [v] v'
  | two {v1 v2 : SV} {l l' : List SV} (h : RzSL H (v1 :: v2 :: l) l') : Res H (v1 :: v2 :: l) (.tup l')
  | none : Res H [] (.tup [])
def RetQ (τ : List TyI) (fn : Func) (post : SV → Prop) (e : Exit) (s : St) : Prop :=
  (e = .ret ∨ e = .normal) ∧ ∃ raw sv, ResL τ s fn.results.toList raw ∧ Res s.H raw sv ∧ post sv

theorem plL_d (l : List Cell) : plL (l.map .d) = true := by
  induction l with
  | nil => rfl
  | cons c l ih => simp [plL, CV.pl, ih]
theorem RzL.pl {H : List (Nat × VH)} {l l' : List CV} (h : RzL H l l') : plL l' = true := by
  induction h with
  | nil => rfl
  | cons h hl ih => simp only [plL, ih, Bool.and_true]; cases h <;> rfl
  | same l => exact plL_d l
theorem RzS.pl {H : List (Nat × VH)} {c c' : SV} (h : RzS H c c') : c'.pl = true := by
  cases h with
  | one h => cases h <;> rfl
  | agg h => exact h.pl
theorem RzSL.pl {H : List (Nat × VH)} {l l' : List SV} (h : RzSL H l l') : SV.plS l' = true := by
  induction h with
  | nil => rfl
  | cons h hl ih => simp only [SV.plS, ih, h.pl, Bool.and_true]
theorem Res.pl {H : List (Nat × VH)} {l : List SV} {c : SV} (h : Res H l c) : c.pl = true := by
  cases h with
  | one h => exact h.pl
  | two h => exact h.pl
  | none => rfl
section
variable {P : Program} {T : TypeId} {N : Nat} {w0 : Org} {g g' : Gh} {s s' : St} {a : Act} {w w' : World} {τ : List TyI}
def allRd (g : Gh) (H : List (Nat × VH)) (w : World) : Nat → Nat → Prop := fun b o => g.Rd b o ∨ ((∃ r, live H r ∧ g.β r = some b) ∧ (w.cell? ⟨b, o, none⟩).isSome = true)
def Gh.all (g : Gh) (H : List (Nat × VH)) (w : World) (tp : Option Nat) (tl : Option Addr × Nat × Nat × (Nat → Int)) : Gh := ⟨fun _ => none, g.κ, allRd g H w, tp, tl, fun _ => none⟩
theorem Sim.all_fut (hs : Sim P T N w0 g s a w) : Fut g.Rd (allRd g s.H w) w w := ⟨fun _ _ h => .inl h, fun _ _ _ => rfl⟩
theorem Sim.all_rd (hs : Sim P T N w0 g s a w) {b o : Nat} (h : allRd g s.H w b o) : b < w.heap.size ∧ g.tp ≠ some b := by
  rcases h with h | ⟨⟨r, hl, hb⟩, _⟩
  · exact ⟨(hs.gi.rd b o h).1, (hs.gi.rd b o h).2.1⟩
  · exact ⟨(hs.gi.bd r b hl hb).2.1, (hs.gi.bd r b hl hb).2.2⟩
variable {tp : Option Nat} {tl : Option Addr × Nat × Nat × (Nat → Int)}
theorem arr_cell {r n sz : Nat} {e : TypeId} {rows : List (List Cell)} (hs : Sim P T N w0 g s a w) (h : getH s.H r = .arr e sz rows) (hn : n = rows.length) {v : Value} (hv : RepCV P g w v (.sl r n sz)) : RepCell (allRd g s.H w) w v (.list rows) := by
  subst hn
  have hh := hs.hH r; rw [h] at hh
  obtain ⟨g0, _⟩ := hh
  have hl : live s.H r := by unfold live; rw [h]; rfl
  rcases arr_vals hs h hv with ⟨rfl, rfl, _⟩ | ⟨b, vals, hb, rfl, hbl, h1, h2, h3, h4⟩
  · exact .list none 0 [] 0 (fun _ _ => undef) (fun _ => rfl) (Nat.le_refl _) (by unfold maxLen; omega) (by simp) (by simp) (by simp)
  · refine .list (some ⟨b, 0, none⟩) (g.κ r) rows sz (fun i j => vals.getD (i * sz + j) undef) (fun h => by cases h) h2 h3 g0 (fun i j hi hj => ?_) (fun i j row x hi hj => ?_)
    · have hlt : i * sz + j < vals.size := by
        have : (i + 1) * sz ≤ g.κ r * sz := Nat.mul_le_mul_right _ (by omega)
        rw [Nat.add_mul] at this
        omega
      have hc : w.cell? ⟨b, 0 + (i * sz + j), none⟩ = some (vals.getD (i * sz + j) undef) := by
        rw [Nat.zero_add, hbl.cell]; simp [Array.getD, hlt]
      exact ⟨b, 0, rfl, .inr ⟨⟨r, hl, hb⟩, by rw [hc]; rfl⟩, hc⟩
    · obtain ⟨u, hu, hr⟩ := h4 i j row x hi hj
      have : vals.getD (i * sz + j) undef = u := by rw [Array.getD_eq_getD_getElem?, hu]; rfl
      rw [this]
      exact hr.mono (fun _ _ h => .inl h) (fun _ _ _ => rfl)
theorem RzC.rep {c c' : CV} (h : RzC s.H c c') (hs : Sim P T N w0 g s a w) {v : Value} (hv : RepCV P g w v c) : RepCV P (g.all s.H w tp tl) w v c' := by
  cases h with
  | d x => cases hv; rename_i h; exact .d (h.mono hs.all_fut.rd hs.all_fut.cell)
  | nil => exact .d ((hv.unD rfl).mono hs.all_fut.rd hs.all_fut.cell)
  | sl h hn => exact .d (arr_cell hs h hn hv)
theorem RzL.rep {l l' : List CV} (h : RzL s.H l l') (hs : Sim P T N w0 g s a w) : l.length = l'.length ∧ ∀ (j : Nat) (v : Value) (c : CV) (c' : CV), l[j]? = some c → l'[j]? = some c' → RepCV P g w v c → RepCV P (g.all s.H w tp tl) w v c' := by
  induction h with
  | nil => simp
  | cons h hl ih =>
    refine ⟨by simp [ih.1], fun j v c c' h1 h2 hv => ?_⟩
    cases j with
    | zero => simp at h1 h2; subst h1 h2; exact h.rep hs hv
    | succ j => exact ih.2 j v c c' (by simpa using h1) (by simpa using h2) hv
  | same l =>
    refine ⟨rfl, fun j v c c' h1 h2 hv => ?_⟩
    rw [h1] at h2
    injection h2 with h2
    subst h2
    rw [List.getElem?_map] at h1
    cases hx : l[j]? with
    | none => rw [hx] at h1; cases h1
    | some x =>
      rw [hx] at h1
      simp at h1
      subst h1
      exact (RzC.d x).rep hs hv
theorem RzS.rep {c c' : SV} (h : RzS s.H c c') (hs : Sim P T N w0 g s a w) {v : Value} (hv : RepSV P g w v c) : RepSV P (g.all s.H w tp tl) w v c' := by
  cases h with
  | one h => exact .one (h.rep hs hv.one_inv)
  | agg h =>
    obtain ⟨vs, rfl, hsz, hr⟩ := hv.agg_inv
    obtain ⟨k1, k2⟩ := h.rep hs
    refine .agg vs _ (by omega) fun j v c' h1 h2 => ?_
    have hj := (List.getElem?_eq_some_iff.1 h2).1
    exact k2 j v _ c' (List.getElem?_eq_getElem (by omega)) h2 (hr j v _ h1 (List.getElem?_eq_getElem (by omega)))
theorem RzSL.rep {l l' : List SV} (h : RzSL s.H l l') (hs : Sim P T N w0 g s a w) : l.length = l'.length ∧ ∀ (j : Nat) (v : Value) (c : SV) (c' : SV), l[j]? = some c → l'[j]? = some c' → RepSV P g w v c → RepSV P (g.all s.H w tp tl) w v c' := by
  induction h with
  | nil => simp
  | cons h hl ih =>
    refine ⟨by simp [ih.1], fun j v c c' h1 h2 hv => ?_⟩
    cases j with
    | zero => simp at h1 h2; subst h1 h2; exact h.rep hs hv
    | succ j => exact ih.2 j v c c' (by simpa using h1) (by simpa using h2) hv
theorem load_blk1 (hs : Sim P T N w0 g s a w) {t ty t' r off : Nat} {cs : List CV} {c : CV} (h : getF s.F t = .one (.ref r off)) (hH : getH s.H r = .blk t' cs) (ht : oneT P ty = true) (hc : cs[off]? = some c) :
    ∃ v, (do loadVar ty (← asAddr (a.tmps.getD t undef)) : Sem Value).run P w = .ok v w ∧ RepSV P g w v (.one c) := by
  have h1 := hs.hF t; rw [h] at h1
  obtain ⟨b, hb, e⟩ := h1.one_inv.ref_inv
  have hh := hs.hH r; rw [hH] at hh
  obtain ⟨b', vals, hb', hbl, hsz, hv⟩ := hh
  obtain rfl : b = b' := by rw [hb] at hb'; injection hb'
  have hlt := (List.getElem?_eq_some_iff.1 hc).1
  have hc2 := hbl.cell off
  rw [Array.getElem?_eq_getElem (by omega)] at hc2
  exact ⟨vals[off]'(by omega), by simp [e, asAddr, run_load_one ht hc2], .one (hv off _ c (Array.getElem?_eq_getElem (by omega)) hc)⟩
theorem load_blkn (hs : Sim P T N w0 g s a w) {t ty t' r off n : Nat} {cs : List CV} (h : getF s.F t = .one (.ref r off)) (hH : getH s.H r = .blk t' cs) (ht : aggT P ty n = true) (hc : off + n ≤ cs.length) :
    ∃ v, (do loadVar ty (← asAddr (a.tmps.getD t undef)) : Sem Value).run P w = .ok v w ∧ RepSV P g w v (.agg ((cs.drop off).take n)) := by
  have h1 := hs.hF t; rw [h] at h1
  obtain ⟨b, hb, e⟩ := h1.one_inv.ref_inv
  have hh := hs.hH r; rw [hH] at hh
  obtain ⟨b', vals, hb', hbl, hsz, hv⟩ := hh
  obtain rfl : b = b' := by rw [hb] at hb'; injection hb'
  have hl := run_load_agg (P := P) (w := w) ht (b := b) (o := off) (f := fun j => vals.getD (off + j) undef) (fun j hj => by
    rw [hbl.cell (off + j)]; simp [Array.getD, show off + j < vals.size by omega])
  refine ⟨.agg ((List.range n).map fun j => vals.getD (off + j) undef).toArray, ?_, .agg _ _ (by simp; omega) fun j v c hv' hc' => ?_⟩
  · rw [e]
    simp only [asAddr, Sem.run_bind, Sem.run_pure, Result.andThen_ok]
    exact hl
  · have hj : j < n := by have := (List.getElem?_eq_some_iff.1 hc').1; simp at this; omega
    rw [List.getElem?_take_of_lt hj, List.getElem?_drop] at hc'
    simp [hj, show off + j < vals.size by omega] at hv'
    rw [← hv']
    exact hv (off + j) _ c (Array.getElem?_eq_getElem (by omega)) hc'
def resF (a : Act) : ResultVar → Sem Value
  | .tmp t => pure (a.tmps.getD t undef)
  | .cell b t => do loadVar t (← asAddr (a.tmps.getD b undef))
theorem ResL.run (hτ : tabB P 0 τ = true) (hs : Sim P T N w0 g s a w) {l : List ResultVar} {raw : List SV} (h : ResL τ s l raw) :
    ∃ vs : List Value, (l.mapM (resF a)).run P w = .ok vs w ∧ vs.length = raw.length ∧ ∀ (j : Nat) (v : Value) (sv : SV), vs[j]? = some v → raw[j]? = some sv → RepSV P g w v sv := by
  induction h with
  | nil => exact ⟨[], by simp, rfl, by simp⟩
  | @cons r v l l' h hl ih =>
    obtain ⟨vs, h1, h2, h3⟩ := ih
    have key : ∃ u, (resF a r).run P w = .ok u w ∧ RepSV P g w u v := by
      cases h with
      | tmp t => exact ⟨a.tmps.getD t undef, rfl, hs.hF t⟩
      | cell1 h hH ht hc => exact load_blk1 hs h hH (tab_one hτ ht) hc
      | celln h hH ht hc => exact load_blkn hs h hH (tab_agg hτ ht) hc
    obtain ⟨u, hu, hr⟩ := key
    refine ⟨u :: vs, ?_, by simp [h2], fun j v' sv' hv hsv => ?_⟩
    · rw [List.mapM_cons]
      simp only [Sem.run_bind, hu, Result.andThen_ok, h1, Sem.run_pure]
    · cases j with
      | zero => simp at hv hsv; subst hv hsv; exact hr
      | succ j => exact h3 j v' sv' (by simpa using hv) (by simpa using hsv)
theorem results_run (hτ : tabB P 0 τ = true) (hs : Sim P T N w0 g s a w) {fn : Func} {raw : List SV} {sv : SV} (h : ResL τ s fn.results.toList raw) (hr : Res s.H raw sv) : ∃ v, (results fn a.tmps).run P w = .ok v w ∧ RepSV P (g.all s.H w tp tl) w v sv := by
  obtain ⟨vs, h1, h2, h3⟩ := h.run hτ hs
  have hm : (results fn a.tmps).run P w = .ok (if h : vs.toArray.size = 1 then vs.toArray[0] else .tuple vs.toArray) w := by
    unfold results
    rw [Array.mapM_eq_mapM_toList]
    simp only [Sem.run_bind, map_eq_pure_bind, Sem.run_pure]
    change (((Sem.run P (fn.results.toList.mapM (resF a)) w).andThen _).andThen _) = _
    rw [h1]
    rfl
  refine ⟨_, hm, ?_⟩
  cases hr with
  | one h =>
    obtain ⟨u, rfl⟩ : ∃ u, vs = [u] := by
      match vs, h2 with
      | [u], _ => exact ⟨u, rfl⟩
    exact h.rep hs (h3 0 u _ rfl rfl)
  | @two v1 v2 l l' hz =>
    have hlen : vs.toArray.size ≠ 1 := by simp [h2]
    rw [dif_neg hlen]
    obtain ⟨k1, k2⟩ := hz.rep (tp := tp) (tl := tl) hs
    refine .tup _ _ (by simp; omega) fun j v c' hv hc => ?_
    have hj := (List.getElem?_eq_some_iff.1 hc).1
    have hraw : (v1 :: v2 :: l)[j]? = some ((v1 :: v2 :: l)[j]'(by omega)) := List.getElem?_eq_getElem (by omega)
    exact k2 j v _ c' hraw hc (h3 j v _ (by simpa using hv) hraw)
  | none =>
    obtain rfl : vs = [] := List.eq_nil_of_length_eq_zero h2
    exact .tup _ _ rfl (by simp)

def argF : Nat → List SV → List (Nat × SV)
  | _, [] => []
  | k, v :: l => (k, v) :: argF (k + 1) l
theorem argF_get (k : Nat) (l : List SV) (x : Nat) : getF (argF k l) x = if k ≤ x then (l[x - k]?).getD .u else .u := by
  induction l generalizing k with
  | nil => simp [argF, getF]
  | cons v l ih =>
    simp only [argF, getF, beq_eq]
    by_cases e : k = x
    · subst e; simp
    · simp only [e, decide_false, cond_false]
      rw [ih]
      by_cases h : k ≤ x
      · rw [if_pos (by omega), if_pos h, show x - k = (x - (k + 1)) + 1 by omega]
        simp
      · rw [if_neg (by omega), if_neg h]
theorem ic_of {f : FuncId} {fn : Func} {c : Code} {args : List SV} {post : SV → Prop} (hτ : tabB P 0 τ = true) (hf : P.funcs[f]? = some fn) (hname : (fn.name == "runtime.NumGoroutine") = false) (hb : fn.body = some c) (hn : Nat.ble args.length fn.ntmps = true)
    (h : ∀ w0, iwp P T fn.ntmps w0 c (RetQ τ fn post) ⟨argF 0 args, []⟩) : IC P T f args post := by
  refine ⟨enters_of hf hname hb, fun g w vals hβ hgi hsz hrep => calls_of_wp hf hb ?_⟩
  have hle := Nat.le_of_ble_eq_true hn
  have hs : Sim P T fn.ntmps (g.org w) g ⟨argF 0 args, []⟩ { tmps := vals ++ Array.replicate (fn.ntmps - vals.size) undef, defers := [] } w := by
    refine ⟨hgi, rfl, by simp; omega, fun x => ?_, fun r => trivial⟩
    show RepSV P g w _ (getF (argF 0 args) x)
    rw [argF_get]
    simp only [Nat.zero_le, if_true, Nat.sub_zero]
    cases hx : args[x]? with
    | none => exact .u _
    | some sv =>
      have hlt := (List.getElem?_eq_some_iff.1 hx).1
      have hv : vals[x]? = some (vals[x]'(by omega)) := Array.getElem?_eq_getElem (by omega)
      have := hrep x _ sv hv hx
      simpa [Array.getElem_append, show x < vals.size by omega, show x < vals.size + (fn.ntmps - vals.size) by omega] using this
  refine wp_mono (h (g.org w) g _ w hs) fun e a' w' ⟨g', s', ⟨he, raw, sv, hr1, hr2, hp⟩, hs'⟩ => ?_
  obtain ⟨v, hrun, hrv⟩ := results_run (tp := g.tp) (tl := g.tl) hτ hs' hr1 hr2
  have hext : ExtC T g (g'.all s'.H w' g.tp g.tl) w w' := by
    refine ⟨fun b o h => .inl (hs'.gi.org.rd0 b o h), fun b o h => ?_, mut_org hs'.gi.keep, fun tb htb => ?_⟩
    · have hlt := (hs'.all_rd h).1
      rcases h with h | ⟨⟨r, hl, hb⟩, _⟩
      · rcases hs'.gi.org.new0 b o h with h | h
        · exact .inl h
        · exact .inr ⟨own_org h, hlt⟩
      · exact .inr ⟨own_org (hs'.gi.bd r b hl hb).1, hlt⟩
    · obtain ⟨e1, e2⟩ := hs'.gi.org.tp0 tb htb
      have := (hs'.gi.tape tb e1).2
      rw [e2] at this
      exact this.keep hs'.all_fut rfl
  rcases he with rfl | rfl
  · exact ⟨hs'.dn, v, hrun, v, sv, _, hp, hr2.pl, rfl, hrv, hext⟩
  · exact ⟨hs'.dn, v, hrun, v, sv, _, hp, hr2.pl, rfl, hrv, hext⟩
end

def DV.sv : DV → SV
  | .one c => .one (.d c)
  | .agg cs => .agg (cs.map .d)
theorem RepDV.sv {P : Program} {g : Gh} {w : World} {v : Value} {d : DV} (h : RepDV g.Rd w v d) : RepSV P g w v d.sv := by
  cases h with
  | one h => exact .one (.d h)
  | agg vs cs hs h =>
    refine .agg vs _ (by simp [hs]) fun j v c h1 h2 => ?_
    rw [List.getElem?_map] at h2
    cases hx : cs[j]? with
    | none => rw [hx] at h2; cases h2
    | some x => rw [hx] at h2; simp at h2; subst h2; exact .d (h j v x h1 hx)
def FnSpec (P : Program) (T : TypeId) (f : FuncId) (caps : List CV) (p : List DV → Option Cell) : Prop :=
  ∀ (args : List DV) (r : Cell), p args = some r → (∃ u, r.sval = some u) ∧ IC P T f (args.map DV.sv ++ caps.map .one) (fun sv => sv = .one (.d r))
inductive PsC (P : Program) (T : TypeId) (H : List (Nat × VH)) : Bool → CV → CV → Prop where
  | d (pu : Bool) (x : Cell) : PsC P T H pu (.d x) (.d x)
  | nil (pu : Bool) : PsC P T H pu .nil (.d (.list []))
  | nn (pu : Bool) : PsC P T H pu .nil .nil
  | fn (pu : Bool) (p : List DV → Option Cell) : PsC P T H pu (.fn p) (.fn p)
  | tape (pu : Bool) : PsC P T H pu .tape .tape
  | u (pu : Bool) (c : CV) : PsC P T H pu c .u
  | sl {r n sz : Nat} {e : TypeId} {rows : List (List Cell)} (h : getH H r = .arr e sz rows) (hn : n = rows.length) : PsC P T H false (.sl r n sz) (.d (.list rows))
  | ref_ {r off : Nat} {t : TypeId} {cs cs' : List CV} (h : getH H r = .blk t cs) (hl : (cs.drop off).length = cs'.length) (hc : ∀ (j : Nat) (c c' : CV), (cs.drop off)[j]? = some c → cs'[j]? = some c' → PsC P T H false c c') : PsC P T H false (.ref r off) (.rp cs')
  | el {r i j sz : Nat} {e : TypeId} {rows : List (List Cell)} {row : List Cell} (h : getH H r = .arr e sz rows) (hi : rows[i]? = some row) : PsC P T H false (.el r i j sz) (.rp ((row.drop j).map .d))
  | rp_ {pu : Bool} {cs cs' : List CV} (hl : cs.length = cs'.length) (hc : ∀ (j : Nat) (c c' : CV), cs[j]? = some c → cs'[j]? = some c' → PsC P T H pu c c') : PsC P T H pu (.rp cs) (.rp cs')
  | clo_ {pu : Bool} {f : FuncId} {cs cs' : List CV} (hl : cs.length = cs'.length) (hc : ∀ (j : Nat) (c c' : CV), cs[j]? = some c → cs'[j]? = some c' → PsC P T H pu c c') : PsC P T H pu (.clo f cs) (.clo f cs')
  | cfn_ {pu : Bool} {f : FuncId} {cs cs' : List CV} {p : List DV → Option Cell} (hl : cs.length = cs'.length) (hc : ∀ (j : Nat) (c c' : CV), cs[j]? = some c → cs'[j]? = some c' → PsC P T H pu c c') (he : Enters P f) (hn : CV.ntL cs' = true) (hf : FnSpec P T f cs' p) : PsC P T H pu (.clo f cs) (.fn p)
inductive PsL (P : Program) (T : TypeId) (H : List (Nat × VH)) : Bool → List CV → List CV → Prop where
  | nil (pu : Bool) : PsL P T H pu [] []
  | cons {pu : Bool} {c c' : CV} {l l' : List CV} (h : PsC P T H pu c c') (hl : PsL P T H pu l l') : PsL P T H pu (c :: l) (c' :: l')
  | same (pu : Bool) (l : List Cell) : PsL P T H pu (l.map .d) (l.map .d)
section
variable {P : Program} {T : TypeId} {H : List (Nat × VH)} {pu : Bool}
theorem PsL.get {l l' : List CV} (h : PsL P T H pu l l') : l.length = l'.length ∧ ∀ (j : Nat) (c c' : CV), l[j]? = some c → l'[j]? = some c' → PsC P T H pu c c' := by
  induction h with
  | nil => simp
  | cons h hl ih =>
    refine ⟨by simp [ih.1], fun j c c' q1 q2 => ?_⟩
    cases j with
    | zero => simp at q1 q2; subst q1 q2; exact h
    | succ j => exact ih.2 j c c' (by simpa using q1) (by simpa using q2)
  | same l =>
    refine ⟨rfl, fun j c c' h1 h2 => ?_⟩
    rw [h1] at h2
    injection h2 with h2
    subst h2
    rw [List.getElem?_map] at h1
    cases hx : l[j]? with
    | none => rw [hx] at h1; cases h1
    | some x => rw [hx] at h1; simp at h1; subst h1; exact .d _ x
theorem PsC.ref {r off : Nat} {t : TypeId} {cs cs' : List CV} (h : getH H r = .blk t cs) (hl : PsL P T H false (cs.drop off) cs') : PsC P T H false (.ref r off) (.rp cs') := .ref_ h hl.get.1 hl.get.2
theorem PsC.rp {cs cs' : List CV} (h : PsL P T H pu cs cs') : PsC P T H pu (.rp cs) (.rp cs') := .rp_ h.get.1 h.get.2
theorem PsC.clo {f : FuncId} {cs cs' : List CV} (h : PsL P T H pu cs cs') : PsC P T H pu (.clo f cs) (.clo f cs') := .clo_ h.get.1 h.get.2
theorem PsC.cfn {f : FuncId} {cs cs' : List CV} {p : List DV → Option Cell} (h : PsL P T H pu cs cs') (he : Enters P f) (hn : CV.ntL cs' = true) (hf : FnSpec P T f cs' p) : PsC P T H pu (.clo f cs) (.fn p) := .cfn_ h.get.1 h.get.2 he hn hf
end
inductive PsS (P : Program) (T : TypeId) (H : List (Nat × VH)) : Bool → SV → SV → Prop where
  | one {pu : Bool} {c c' : CV} (h : PsC P T H pu c c') : PsS P T H pu (.one c) (.one c')
  | agg {pu : Bool} {l l' : List CV} (h : PsL P T H pu l l') : PsS P T H pu (.agg l) (.agg l')
inductive PsSL (P : Program) (T : TypeId) (s : St) : Bool → List Operand → List SV → Prop where
  | nil (pu : Bool) : PsSL P T s pu [] []
  | cons {pu : Bool} {x : Operand} {v : SV} {l : List Operand} {l' : List SV} (h : PsS P T s.H pu (s.ev x) v) (hl : PsSL P T s pu l l') : PsSL P T s pu (x :: l) (v :: l')

section
variable {P : Program} {T : TypeId} {N : Nat} {w0 : Org} {g g' : Gh} {s s' : St} {a : Act} {w w' : World} {o : Oper}
def psRd (g : Gh) (H : List (Nat × VH)) (w : World) : Bool → Nat → Nat → Prop
  | true => g.Rd
  | false => allRd g H w
def psG (g : Gh) (H : List (Nat × VH)) (w : World) (pu : Bool) : Gh := ⟨fun _ => none, g.κ, psRd g H w pu, g.tp, g.tl, fun _ => none⟩
theorem psRd_fut (hs : Sim P T N w0 g s a w) (pu : Bool) : Fut g.Rd (psRd g s.H w pu) w w := by
  cases pu
  · exact hs.all_fut
  · exact Fut.refl _ _
theorem fnspec_ok {f : FuncId} {cs : List CV} {p : List DV → Option Cell} {vs : Array Value} (g : Gh) (hβ : ∀ r, g.β r = none) (he : Enters P f) (hf : FnSpec P T f cs p) (hsz : vs.size = cs.length)
    (hr : ∀ (j : Nat) (v : Value) (c : CV), vs[j]? = some v → cs[j]? = some c → RepCV P g w v c) (htp : CV.ntL cs = true) : FnOK P g.Rd w (.func (.func f) #[] vs) p := by
  refine ⟨f, vs, rfl, he, fun Rd' w' hfut hlt args vals r hp hlen hrep => ?_⟩
  obtain ⟨⟨u, hu⟩, _, hic⟩ := hf args r hp
  have hgi : GI T (Gh.org ⟨fun _ => none, g.κ, Rd', none, g.tl, fun _ => none⟩ w') ⟨fun _ => none, g.κ, Rd', none, g.tl, fun _ => none⟩ [] w' :=
    ⟨fun r r' b h => (by cases h), fun r b h => (by cases h), fun b o h => ⟨hlt b o h, (by simp), fun r h => (by cases h)⟩, Keep.refl _ _, fun tb h => (by cases h), ⟨fun _ _ h => h, fun _ _ h => .inl h, fun tb h => (by cases h), fun tb h => (by cases h)⟩, fun c o h => (by cases h)⟩
  refine (hic ⟨fun _ => none, g.κ, Rd', none, g.tl, fun _ => none⟩ w' (vals ++ vs) (fun _ => rfl) hgi (by simp; omega) fun j v sv hv hsv => ?_).mono fun e w'' ⟨v, sv, g', h1, h2, h3, h4, h5⟩ => ?_
  · by_cases hj : j < vals.size
    · rw [Array.getElem?_append_left hj] at hv
      rw [List.getElem?_append_left (by simp; omega), List.getElem?_map] at hsv
      cases hx : args[j]? with
      | none => rw [hx] at hsv; cases hsv
      | some d => rw [hx] at hsv; simp at hsv; subst hsv; exact RepDV.sv (g := ⟨fun _ => none, g.κ, Rd', none, g.tl, fun _ => none⟩) (hrep j v d hv hx)
    · rw [Array.getElem?_append_right (by omega)] at hv
      rw [List.getElem?_append_right (by simp; omega), List.getElem?_map] at hsv
      simp only [List.length_map, ← hlen] at hsv
      cases hx : cs[j - vals.size]? with
      | none => rw [hx] at hsv; cases hsv
      | some c =>
        rw [hx] at hsv
        simp at hsv
        subst hsv
        exact .one ((hr _ v c hv hx).moveN (g' := ⟨fun _ => none, g.κ, Rd', none, g.tl, fun _ => none⟩) hfut (CV.ntL_get htp hx) fun r _ => ⟨(hβ r).symm, rfl⟩)
  · subst h1
    refine ⟨u, hu, ?_, ?_⟩
    · rw [h3]
      cases h4 with | one h => cases h with | d h => rw [h.sval hu]
    · exact h5.keep.to_below fun k hk => by
        rcases hk with hk | hk
        · cases hk
        · exact hk
theorem PsC.rep {pu : Bool} {c c' : CV} (h : PsC P T s.H pu c c') (hs : Sim P T N w0 g s a w) {v : Value} (hv : RepCV P g w v c) : RepCV P (psG g s.H w pu) w v c' := by
  induction h generalizing v with
  | d pu x => cases hv; rename_i h; exact .d (h.mono (psRd_fut hs pu).rd (psRd_fut hs pu).cell)
  | nil pu => exact .d ((hv.unD rfl).mono (psRd_fut hs pu).rd (psRd_fut hs pu).cell)
  | nn pu => cases hv; exact .nil
  | fn pu p => cases hv; rename_i h; exact .fn (h.mono (psRd_fut hs pu))
  | tape pu => cases hv; rename_i h; exact .tape h
  | u pu c => exact .u hv.one
  | sl h hn => exact .d (arr_cell hs h hn hv)
  | @ref_ r off t cs cs' h hl hc ih =>
    obtain ⟨b, hb, rfl⟩ := hv.ref_inv
    have hh := hs.hH r; rw [h] at hh
    obtain ⟨b', vals, hb', hbl, hsz, hr⟩ := hh
    obtain rfl : b = b' := by rw [hb] at hb'; injection hb'
    have hlv : live s.H r := by unfold live; rw [h]; rfl
    simp at hl
    refine .rp b off cs' (fun j => vals.getD (off + j) undef) (fun j c hj => ?_) (fun j c hj => ?_)
    · have hlt := (List.getElem?_eq_some_iff.1 hj).1
      have hc : w.cell? ⟨b, off + j, none⟩ = some (vals.getD (off + j) undef) := by
        rw [hbl.cell]; simp [Array.getD, show off + j < vals.size by omega]
      exact ⟨.inr ⟨⟨r, hlv, hb⟩, by rw [hc]; rfl⟩, hc⟩
    · have hlt := (List.getElem?_eq_some_iff.1 hj).1
      have hc : cs[off + j]? = some (cs[off + j]'(by omega)) := List.getElem?_eq_getElem (by omega)
      have hv : vals[off + j]? = some (vals.getD (off + j) undef) := by simp [Array.getD, show off + j < vals.size by omega]
      exact ih j _ c (by rw [List.getElem?_drop]; exact hc) hj (hr (off + j) _ _ hv hc)
  | @el r i j sz e rows row h hi =>
    obtain ⟨b, hb, rfl⟩ := hv.el_inv
    obtain ⟨vals, hbl, hrl, hsz, hr⟩ := arr_row hs h hi hb
    have hlv : live s.H r := by unfold live; rw [h]; rfl
    refine .rp b (i * sz + j) _ (fun k => vals.getD (i * sz + j + k) undef) (fun k c hk => ?_) (fun k c hk => ?_)
    · have hlt := (List.getElem?_eq_some_iff.1 hk).1
      simp at hlt
      have hc : w.cell? ⟨b, i * sz + j + k, none⟩ = some (vals.getD (i * sz + j + k) undef) := by
        rw [hbl.cell]; simp [Array.getD, show i * sz + j + k < vals.size by omega]
      exact ⟨.inr ⟨⟨r, hlv, hb⟩, by rw [hc]; rfl⟩, hc⟩
    · rw [List.getElem?_map, List.getElem?_drop] at hk
      cases hx : row[j + k]? with
      | none => rw [hx] at hk; cases hk
      | some x =>
        rw [hx] at hk
        simp at hk
        subst hk
        obtain ⟨u, hu, hru⟩ := hr (j + k) x hx
        have : vals.getD (i * sz + j + k) undef = u := by rw [Array.getD_eq_getD_getElem?, Nat.add_assoc, hu]; rfl
        rw [this]
        exact .d (hru.mono hs.all_fut.rd hs.all_fut.cell)
  | @rp_ pu cs cs' hl hc ih =>
    obtain ⟨b, o', vals, rfl, h1, h2⟩ := hv.rp_inv
    refine .rp b o' _ vals (fun j c hj => ?_) (fun j c hj => ?_)
    · have hlt := (List.getElem?_eq_some_iff.1 hj).1
      obtain ⟨q1, q2⟩ := h1 j _ (List.getElem?_eq_getElem (by omega))
      exact ⟨(psRd_fut hs pu).rd _ _ q1, q2⟩
    · have hlt := (List.getElem?_eq_some_iff.1 hj).1
      exact ih j _ c (List.getElem?_eq_getElem (by omega)) hj (h2 j _ (List.getElem?_eq_getElem (by omega)))
  | @clo_ pu f cs cs' hl hc ih =>
    cases hv with
    | clo f vs cs hs' hr =>
      refine .clo f vs _ (by omega) fun j v c h1 h2 => ?_
      have hlt := (List.getElem?_eq_some_iff.1 h2).1
      exact ih j _ c (List.getElem?_eq_getElem (by omega)) h2 (hr j v _ h1 (List.getElem?_eq_getElem (by omega)))
  | @cfn_ pu f cs cs' p hl hc he hn hf ih =>
    cases hv with
    | clo f vs cs hs' hr =>
      refine .fn (fnspec_ok (psG g s.H w pu) (fun _ => rfl) he hf (by omega) (fun j v c h1 h2 => ?_) hn)
      have hlt := (List.getElem?_eq_some_iff.1 h2).1
      exact ih j _ c (List.getElem?_eq_getElem (by omega)) h2 (hr j v _ h1 (List.getElem?_eq_getElem (by omega)))
theorem PsL.rep {pu : Bool} {l l' : List CV} (h : PsL P T s.H pu l l') (hs : Sim P T N w0 g s a w) : l.length = l'.length ∧ ∀ (j : Nat) (v : Value) (c : CV) (c' : CV), l[j]? = some c → l'[j]? = some c' → RepCV P g w v c → RepCV P (psG g s.H w pu) w v c' :=
  ⟨h.get.1, fun j v c c' h1 h2 hv => (h.get.2 j c c' h1 h2).rep hs hv⟩
theorem PsS.rep {pu : Bool} {c c' : SV} (h : PsS P T s.H pu c c') (hs : Sim P T N w0 g s a w) {v : Value} (hv : RepSV P g w v c) : RepSV P (psG g s.H w pu) w v c' := by
  cases h with
  | one h => exact .one (h.rep hs hv.one_inv)
  | agg h =>
    obtain ⟨vs, rfl, hsz, hr⟩ := hv.agg_inv
    obtain ⟨k1, k2⟩ := h.rep hs
    refine .agg vs _ (by omega) fun j v c' h1 h2 => ?_
    have hj := (List.getElem?_eq_some_iff.1 h2).1
    exact k2 j v _ c' (List.getElem?_eq_getElem (by omega)) h2 (hr j v _ h1 (List.getElem?_eq_getElem (by omega)))
theorem PsSL.rep {pu : Bool} {l : List Operand} {l' : List SV} (h : PsSL P T s pu l l') (hs : Sim P T N w0 g s a w) : l.length = l'.length ∧ ∀ (j : Nat) (v : Value) (c' : SV), (l.map a.eval)[j]? = some v → l'[j]? = some c' → RepSV P (psG g s.H w pu) w v c' := by
  induction h with
  | nil => simp
  | @cons x v l l' h hl ih =>
    refine ⟨by simp [ih.1], fun j v' c' h1 h2 => ?_⟩
    cases j with
    | zero => simp at h1 h2; subst h1 h2; exact h.rep hs (hs.ev x)
    | succ j => exact ih.2 j v' c' (by simpa using h1) (by simpa using h2)
theorem ps_gi (hs : Sim P T N w0 g s a w) (pu : Bool) : GI T ((psG g s.H w pu).org w) (psG g s.H w pu) [] w := by
  refine ⟨fun r r' b h => (by cases h), fun r b h => (by cases h), fun b o h => ?_, Keep.refl _ _, fun tb htb => ?_, ⟨fun _ _ h => h, fun _ _ h => .inl h, fun tb h => ⟨h, rfl⟩, fun tb h => .inl h⟩, fun c o h => (by cases h)⟩
  · have : b < w.heap.size ∧ g.tp ≠ some b := by
      cases pu
      · exact hs.all_rd h
      · exact ⟨(hs.gi.rd b o h).1, (hs.gi.rd b o h).2.1⟩
    exact ⟨this.1, this.2, fun r h => (by cases h)⟩
  · obtain ⟨a1, a2⟩ := hs.gi.tape tb htb
    exact ⟨a1, a2.keep (psRd_fut hs pu) rfl⟩
theorem after_call (hs : Sim P T N w0 g s a w) {pu : Bool} {v : Value} {sv : SV} (hp : sv.pl = true) (hsc : pu = true ∨ sv.sc = true) (hr : RepSV P g' w' v sv) (he : ExtC T (psG g s.H w pu) g' w w') :
    ∃ g2, Ext T g g2 w w' ∧ RepSV P g2 w' v sv := by
  have hkc : ∀ b o, g.Rd b o → w'.cell? ⟨b, o, none⟩ = w.cell? ⟨b, o, none⟩ := fun b o hb => he.keep.cell (p := ⟨b, o, none⟩) fun hm => by
    obtain ⟨h1, h2, _⟩ := hs.gi.rd b o hb
    rcases hm with hm | hm
    · exact h2 hm
    · simp at hm; omega
  refine ⟨⟨g.β, g.κ, fun b o => g.Rd b o ∨ (g'.Rd b o ∧ w.heap.size ≤ b ∧ b < w'.heap.size), g.tp, g.tl, g.ex⟩, ⟨rfl, rfl, rfl, rfl, fun _ _ h => .inl h, fun b o h => h.imp id (fun h => h.2), he.keep, fun tb htb => ?_, rfl⟩, ?_⟩
  · obtain ⟨⟨k, h1, h2⟩, h3, _⟩ := he.tape tb htb
    obtain ⟨_, _, h4⟩ := (hs.gi.tape tb htb).2
    refine ⟨⟨k, h1, h2⟩, h3, fun i hi => ?_⟩
    obtain ⟨b, o, e, q1, q2⟩ := h4 i hi
    exact ⟨b, o, e, .inl q1, (hkc b _ q1).trans q2⟩
  · rcases hsc with rfl | hsc
    · refine hr.plain hp ⟨fun b o h => ?_, fun _ _ _ => rfl⟩
      rcases he.new b o h with h' | h'
      · exact .inl h'
      · exact .inr ⟨h, h'⟩
    · exact hr.scal hsc
theorem opq_call {f : FuncId} {xs : Array Operand} {ts : Array TypeId} {args : List SV} {post : SV → Prop} {pu : Bool} (ho : o.op = .call { callee := .value (.func f), args := xs, argTypes := ts }) (hic : IC P T f args post)
    (ha : PsSL P T s pu xs.toList args) (hsc : pu = true ∨ ∀ sv, post sv → sv.sc = true) : OpQ P T N w0 s o post := by
  intro g a w hs K Q hK
  obtain ⟨k1, k2⟩ := ha.rep hs
  have hrun : (execOp a.eval o).run P w = .ok (.enter f (xs.map a.eval)) w := by
    simp only [execOp, ho, Sem.run_bind, resolve, Act.eval, Deferred.ofValue, Sem.run_pure, Result.andThen_ok, invoke]
    have := hic.1 (#[] ++ xs.map a.eval ++ #[]) w
    simpa using this
  unfold Oper.wp
  rw [hrun, Oper.upon_enter]
  refine (hic.2 (psG g s.H w pu) w (xs.map a.eval) (fun _ => rfl) (ps_gi hs pu) (by simpa using k1) fun j v sv hv hsv => k2 j v sv (by simpa using hv) hsv).mono fun e w' ⟨v, sv, g', h1, h2, h3, h4, h5⟩ => ?_
  subst h3
  obtain ⟨g2, q1, q2⟩ := after_call hs h2 (hsc.imp id fun h => h sv h1) h4 h5
  exact hK v w' ⟨g2, sv, h1, q1, q2⟩
def dvL (s : St) : List Operand → List DV → Prop
  | [], [] => True
  | x :: l, .one c :: r => s.ev x = .one (.d c) ∧ dvL s l r
  | x :: l, .agg cs :: r => s.ev x = .agg (cs.map .d) ∧ dvL s l r
  | _, _ => False
theorem dvL_rep (hs : Sim P T N w0 g s a w) : ∀ (l : List Operand) (r : List DV), dvL s l r → l.length = r.length ∧ ∀ (j : Nat) (v : Value) (d : DV), (l.map a.eval)[j]? = some v → r[j]? = some d → RepDV g.Rd w v d
  | [], [], _ => by simp
  | [], _ :: _, h => by cases h
  | _ :: _, [], h => by cases h
  | x :: l, .one c :: r, h => by
    obtain ⟨h1, h2⟩ := h
    obtain ⟨k1, k2⟩ := dvL_rep hs l r h2
    refine ⟨by simp [k1], fun j v d q1 q2 => ?_⟩
    cases j with
    | zero =>
      simp at q1 q2
      subst q1 q2
      have := hs.ev x; rw [h1] at this
      exact .one (this.one_inv.unD rfl)
    | succ j => exact k2 j v d (by simpa using q1) (by simpa using q2)
  | x :: l, .agg cs :: r, h => by
    obtain ⟨h1, h2⟩ := h
    obtain ⟨k1, k2⟩ := dvL_rep hs l r h2
    refine ⟨by simp [k1], fun j v d q1 q2 => ?_⟩
    cases j with
    | zero =>
      simp at q1 q2
      subst q1 q2
      have := hs.ev x; rw [h1] at this
      obtain ⟨vs, e, hsz, hr⟩ := this.agg_inv
      rw [e]
      refine .agg vs cs (by simpa using hsz) fun j v c p1 p2 => ?_
      have := hr j v (.d c) p1 (by rw [List.getElem?_map, p2]; rfl)
      cases this
      assumption
    | succ j => exact k2 j v d (by simpa using q1) (by simpa using q2)
theorem ope_call_fn {y : Operand} {p : List DV → Option Cell} {xs : Array Operand} {ts : Array TypeId} {args : List DV} {r : Cell} (ho : o.op = .call { callee := .value y, args := xs, argTypes := ts }) (hy : s.ev y = .one (.fn p))
    (ha : dvL s xs.toList args) (hp : p args = some r) (hw : ∀ k n, r = .int k n → (Lit.int k n).wf = true) (hz : ∀ b, r = .str b → b.size ≤ maxLen) : OpE P T N w0 s o (.one (.d r)) := by
  intro g a w hs K Q hK
  obtain ⟨k1, k2⟩ := dvL_rep hs _ _ ha
  have hcl := hs.ev y
  rw [hy] at hcl
  obtain ⟨f, cap, hev, hen, hc⟩ : FnOK P g.Rd w (a.eval y) p := by
    have := hcl.one_inv
    generalize a.eval y = v at this
    cases this with
    | fn h => exact h
  have hrun : (execOp a.eval o).run P w = .ok (.enter f (xs.map a.eval ++ cap)) w := by
    simp only [execOp, ho, Sem.run_bind, resolve, hev, Deferred.ofValue, Sem.run_pure, Result.andThen_ok, invoke]
    have := hen (#[] ++ xs.map a.eval ++ cap) w
    simpa using this
  unfold Oper.wp
  rw [hrun, Oper.upon_enter]
  refine (hc g.Rd w (Fut.refl _ _) (fun b o h => (hs.gi.rd b o h).1) args (xs.map a.eval) r hp (by simpa using k1) fun j v d q1 q2 => k2 j v d (by simpa using q1) q2).mono fun e w' ⟨u, hu, he, hB⟩ => ?_
  subst he
  have hk : Keep (Mut g.tp w.heap.size) w w' := Keep.below hB fun k hk => .inr hk
  have hext : Ext T g g w w' := ⟨rfl, rfl, rfl, rfl, fun _ _ h => h, fun _ _ h => .inl h, hk, fun tb htb => by
    obtain ⟨a1, a2⟩ := hs.gi.tape tb htb
    exact a2.keep ⟨fun _ _ h => h, fun b o h => World.cell?_of_block (w := w) (a := ⟨b, o, none⟩) (hB.block b (hs.gi.rd b o h).1)⟩ (hB.block tb a1), rfl⟩
  refine hK u w' ⟨g, _, rfl, hext, .one (.d ?_)⟩
  cases r with
  | bool b => simp [Cell.sval] at hu; subst hu; exact .bool b
  | int k n => simp [Cell.sval] at hu; subst hu; exact .int k n (hw k n rfl)
  | str b => simp [Cell.sval] at hu; subst hu; exact .str b (hz b rfl)
  | list xs => simp [Cell.sval] at hu
end
end Go.Proofs.Ytcbppkfnfbdkhaa
/- The table of types. -/
set_option linter.all false
namespace Go.Proofs.Ytcbppkfnfbdkhaa
def tab : List TyI := [
  .bad,
  .one .u,
  .one (.int .i64),
  .one (.int .i64),
  .one .bool,
  .one (.int .u8),
  .one (.int .u8),
  .st 4 [(0, 2, 1), (1, 3, 1), (2, 4, 1), (3, 6, 1)] [.int .i64, .int .i64, .bool, .int .u8],
  .st 4 [(0, 2, 1), (1, 3, 1), (2, 4, 1), (3, 6, 1)] [.int .i64, .int .i64, .bool, .int .u8],
  .one .str,
  .one .str,
  .one .str,
  .one (.int .u64),
  .st 2 [(0, 9, 1), (1, 12, 1)] [.str, .int .u64],
  .st 2 [(0, 9, 1), (1, 12, 1)] [.str, .int .u64],
  .one .u,
  .one .u,
  .one .u,
  .st 1 [(0, 17, 1)] [.u],
  .st 1 [(0, 17, 1)] [.u],
  .bad,
  .one (.int .i32),
  .sl 3 1 8,
  .one .u,
  .st 2 [(0, 22, 1), (1, 3, 1)] [.nil, .int .i64],
  .st 2 [(0, 22, 1), (1, 3, 1)] [.nil, .int .i64],
  .sl 115 11 144,
  .one .u,
  .sl 56 7 88,
  .one .u,
  .one .u,
  .sl 43 3 40,
  .one .u,
  .sl 45 6 48,
  .one (.int .i64),
  .bad,
  .one .u,
  .sl 22 1 24,
  .bad,
  .one .u,
  .one (.int .u64),
  .sl 120 6 72,
  .st 3 [(0, 3, 1), (1, 40, 1), (2, 41, 1)] [.int .i64, .int .u64, .nil],
  .st 3 [(0, 3, 1), (1, 40, 1), (2, 41, 1)] [.int .i64, .int .u64, .nil],
  .st 6 [(0, 3, 1), (1, 3, 1), (2, 3, 1), (3, 3, 1), (4, 3, 1), (5, 3, 1)] [.int .i64, .int .i64, .int .i64, .int .i64, .int .i64, .int .i64],
  .st 6 [(0, 3, 1), (1, 3, 1), (2, 3, 1), (3, 3, 1), (4, 3, 1), (5, 3, 1)] [.int .i64, .int .i64, .int .i64, .int .i64, .int .i64, .int .i64],
  .one .u,
  .one .u,
  .bad,
  .one .u,
  .one .u,
  .one .u,
  .sl 54 5 64,
  .st 5 [(0, 3, 1), (1, 9, 1), (2, 3, 1), (3, 40, 1), (4, 52, 1)] [.int .i64, .str, .int .i64, .int .u64, .nil],
  .st 5 [(0, 3, 1), (1, 9, 1), (2, 3, 1), (3, 40, 1), (4, 52, 1)] [.int .i64, .str, .int .i64, .int .u64, .nil],
  .st 7 [(0, 9, 1), (1, 54, 5), (6, 3, 1)] [.str, .int .i64, .str, .int .i64, .int .u64, .nil, .int .i64],
  .st 7 [(0, 9, 1), (1, 54, 5), (6, 3, 1)] [.str, .int .i64, .str, .int .i64, .int .u64, .nil, .int .i64],
  .bad,
  .one .u,
  .bad,
  .one .u,
  .one .u,
  .one .u,
  .bad,
  .one .u,
  .one .u,
  .bad,
  .one .u,
  .one .u,
  .one .u,
  .sl 84 4 32,
  .st 2 [(0, 22, 1), (1, 70, 1)] [.nil, .nil],
  .st 2 [(0, 22, 1), (1, 70, 1)] [.nil, .nil],
  .one .u,
  .sl 82 7 56,
  .st 2 [(0, 3, 1), (1, 74, 1)] [.int .i64, .nil],
  .st 2 [(0, 3, 1), (1, 74, 1)] [.int .i64, .nil],
  .one .u,
  .sl 87 2 16,
  .bad,
  .one .u,
  .st 7 [(0, 3, 1), (1, 3, 1), (2, 3, 1), (3, 3, 1), (4, 3, 1), (5, 3, 1), (6, 3, 1)] [.int .i64, .int .i64, .int .i64, .int .i64, .int .i64, .int .i64, .int .i64],
  .st 7 [(0, 3, 1), (1, 3, 1), (2, 3, 1), (3, 3, 1), (4, 3, 1), (5, 3, 1), (6, 3, 1)] [.int .i64, .int .i64, .int .i64, .int .i64, .int .i64, .int .i64, .int .i64],
  .st 4 [(0, 3, 1), (1, 3, 1), (2, 3, 1), (3, 3, 1)] [.int .i64, .int .i64, .int .i64, .int .i64],
  .st 4 [(0, 3, 1), (1, 3, 1), (2, 3, 1), (3, 3, 1)] [.int .i64, .int .i64, .int .i64, .int .i64],
  .one .u,
  .st 2 [(0, 3, 1), (1, 3, 1)] [.int .i64, .int .i64],
  .st 2 [(0, 3, 1), (1, 3, 1)] [.int .i64, .int .i64],
  .one .u,
  .one .u,
  .sl 150 3 16,
  .st 2 [(0, 3, 1), (1, 90, 1)] [.int .i64, .nil],
  .st 2 [(0, 3, 1), (1, 90, 1)] [.int .i64, .nil],
  .one .u,
  .sl 170 3 24,
  .st 3 [(0, 3, 1), (1, 3, 1), (2, 94, 1)] [.int .i64, .int .i64, .nil],
  .st 3 [(0, 3, 1), (1, 3, 1), (2, 94, 1)] [.int .i64, .int .i64, .nil],
  .one .u,
  .one .u,
  .sl 159 2 16,
  .bad,
  .one .u,
  .sl 96 3 40,
  .bad,
  .one .u,
  .bad,
  .one .u,
  .sl 112 5 72,
  .one .u,
  .one .u,
  .sl 175 2 2,
  .st 5 [(0, 3, 1), (1, 110, 1), (2, 107, 1), (3, 3, 1), (4, 3, 1)] [.int .i64, .nil, .nil, .int .i64, .int .i64],
  .st 5 [(0, 3, 1), (1, 110, 1), (2, 107, 1), (3, 3, 1), (4, 3, 1)] [.int .i64, .nil, .nil, .int .i64, .int .i64],
  .sl 9 1 16,
  .st 11 [(0, 9, 1), (1, 112, 5), (6, 4, 1), (7, 3, 1), (8, 3, 1), (9, 113, 1), (10, 3, 1)] [.str, .int .i64, .nil, .nil, .int .i64, .int .i64, .bool, .int .i64, .int .i64, .nil, .int .i64],
  .st 11 [(0, 9, 1), (1, 112, 5), (6, 4, 1), (7, 3, 1), (8, 3, 1), (9, 113, 1), (10, 3, 1)] [.str, .int .i64, .nil, .nil, .int .i64, .int .i64, .bool, .int .i64, .int .i64, .nil, .int .i64],
  .st 3 [(0, 3, 1), (1, 9, 1), (2, 3, 1)] [.int .i64, .str, .int .i64],
  .st 3 [(0, 3, 1), (1, 9, 1), (2, 3, 1)] [.int .i64, .str, .int .i64],
  .sl 126 3 24,
  .st 6 [(0, 117, 3), (3, 118, 1), (4, 3, 1), (5, 3, 1)] [.int .i64, .str, .int .i64, .nil, .int .i64, .int .i64],
  .st 6 [(0, 117, 3), (3, 118, 1), (4, 3, 1), (5, 3, 1)] [.int .i64, .str, .int .i64, .nil, .int .i64, .int .i64],
  .one .u,
  .one .u,
  .one .u,
  .one .u,
  .st 3 [(0, 3, 1), (1, 3, 1), (2, 3, 1)] [.int .i64, .int .i64, .int .i64],
  .st 3 [(0, 3, 1), (1, 3, 1), (2, 3, 1)] [.int .i64, .int .i64, .int .i64],
  .one .u,
  .one .u,
  .one .u,
  .one .u,
  .one .u,
  .one .u,
  .one .u,
  .sl 4 1 1,
  .one .u,
  .one .u,
  .one .u,
  .bad,
  .one .u,
  .one .u,
  .one .u,
  .sl 40 1 8,
  .sl 40 1 8,
  .one .u,
  .one .u,
  .one .u,
  .one .u,
  .one .u,
  .st 3 [(0, 3, 1), (1, 4, 1), (2, 4, 1)] [.int .i64, .bool, .bool],
  .st 3 [(0, 3, 1), (1, 4, 1), (2, 4, 1)] [.int .i64, .bool, .bool],
  .one .u,
  .bad,
  .one .u,
  .one .u,
  .one .u,
  .one .u,
  .one .u,
  .st 2 [(0, 3, 1), (1, 3, 1)] [.int .i64, .int .i64],
  .st 2 [(0, 3, 1), (1, 3, 1)] [.int .i64, .int .i64],
  .one .u,
  .one .u,
  .st 1 [(0, 3, 1)] [.int .i64],
  .st 1 [(0, 3, 1)] [.int .i64],
  .bad,
  .one .u,
  .one .u,
  .one .u,
  .one .u,
  .st 3 [(0, 4, 1), (1, 3, 1), (2, 3, 1)] [.bool, .int .i64, .int .i64],
  .st 3 [(0, 4, 1), (1, 3, 1), (2, 3, 1)] [.bool, .int .i64, .int .i64],
  .one .u,
  .one .u,
  .one .u,
  .st 2 [(0, 5, 1), (1, 5, 1)] [.int .u8, .int .u8],
  .st 2 [(0, 5, 1), (1, 5, 1)] [.int .u8, .int .u8],
  .one .u,
  .one .u,
  .one .u,
  .sl 5 1 1,
  .one .u,
  .one .u,
  .one .u,
  .one .u,
  .one .u,
  .one .u,
  .one .u,
  .one .u,
  .one .u,
  .one .u,
  .one .u,
  .one .u,
  .one .u,
  .one .u,
  .one .u,
  .one .u,
  .one .u,
  .one .u,
  .one .u,
  .one .u,
  .one .u,
  .one .u,
  .one .u,
  .one .u,
  .one .u,
  .bad,
  .one .u,
  .one .u,
  .one .u,
  .one .u,
  .one .u,
  .one .u,
  .one .u,
  .st 6 [(0, 92, 2), (2, 96, 3), (5, 99, 1)] [.int .i64, .nil, .int .i64, .int .i64, .nil, .nil],
  .st 6 [(0, 92, 2), (2, 96, 3), (5, 99, 1)] [.int .i64, .nil, .int .i64, .int .i64, .nil, .nil],
  .one .u,
  .one .u,
  .one .u,
  .one .u,
  .one .u,
  .one .u,
  .one .u,
  .one .u,
  .one .u,
  .one .u,
  .one .u,
  .one .u,
  .one .u,
  .one .u,
  .one .u,
  .one .u,
  .one .u,
  .one .u,
  .one .u,
  .one .u,
  .one .u,
  .one .u,
  .one .u,
  .one .u,
  .one (.int .u64),
  .bad,
  .one .u,
  .one .u,
  .one .u,
  .one .u,
  .one .u,
  .one .u,
  .one .u,
  .one .u,
  .one .u,
  .one .u,
  .one .u,
  .one .u,
  .one .u,
  .one .u,
  .one .u,
  .one (.int .u32),
  .bad,
  .one .u,
  .bad,
  .one .u,
  .one .u,
  .one (.int .i64),
  .bad,
  .one .u,
  .one .u,
  .one .u,
  .one .u,
  .one .u,
  .one .u,
  .one .u,
  .one .u,
  .sl 134 1 24,
  .sl 134 1 24,
  .one .u,
  .one .u,
  .bad,
  .one .u,
  .one .u,
  .one (.int .u64),
  .one .u,
  .one .u,
  .one .u,
  .one .u,
  .one .u,
  .one .u,
  .one .u,
  .one .u,
  .st 4 [(0, 17, 1), (1, 17, 1), (2, 17, 1), (3, 9, 1)] [.u, .u, .u, .str],
  .st 4 [(0, 17, 1), (1, 17, 1), (2, 17, 1), (3, 9, 1)] [.u, .u, .u, .str],
  .bad,
  .bad,
  .bad,
  .one .u,
  .one (.int .u8),
  .one (.int .u8),
  .one .u,
  .one .u,
  .one (.int .i32),
  .one (.int .i32),
  .st 11 [(0, 12, 1), (1, 12, 1), (2, 256, 1), (3, 294, 1), (4, 5, 1), (5, 5, 1), (6, 295, 1), (7, 296, 1), (8, 297, 1), (9, 298, 1), (10, 299, 1)] [.int .u64, .int .u64, .int .u32, .int .u8, .int .u8, .int .u8, .int .u8, .u, .u, .int .i32, .int .i32],
  .st 11 [(0, 12, 1), (1, 12, 1), (2, 256, 1), (3, 294, 1), (4, 5, 1), (5, 5, 1), (6, 295, 1), (7, 296, 1), (8, 297, 1), (9, 298, 1), (10, 299, 1)] [.int .u64, .int .u64, .int .u32, .int .u8, .int .u8, .int .u8, .int .u8, .u, .u, .int .i32, .int .i32],
  .bad]
set_option maxRecDepth 100000 in
theorem tab_ok : tabB Try.prog 0 tab = true := by kernel_rfl
end Go.Proofs.Ytcbppkfnfbdkhaa
/- The steps of a walk on ideal states: one rule for each kind of operation. -/
set_option linter.all false
namespace Go.Proofs.Ytcbppkfnfbdkhaa
open Go.RowKit Go.Shelf

structure Wk where
  P : Program
  T : TypeId
  N : Nat
  τ : List TyI
  ok : tabB P 0 τ = true
@[irreducible] def rg (k : Wk) (w0 : Org) (ops : Array Oper) (l : List Oper) (Q : St → Prop) (s : St) : Prop := irg k.P k.T k.N w0 ops l Q s
@[irreducible] def wk (k : Wk) (w0 : Org) (c : Code) (Q : Exit → St → Prop) (s : St) : Prop := iwp k.P k.T k.N w0 c Q s
theorem rgI {k : Wk} {w0 : Org} {ops : Array Oper} {l : List Oper} {Q : St → Prop} {s : St} (h : irg k.P k.T k.N w0 ops l Q s) : rg k w0 ops l Q s := by unfold rg; exact h
theorem rgO {k : Wk} {w0 : Org} {ops : Array Oper} {l : List Oper} {Q : St → Prop} {s : St} (h : rg k w0 ops l Q s) : irg k.P k.T k.N w0 ops l Q s := by unfold rg at h; exact h
theorem wkI {k : Wk} {w0 : Org} {c : Code} {Q : Exit → St → Prop} {s : St} (h : iwp k.P k.T k.N w0 c Q s) : wk k w0 c Q s := by unfold wk; exact h
theorem wkO {k : Wk} {w0 : Org} {c : Code} {Q : Exit → St → Prop} {s : St} (h : wk k w0 c Q s) : iwp k.P k.T k.N w0 c Q s := by unfold wk at h; exact h
@[irreducible] def kThen (k : Wk) (w0 : Org) (y : Code) (Q : Exit → St → Prop) : Exit → St → Prop := IThen k.P k.T k.N w0 y Q
@[irreducible] def kBlock (id : Nat) (Q : Exit → St → Prop) : Exit → St → Prop := IBlock id Q
@[irreducible] def kRound (Q : Exit → St → Prop) (R : St → Prop) : Exit → St → Prop := IRound Q R
section
variable {k : Wk} {w0 : Org} {ops : Array Oper} {l : List Oper} {Q : St → Prop} {s : St} {d t t' : Nat} {x y : Operand} {p : String} {af : Array Edge}
theorem nlt {a b : Nat} (h : Nat.blt a b = true) : a < b := Nat.lt_of_lt_of_le (Nat.lt_succ_self _) (Nat.le_of_ble_eq_true h)
theorem ope_cg {P : Program} {T : TypeId} {N : Nat} {w0 : Org} {s : St} {o : Oper} {v v' : SV} (h : OpE P T N w0 s o v) (e : v = v') : OpE P T N w0 s o v' := e ▸ h
theorem i_nil (h : Q s) : rg k w0 ops [] Q s := rgI (irg_nil h)
theorem i_gy {o : Op} {dst : Option Nat} {j q : Nat} {w c : Bool} (hj : (ops[j]?).bind (·.dst) = some q) (hv : getF s.F q = .one (.d (.bool c))) (hc : c = w) (h : rg k w0 ops (⟨dst, o, t, p, af, none⟩ :: l) Q s) : rg k w0 ops (⟨dst, o, t, p, af, some (j, w)⟩ :: l) Q s := by
  refine rgI ?_
  intro g a w' hs Q' hQ
  have := rgO h g a w' hs Q' hQ
  have hy := yielded_of hs hj hv
  unfold wpList at this ⊢
  rw [if_pos (by simp [Region.wanted])] at this
  rw [if_pos (by simp [Region.wanted, hy, hc])]
  exact this
theorem i_gn {o : Op} {j q : Nat} {c : Bool} (hj : (ops[j]?).bind (·.dst) = some q) (hv : getF s.F q = .one (.d (.bool c))) (hc : c = false) (hN : Nat.blt d k.N = true) (h : rg k w0 ops l Q (s.put d (.tup []))) : rg k w0 ops (⟨some d, o, t, p, af, some (j, true)⟩ :: l) Q s :=
  rgI (irg_gno rfl hj hv hc rfl (nlt hN) (rgO h))
theorem i_gm {o : Op} {j q : Nat} {c : Bool} (hj : (ops[j]?).bind (·.dst) = some q) (hv : getF s.F q = .one (.d (.bool c))) (hc : c = true) (hN : Nat.blt d k.N = true) (h : rg k w0 ops l Q (s.put d (.tup []))) : rg k w0 ops (⟨some d, o, t, p, af, some (j, false)⟩ :: l) Q s :=
  rgI (irg_gno rfl hj hv hc rfl (nlt hN) (rgO h))
theorem i_gz {o : Op} {j q : Nat} {w : Bool} (hj : (ops[j]?).bind (·.dst) = some q) (hv : getF s.F q = .tup []) (hN : Nat.blt d k.N = true) (h : rg k w0 ops l Q (s.put d (.tup []))) : rg k w0 ops (⟨some d, o, t, p, af, some (j, w)⟩ :: l) Q s :=
  rgI (irg_gz rfl hj hv rfl (nlt hN) (rgO h))
theorem i_gs {o : Op} {dst : Option Nat} {j q : Nat} {w : Bool} (c : Bool) (hj : (ops[j]?).bind (·.dst) = some q) (hv : getF s.F q = .one (.d (.bool c))) (h1 : c = true → rg k w0 ops (⟨dst, o, t, p, af, some (j, w)⟩ :: l) Q s) (h2 : c = false → rg k w0 ops (⟨dst, o, t, p, af, some (j, w)⟩ :: l) Q s) : rg k w0 ops (⟨dst, o, t, p, af, some (j, w)⟩ :: l) Q s :=
  rgI (irg_split c (fun e => rgO (h1 e)) (fun e => rgO (h2 e)))
theorem i_pt {c : Operand} {b : Bool} {v : CV} (hN : Nat.blt d k.N = true) (hc : s.ev c = .one (.d (.bool b))) (hb : b = true) (hx : s.ev x = .one v) (h : rg k w0 ops l Q (s.put d (.one v))) : rg k w0 ops (⟨some d, .pick c x y, t, p, af, none⟩ :: l) Q s :=
  rgI (irg_e rfl rfl (nlt hN) (hx ▸ ope_pick_t rfl (hb ▸ hc)) (rgO h))
theorem i_pf {c : Operand} {b : Bool} {v : CV} (hN : Nat.blt d k.N = true) (hc : s.ev c = .one (.d (.bool b))) (hb : b = false) (hx : s.ev y = .one v) (h : rg k w0 ops l Q (s.put d (.one v))) : rg k w0 ops (⟨some d, .pick c x y, t, p, af, none⟩ :: l) Q s :=
  rgI (irg_e rfl rfl (nlt hN) (hx ▸ ope_pick_f rfl (hb ▸ hc)) (rgO h))
theorem i_ld_el1 {r i j sz e : Nat} {rows : List (List Cell)} {row : List Cell} {c : Cell} (hN : Nat.blt d k.N = true) (hx : s.ev x = .one (.el r i j sz)) (hH : getH s.H r = .arr e sz rows) (ht : (tyAt k.τ t').isOne = true) (hi : rows[i]? = some row) (hj : row[j]? = some c) (h : rg k w0 ops l Q (s.put d (.one (.d c)))) : rg k w0 ops (⟨some d, .load t' x, t, p, af, none⟩ :: l) Q s :=
  rgI (irg_e rfl rfl (nlt hN) (ope_load_el1 rfl hx hH (tab_one k.ok ht) hi hj) (rgO h))
theorem i_ld_eln {r i j sz e : Nat} {rows : List (List Cell)} {row : List Cell} {n fs zs} (hN : Nat.blt d k.N = true) (hx : s.ev x = .one (.el r i j sz)) (hH : getH s.H r = .arr e sz rows) (ht : tyAt k.τ t' = .st n fs zs) (hi : rows[i]? = some row) (hj : j + n ≤ row.length) (h : rg k w0 ops l Q (s.put d (.agg (((row.drop j).take n).map .d)))) : rg k w0 ops (⟨some d, .load t' x, t, p, af, none⟩ :: l) Q s :=
  rgI (irg_e rfl rfl (nlt hN) (ope_load_eln rfl hx hH (tab_agg k.ok ht) hi hj) (rgO h))
theorem map_get {α β : Type} {f : α → β} {l : List α} {i : Nat} (h : i < l.length) : (l.map f)[i]? = some (f l[i]) := by simp [h]
theorem i_ia {e sz by_ i : Nat} {rows : List (List Cell)} {row : List Cell} {kk : IntKind} {m : Int} (hN : Nat.blt d k.N = true) (hx : s.ev x = .one (.d (.list rows))) (hy : s.ev y = .one (.d (.int kk m))) (ht : tyAt k.τ t' = .sl e sz by_) (h0 : 0 ≤ m) (hm : m.toNat = i) (hi : rows[i]? = some row) (hl : row.length = sz) (hz : Nat.blt 0 sz = true) (h : rg k w0 ops l Q (s.put d (.one (.rp (row.map .d))))) : rg k w0 ops (⟨some d, .indexAddr t' x y, t, p, af, none⟩ :: l) Q s :=
  rgI (irg_e rfl rfl (nlt hN) (ope_indexAddr_d rfl hx hy (tab_sl k.ok ht) h0 (hm ▸ hi) hl (nlt hz)) (rgO h))
theorem i_ia_sl {r n e sz by_ i : Nat} {kk : IntKind} {m : Int} (hN : Nat.blt d k.N = true) (hx : s.ev x = .one (.sl r n sz)) (hy : s.ev y = .one (.d (.int kk m))) (ht : tyAt k.τ t' = .sl e sz by_) (h0 : 0 ≤ m) (hi : m < (n : Int)) (hm : m.toNat = i) (h : rg k w0 ops l Q (s.put d (.one (.el r i 0 sz)))) : rg k w0 ops (⟨some d, .indexAddr t' x y, t, p, af, none⟩ :: l) Q s :=
  rgI (irg_e rfl rfl (nlt hN) (hm ▸ ope_indexAddr_sl rfl hx hy (tab_sl k.ok ht) h0 hi) (rgO h))
theorem i_ia_ar {r off n len e sz i : Nat} {zs} {kk : IntKind} {m : Int} (hN : Nat.blt d k.N = true) (hx : s.ev x = .one (.ref r off)) (hy : s.ev y = .one (.d (.int kk m))) (ht : tyAt k.τ t' = .ar n len e sz zs) (h0 : 0 ≤ m) (hi : m < (len : Int)) (hm : m.toNat = i) (h : rg k w0 ops l Q (s.put d (.one (.ref r (off + i * sz))))) : rg k w0 ops (⟨some d, .indexAddr t' x y, t, p, af, none⟩ :: l) Q s :=
  rgI (irg_e rfl rfl (nlt hN) (hm ▸ ope_indexAddr_arr rfl hx hy (tab_ar k.ok ht) h0 hi) (rgO h))
theorem i_len {e n b : Nat} {rows : List (List Cell)} (hN : Nat.blt d k.N = true) (hx : s.ev x = .one (.d (.list rows))) (ht : tyAt k.τ t' = .sl e n b) (h : rg k w0 ops l Q (s.put d (.one (.d (.int .i64 (rows.length : Int)))))) : rg k w0 ops (⟨some d, .call { callee := .builtin .len, args := #[x], argTypes := #[t'] }, t, p, af, none⟩ :: l) Q s :=
  rgI (irg_e rfl rfl (nlt hN) (ope_len_d rfl hx (tab_sl k.ok ht)) (rgO h))
theorem i_lenm {α : Type} {f : α → List Cell} {xs : List α} {e n b : Nat} (hN : Nat.blt d k.N = true) (hx : s.ev x = .one (.d (.list (xs.map f)))) (ht : tyAt k.τ t' = .sl e n b) (h : rg k w0 ops l Q (s.put d (.one (.d (.int .i64 (xs.length : Int)))))) : rg k w0 ops (⟨some d, .call { callee := .builtin .len, args := #[x], argTypes := #[t'] }, t, p, af, none⟩ :: l) Q s :=
  rgI (irg_e rfl rfl (nlt hN) (ope_cg (ope_len_d rfl hx (tab_sl k.ok ht)) (by rw [List.length_map])) (rgO h))
theorem i_lens {r m sz e n b : Nat} (hN : Nat.blt d k.N = true) (hx : s.ev x = .one (.sl r m sz)) (ht : tyAt k.τ t' = .sl e n b) (h : rg k w0 ops l Q (s.put d (.one (.d (.int .i64 (m : Int)))))) : rg k w0 ops (⟨some d, .call { callee := .builtin .len, args := #[x], argTypes := #[t'] }, t, p, af, none⟩ :: l) Q s :=
  rgI (irg_e rfl rfl (nlt hN) (ope_len_sl rfl hx (tab_sl k.ok ht)) (rgO h))
theorem i_len0 {e n b : Nat} (hN : Nat.blt d k.N = true) (hx : s.ev x = .one .nil) (ht : tyAt k.τ t' = .sl e n b) (h : rg k w0 ops l Q (s.put d (.one (.d (.int .i64 0))))) : rg k w0 ops (⟨some d, .call { callee := .builtin .len, args := #[x], argTypes := #[t'] }, t, p, af, none⟩ :: l) Q s :=
  rgI (irg_e rfl rfl (nlt hN) (ope_len_nil rfl hx (tab_sl k.ok ht)) (rgO h))
theorem i_add {kk : IntKind} {m n : Int} {r : Int} {tb : Nat} (hN : Nat.blt d k.N = true) (hx : s.ev x = .one (.d (.int kk m))) (hy : s.ev y = .one (.d (.int kk n))) (hr : kk.wrap (m + n) = r) (h : rg k w0 ops l Q (s.put d (.one (.d (.int kk r))))) : rg k w0 ops (⟨some d, .binOp .add t' x y tb, t, p, af, none⟩ :: l) Q s :=
  rgI (irg_e rfl rfl (nlt hN) (ope_add rfl hx hy hr) (rgO h))
theorem i_sub {kk : IntKind} {m n : Int} {r : Int} {tb : Nat} (hN : Nat.blt d k.N = true) (hx : s.ev x = .one (.d (.int kk m))) (hy : s.ev y = .one (.d (.int kk n))) (hr : kk.wrap (m - n) = r) (h : rg k w0 ops l Q (s.put d (.one (.d (.int kk r))))) : rg k w0 ops (⟨some d, .binOp .sub t' x y tb, t, p, af, none⟩ :: l) Q s :=
  rgI (irg_e rfl rfl (nlt hN) (ope_sub rfl hx hy hr) (rgO h))
theorem i_mul {kk : IntKind} {m n : Int} {r : Int} {tb : Nat} (hN : Nat.blt d k.N = true) (hx : s.ev x = .one (.d (.int kk m))) (hy : s.ev y = .one (.d (.int kk n))) (hr : kk.wrap (m * n) = r) (h : rg k w0 ops l Q (s.put d (.one (.d (.int kk r))))) : rg k w0 ops (⟨some d, .binOp .mul t' x y tb, t, p, af, none⟩ :: l) Q s :=
  rgI (irg_e rfl rfl (nlt hN) (ope_mul rfl hx hy hr) (rgO h))
theorem i_call {pu : Bool} {f : FuncId} {xs : Array Operand} {ts : Array TypeId} {args : List SV} {v : SV} (hN : Nat.blt d k.N = true) (hic : IC k.P k.T f args (fun x => x = v)) (ha : PsSL k.P k.T s pu xs.toList args) (hsc : pu = true ∨ v.sc = true)
    (h : rg k w0 ops l Q (s.put d v)) : rg k w0 ops (⟨some d, .call { callee := .value (.func f), args := xs, argTypes := ts }, t, p, af, none⟩ :: l) Q s :=
  rgI (irg_e rfl rfl (nlt hN) (opq_call rfl hic ha (hsc.imp id fun h sv e => e ▸ h)) (rgO h))
theorem i_callp {pu : Bool} {f : FuncId} {xs : Array Operand} {ts : Array TypeId} {args : List SV} {post : SV → Prop} (hN : Nat.blt d k.N = true) (hic : IC k.P k.T f args post) (ha : PsSL k.P k.T s pu xs.toList args) (hsc : pu = true ∨ ∀ v, post v → v.sc = true)
    (h : ∀ v, post v → rg k w0 ops l Q (s.put d v)) : rg k w0 ops (⟨some d, .call { callee := .value (.func f), args := xs, argTypes := ts }, t, p, af, none⟩ :: l) Q s :=
  rgI (irg_q rfl rfl (nlt hN) (opq_call rfl hic ha hsc) fun v hv => rgO (h v hv))
theorem i_callf {pp : List DV → Option Cell} {xs : Array Operand} {ts : Array TypeId} {args : List DV} {r : Cell} (hN : Nat.blt d k.N = true) (hy : s.ev y = .one (.fn pp)) (ha : dvL s xs.toList args) (hp : pp args = some r) (hw : ∀ k n, r = .int k n → (Lit.int k n).wf = true) (hz : ∀ b, r = .str b → b.size ≤ maxLen)
    (h : rg k w0 ops l Q (s.put d (.one (.d r)))) : rg k w0 ops (⟨some d, .call { callee := .value y, args := xs, argTypes := ts }, t, p, af, none⟩ :: l) Q s :=
  rgI (irg_e rfl rfl (nlt hN) (ope_call_fn rfl hy ha hp hw hz) (rgO h))
theorem i_ste {r i j sz n e : Nat} {rows : List (List Cell)} {row : List Cell} {vs : List CV} {ds : List Cell} (hx : s.ev x = .one (.el r i j sz)) (hH : getH s.H r = .arr e sz rows) (hn : (tyAt k.τ t').size = some n) (hy : (s.ev y).cells = some vs) (hds : unDL vs = some ds) (hl : ds.length = n) (hi : rows[i]? = some row) (hle : j + n ≤ row.length)
    (h : rg k w0 ops l Q (s.hput r (.arr e sz (rows.set i (setSegC row j ds))))) : rg k w0 ops (⟨none, .store t' x y, t, p, af, none⟩ :: l) Q s :=
  rgI (irg_h rfl (opr_store_el k.ok rfl rfl hx hH hn hy hds hl hi hle) (rgO h))
theorem i_ap0 {e sz by_ : Nat} {zs : List Z} {rows' : List (List Cell)} (hN : Nat.blt d k.N = true) (ht : tyAt k.τ t' = .sl e sz by_) (hz : (tyAt k.τ e).zs = some zs) (hzl : zs.length = sz) (h0 : Nat.blt 0 sz = true) (hx : s.ev x = .one .nil) (hy : Src s sz (s.ev y) rows') (hf : s.fresh d = true)
    (hbd : rows'.length * by_ ≤ 140737488355328) (hb0 : Nat.blt 0 by_ = true) (h : rg k w0 ops l Q ((s.hput d (.arr e sz rows')).put d (.one (.sl d rows'.length sz)))) : rg k w0 ops (⟨some d, .call { callee := .builtin .append, args := #[x, y], argTypes := #[t', t'] }, t, p, af, none⟩ :: l) Q s :=
  rgI (irg_h rfl (opr_append_nil k.ok rfl rfl (nlt hN) ht hz hzl (nlt h0) hx hy hf hbd (nlt hb0)) (rgO h))
theorem i_ap {e sz by_ r n : Nat} {zs : List Z} {rows rows' : List (List Cell)} (hN : Nat.blt d k.N = true) (ht : tyAt k.τ t' = .sl e sz by_) (hz : (tyAt k.τ e).zs = some zs) (hzl : zs.length = sz) (h0 : Nat.blt 0 sz = true) (hx : s.ev x = .one (.sl r n sz)) (hr : getH s.H r = .arr e sz rows) (hn : n = rows.length) (hy : Src s sz (s.ev y) rows') (hf : allH r s.H = true)
    (hbd : (rows.length + rows'.length) * by_ ≤ 140737488355328) (hb0 : Nat.blt 0 by_ = true) (h : rg k w0 ops l Q ((St.mk (killF r s.F) ((r, .arr e sz (rows ++ rows')) :: s.H)).put d (.one (.sl r (rows ++ rows').length sz)))) : rg k w0 ops (⟨some d, .call { callee := .builtin .append, args := #[x, y], argTypes := #[t', t'] }, t, p, af, none⟩ :: l) Q s :=
  rgI (irg_h rfl (opr_append_sl k.ok rfl rfl (nlt hN) ht hz hzl (nlt h0) hx hr hn hy hf hbd (nlt hb0)) (rgO h))
end
section
variable {k : Wk} {w0 : Org} {s : St} {Q : Exit → St → Prop}
theorem c_seq {x y : Code} (h : wk k w0 x (kThen k w0 y Q) s) : wk k w0 (.seq x y) Q s := wkI (iwp_seq (by have := wkO h; unfold kThen at this; exact this))
theorem c_rg {id : Nat} {l : List Oper} (h : rg k w0 l.toArray l (Q .normal) s) : wk k w0 (.region id l.toArray false) Q s := wkI (iwp_region (rgO h))
theorem c_t {c : Operand} {x y : Code} {b : Bool} (hc : s.ev c = .one (.d (.bool b))) (hb : b = true) (h : wk k w0 x Q s) : wk k w0 (.cond c x y) Q s := wkI (iwp_cond_t (hb ▸ hc) (wkO h))
theorem c_f {c : Operand} {x y : Code} {b : Bool} (hc : s.ev c = .one (.d (.bool b))) (hb : b = false) (h : wk k w0 y Q s) : wk k w0 (.cond c x y) Q s := wkI (iwp_cond_f (hb ▸ hc) (wkO h))
theorem c_if {c : Operand} {x y : Code} {b : Bool} (hc : s.ev c = .one (.d (.bool b))) (h1 : b = true → wk k w0 x Q s) (h2 : b = false → wk k w0 y Q s) : wk k w0 (.cond c x y) Q s := wkI (iwp_cond hc (fun e => wkO (h1 e)) fun e => wkO (h2 e))
theorem c_bl {id : Nat} {c : Code} (h : wk k w0 c (kBlock id Q) s) : wk k w0 (.block id c) Q s := wkI (iwp_block (by have := wkO h; unfold kBlock at this; exact this))
theorem c_ex {id : Nat} (h : Q (.exit id) s) : wk k w0 (.exit id) Q s := wkI (iwp_exit h)
theorem c_ret (h : Q .ret s) : wk k w0 .ret Q s := wkI (iwp_ret h)
theorem c_sk (h : Q .normal s) : wk k w0 .skip Q s := wkI (iwp_skip h)
theorem q_n {y : Code} (h : wk k w0 y Q s) : kThen k w0 y Q .normal s := by unfold kThen; exact wkO h
theorem q_r {y : Code} (h : Q .ret s) : kThen k w0 y Q .ret s := by unfold kThen; exact h
theorem q_e {y : Code} {i : Nat} (h : Q (.exit i) s) : kThen k w0 y Q (.exit i) s := by unfold kThen; exact h
theorem b_n {id : Nat} (h : Q .normal s) : kBlock id Q .normal s := by unfold kBlock; exact h
theorem b_r {id : Nat} (h : Q .ret s) : kBlock id Q .ret s := by unfold kBlock; exact h
theorem b_e {id : Nat} (h : Q .normal s) : kBlock id Q (.exit id) s := by unfold kBlock; exact iblock_e h
theorem b_o {id i : Nat} (hn : Nat.beq i id = false) (h : Q (.exit i) s) : kBlock id Q (.exit i) s := by unfold kBlock; exact iblock_o hn h
theorem n_n {R : St → Prop} (h : R s) : kRound Q R .normal s := by unfold kRound; exact h
theorem n_r {R : St → Prop} (h : Q .ret s) : kRound Q R .ret s := by unfold kRound; exact h
theorem n_e {R : St → Prop} {i : Nat} (h : Q (.exit i) s) : kRound Q R (.exit i) s := by unfold kRound; exact h
theorem c_loop {ι : Type} {c : Code} (I : ι → St) (p : ι → Prop) (μ : ι → Nat) (vs : List Nat) (i0 : ι) (hp : p i0) (h0 : Fits vs s (I i0))
    (round : ∀ i, p i → wk k w0 c (kRound Q (fun s' => ∃ i', p i' ∧ μ i' < μ i ∧ ∃ vs', Fits vs' s' (I i'))) (I i)) : wk k w0 (.loop c) Q s :=
  wkI (iwp_loop I p μ vs i0 hp h0 fun i hi => by have := wkO (round i hi); unfold kRound at this; exact this)
end
section
variable {τ : List TyI} {fn : Func} {post : SV → Prop} {s : St}
end
theorem ic_wk (k : Wk) {f : FuncId} {fn : Func} {c : Code} {args : List SV} {post : SV → Prop} (hf : k.P.funcs[f]? = some fn) (hN : fn.ntmps = k.N) (hname : (fn.name == "runtime.NumGoroutine") = false) (hb : fn.body = some c) (hn : Nat.ble args.length k.N = true)
    (h : ∀ w0, wk k w0 c (RetQ k.τ fn post) ⟨argF 0 args, []⟩) : IC k.P k.T f args post :=
  ic_of k.ok hf hname hb (by rw [hN]; exact hn) fun w0 => by rw [hN]; exact wkO (h w0)
end Go.Proofs.Ytcbppkfnfbdkhaa
/- Facts on what is at hand; searches. -/
set_option linter.all false
namespace Go.Proofs.Ytcbppkfnfbdkhaa
open Go.RowKit Go.Shelf

inductive Cell.Ok : Cell → Prop where
  | bool (b : Bool) : Ok (.bool b)
  | int {k : IntKind} {n : Int} (h : (Lit.int k n).wf = true) : Ok (.int k n)
  | str {s : ByteArray} (h : s.size ≤ 9223372036854775807) : Ok (.str s)
  | list {xs : List (List Cell)} (h : xs.length ≤ 9223372036854775807) (hr : ∀ row ∈ xs, ∀ c ∈ row, Ok c) : Ok (.list xs)
theorem RepCell.okk {Rd : Nat → Nat → Prop} {w : World} {v : Value} {c : Cell} (h : RepCell Rd w v c) : c.Ok := by
  induction h with
  | bool b => exact .bool b
  | int k n h => exact .int h
  | str s h => exact .str (by unfold maxLen at h; omega)
  | list A cap xs sz vals h0 h1 h2 hsz hc hr ih =>
    refine .list (by unfold maxLen at h2; omega) fun row hrow c hc' => ?_
    obtain ⟨i, hi⟩ := List.getElem?_of_mem hrow
    obtain ⟨j, hj⟩ := List.getElem?_of_mem hc'
    exact ih i j row c hi hj
theorem Cell.Ok.i64 {n : Int} (h : Cell.Ok (.int .i64 n)) : -9223372036854775808 ≤ n ∧ n ≤ 9223372036854775807 := by
  cases h with | int h => simp [Lit.wf, IntKind.min, IntKind.max, IntKind.bits, IntKind.signed] at h; omega
theorem Cell.Ok.u8 {n : Int} (h : Cell.Ok (.int .u8 n)) : 0 ≤ n ∧ n ≤ 255 := by
  cases h with | int h => simp [Lit.wf, IntKind.min, IntKind.max, IntKind.bits, IntKind.signed] at h; omega
theorem Cell.Ok.len {xs : List (List Cell)} (h : Cell.Ok (.list xs)) : xs.length ≤ 9223372036854775807 := by cases h; assumption
theorem Cell.Ok.at_ {xs : List (List Cell)} (h : Cell.Ok (.list xs)) {row : List Cell} (hr : row ∈ xs) {c : Cell} (hc : c ∈ row) : c.Ok := by cases h with | list h1 h2 => exact h2 row hr c hc
theorem Cell.Ok.map {α : Type} {f : α → List Cell} {xs : List α} (h : Cell.Ok (.list (xs.map f))) : xs.length ≤ 9223372036854775807 ∧ ∀ x ∈ xs, ∀ c ∈ f x, c.Ok :=
  ⟨by have := h.len; simpa using this, fun x hx c hc => h.at_ (List.mem_map_of_mem hx) hc⟩
section
variable {k : Wk} {w0 : Org} {s : St} {Q : Exit → St → Prop} {c : Code}
theorem k_one {x : Nat} {d : Cell} (hx : getF s.F x = .one (.d d)) (h : d.Ok → wk k w0 c Q s) : wk k w0 c Q s := wkI fun g a w hs => wkO (h (by have := hs.hF x; rw [hx] at this; exact (this.one_inv.unD rfl).okk)) g a w hs
end

def idxOf {α : Type} (q : α → Bool) : List α → Int
  | [] => -1
  | x :: l => if q x then 0 else if idxOf q l < 0 then -1 else idxOf q l + 1
theorem idxOf_none {α : Type} {q : α → Bool} {l : List α} (h : ∀ x ∈ l, q x = false) : idxOf q l = -1 := by
  induction l with
  | nil => rfl
  | cons x l ih =>
    have h1 := h x (by simp)
    have h2 := ih fun y hy => h y (by simp [hy])
    simp [idxOf, h1, h2]
theorem idxOf_at {α : Type} {q : α → Bool} {l : List α} {i : Nat} (hi : i < l.length) (hq : q l[i] = true) (h : ∀ j (hj : j < i), q (l[j]'(by omega)) = false) : idxOf q l = i := by
  induction l generalizing i with
  | nil => simp at hi
  | cons x l ih =>
    cases i with
    | zero => simp at hq; simp [idxOf, hq]
    | succ i =>
      have h0 := h 0 (by omega)
      simp at h0
      have := ih (i := i) (by simpa using hi) (by simpa using hq) fun j hj => by have := h (j + 1) (by omega); simpa using this
      simp [idxOf, h0, this]
      omega
theorem idxOf_ge {α : Type} (q : α → Bool) (l : List α) : decide (0 ≤ idxOf q l) = l.any q := by
  rw [Bool.eq_iff_iff]
  induction l with
  | nil => simp [idxOf]
  | cons x l ih =>
    simp only [decide_eq_true_eq] at ih
    simp only [idxOf, List.any_cons, decide_eq_true_eq, Bool.or_eq_true, ← ih]
    by_cases hx : q x = true
    · simp [hx]
    · by_cases h : idxOf q l < 0
      · simp [hx, h]
      · simp [hx, h]; omega
theorem idxOf_bd {α : Type} (q : α → Bool) (l : List α) : -1 ≤ idxOf q l ∧ idxOf q l < l.length := by
  induction l with
  | nil => simp [idxOf]
  | cons x l ih =>
    simp only [idxOf, List.length_cons]
    split
    · omega
    · split <;> omega
end Go.Proofs.Ytcbppkfnfbdkhaa
/- Regions that draw their order, on ideal states. -/
set_option linter.all false
namespace Go.Proofs.Ytcbppkfnfbdkhaa
open Go.RowKit Go.Shelf

def irn (P : Program) (T : TypeId) (N : Nat) (w0 : Org) (ops : Array Oper) (n : Nat) (listed : Array Bool) (Q : St → Prop) (s : St) : Prop :=
  ∀ g a w, Sim P T N w0 g s a w → ∀ Q' : Exit → Act → World → Prop, (∀ g' s' a' w', Q s' → Sim P T N w0 g' s' a' w' → Q' .normal a' w') → (∀ a w c, ¬ Q' (.panic c) a w) → wpAny P .any ops Q' n listed a w
abbrev Ff := Nat → SV
abbrev Hf := Nat → VH
def putf (f : Ff) (d : Nat) (v : SV) : Ff := fun x => if d = x then v else f x
def puth (h : Hf) (d : Nat) (v : VH) : Hf := fun x => if d = x then v else h x
theorem putf_comm (f : Ff) {d e : Nat} (v u : SV) (h : d ≠ e) : putf (putf f d v) e u = putf (putf f e u) d v := by
  funext x
  simp only [putf]
  by_cases h1 : d = x <;> by_cases h2 : e = x <;> simp [h1, h2]
  omega
section
variable {P : Program} {T : TypeId} {N : Nat} {w0 : Org} {ops : Array Oper} {τ : List TyI}
def wantI (ops : Array Oper) (f : Ff) (o : Oper) : Option Bool :=
  match o.guard with
  | none => some true
  | some (j, w) => match (ops[j]?).bind (·.dst) with
    | some t => match f t with
      | .one (.d (.bool c)) => some (c == w)
      | .tup [] => some false
      | _ => none
    | none => none
def memB : List Nat → Nat → Bool
  | [], _ => false
  | x :: l, r => bif Nat.beq x r then true else memB l r
def inW : Option (List Nat) → Nat → Bool
  | none, _ => true
  | some l, r => memB l r
def QF (P : Program) (T : TypeId) (N : Nat) (w0 : Org) (W : Option (List Nat)) (f : Ff) (h : Hf) (o : Oper) (post : SV → Prop) : Prop :=
  ∀ s : St, (∀ t, Operand.tmp t ∈ o.op.operands.toList → getF s.F t = f t) → (∀ r, inW W r = false → (h r).live = true → getH s.H r = h r) → OpQ P T N w0 s o post
def okQ (P : Program) (T : TypeId) (N : Nat) (w0 : Org) (ops : Array Oper) (W : Option (List Nat)) (f : Ff) (h : Hf) (o : Oper) (post : SV → Prop) : Prop :=
  (wantI ops f o = some true ∧ QF P T N w0 W f h o post) ∨ (wantI ops f o = some false ∧ post = fun v => v = .tup [])
structure FreshF (f : Ff) (h : Hf) (d : Nat) : Prop where
  ff : ∀ x, (f x).has d = false
  hh : ∀ r, (h r).has d = false
  ll : (h d).live = false
def QA (P : Program) (T : TypeId) (N : Nat) (w0 : Org) (f : Ff) (h : Hf) (o : Oper) (d : Nat) (vh : VH) (sv : SV) : Prop :=
  ∀ s : St, (∀ t, Operand.tmp t ∈ o.op.operands.toList → getF s.F t = f t) → (∀ r, getH s.H r = h r) → FreshF (getF s.F) (getH s.H) d → OpR P T N w0 s o (fun s' => s' = (s.hput d vh).put d sv)
def QS (P : Program) (T : TypeId) (N : Nat) (w0 : Org) (f : Ff) (h : Hf) (o : Oper) (r : Nat) (vh : VH) : Prop :=
  ∀ s : St, (∀ t, Operand.tmp t ∈ o.op.operands.toList → getF s.F t = f t) → (∀ r, getH s.H r = h r) → OpR P T N w0 s o (fun s' => s' = s.hput r vh)
def QK (P : Program) (T : TypeId) (N : Nat) (w0 : Org) (f : Ff) (h : Hf) (o : Oper) (x r : Nat) (vh : VH) (d : Nat) (sv : SV) : Prop :=
  ∀ s : St, (∀ t, Operand.tmp t ∈ o.op.operands.toList → getF s.F t = f t) → (∀ r, getH s.H r = h r) → (∀ y, y ≠ x → (getF s.F y).has r = false) → OpR P T N w0 s o (fun s' => s' = (St.mk ((x, .u) :: s.F) ((r, vh) :: s.H)).put d sv)
def chg (o : Oper) : Bool := match o.dst with
  | none => true
  | some _ => match o.op with
    | .call c => (match c.callee with | .builtin .append => true | _ => false)
    | _ => false
def qI (P : Program) (T : TypeId) (N : Nat) (w0 : Org) (ops : Array Oper) (τ : List TyI) (W : Option (List Nat)) (j : Nat) (K : Ff → Hf → Prop) (f : Ff) (h : Hf) : Prop :=
  ∃ o, ops[j]? = some o ∧ ((∃ d, o.dst = some d ∧ d < N ∧ ((∃ wf post, okQ P T N w0 ops wf f h o post ∧ ∀ v, post v → K (putf f d v) h) ∨
    (∃ t zs, o.op = .alloc t ∧ o.guard = none ∧ (tyAt τ t).zs = some zs ∧ FreshF f h d ∧ K (putf f d (.one (.ref d 0))) (puth h d (.blk t (zs.map Z.cv)))) ∨
    (∃ vh sv, wantI ops f o = some true ∧ QA P T N w0 f h o d vh sv ∧ FreshF f h d ∧ K (putf f d sv) (puth h d vh)) ∨
    (∃ x r vh sv, chg o = true ∧ inW W r = true ∧ x ∈ o.looksAt ops ∧ (∀ k ok, ops[k]? = some ok → k ≠ j → x ∉ ok.looksAt ops) ∧ x ≠ d ∧ wantI ops f o = some true ∧ QK P T N w0 f h o x r vh d sv ∧ (∀ y, y ≠ x → (f y).has r = false) ∧ K (putf (putf f x .u) d sv) (puth h r vh)))) ∨
    (o.dst = none ∧ o.guard = none ∧ ∃ r vh, inW W r = true ∧ QS P T N w0 f h o r vh ∧ K f (puth h r vh)))
def AI (P : Program) (T : TypeId) (N : Nat) (w0 : Org) (ops : Array Oper) (τ : List TyI) (W : Option (List Nat)) (S : Array Bool) (Lf : Array Bool → Ff → Hf → Prop) : Nat → Array Bool → Ff → Hf → Prop
  | 0, listed, f, h => (∀ j, S.getD j false = true → listed.getD j true = true) ∧ Lf listed f h
  | n + 1, listed, f, h => Region.ready .any ops listed ≠ [] ∧ ∀ i ∈ Region.ready .any ops listed, qI P T N w0 ops τ W i (AI P T N w0 ops τ W S Lf n (listed.setIfInBounds i true)) f h
theorem wantI_put {f : Ff} {o : Oper} {d : Nat} {v : SV} (h : d ∉ o.looksAt ops) : wantI ops (putf f d v) o = wantI ops f o := by
  unfold wantI
  cases hg : o.guard with
  | none => rfl
  | some gw =>
    obtain ⟨j, w⟩ := gw
    simp only
    cases ht : (ops[j]?).bind (·.dst) with
    | none => rfl
    | some t =>
      have hne : d ≠ t := fun e => h (by subst e; simp [Oper.looksAt, hg, ht])
      simp only [putf, hne, if_false]
theorem tmp_looks {o : Oper} {t : Nat} (h : Operand.tmp t ∈ o.op.operands.toList) : t ∈ o.looksAt ops := by
  unfold Oper.looksAt
  exact List.mem_append_left _ (List.mem_filterMap.2 ⟨.tmp t, h, rfl⟩)
theorem QF_put {W : Option (List Nat)} {f : Ff} {h : Hf} {o : Oper} {d : Nat} {v : SV} {post : SV → Prop} (hd : d ∉ o.looksAt ops) : QF P T N w0 W (putf f d v) h o post ↔ QF P T N w0 W f h o post := by
  have key : ∀ t, Operand.tmp t ∈ o.op.operands.toList → putf f d v t = f t := fun t ht => by
    have hne : d ≠ t := fun e => hd (by subst e; exact tmp_looks ht)
    simp [putf, hne]
  constructor
  · intro hq s h1 h2
    exact hq s (fun t ht => (h1 t ht).trans (key t ht).symm) h2
  · intro hq s h1 h2
    exact hq s (fun t ht => (h1 t ht).trans (key t ht)) h2
theorem QA_put {f : Ff} {h : Hf} {o : Oper} {d e : Nat} {v sv : SV} {vh : VH} (hd : d ∉ o.looksAt ops) (hq : QA P T N w0 (putf f d v) h o e vh sv) : QA P T N w0 f h o e vh sv := fun s h1 h2 h3 =>
  hq s (fun t ht => (h1 t ht).trans (by
    have hne : d ≠ t := fun e => hd (by subst e; exact tmp_looks ht)
    simp [putf, hne])) h2 h3
theorem QS_put {f : Ff} {h : Hf} {o : Oper} {d r : Nat} {v : SV} {vh : VH} (hd : d ∉ o.looksAt ops) (hq : QS P T N w0 (putf f d v) h o r vh) : QS P T N w0 f h o r vh := fun s h1 h2 =>
  hq s (fun t ht => (h1 t ht).trans (by
    have hne : d ≠ t := fun e => hd (by subst e; exact tmp_looks ht)
    simp [putf, hne])) h2
theorem QK_put {f : Ff} {h : Hf} {o : Oper} {d x r e : Nat} {v sv : SV} {vh : VH} (hd : d ∉ o.looksAt ops) (hq : QK P T N w0 (putf f d v) h o x r vh e sv) : QK P T N w0 f h o x r vh e sv := fun s h1 h2 h3 =>
  hq s (fun t ht => (h1 t ht).trans (by
    have hne : d ≠ t := fun e => hd (by subst e; exact tmp_looks ht)
    simp [putf, hne])) h2 h3
theorem okQ_put {W : Option (List Nat)} {f : Ff} {h : Hf} {o : Oper} {d : Nat} {v : SV} {post : SV → Prop} (hd : d ∉ o.looksAt ops) : okQ P T N w0 ops W (putf f d v) h o post ↔ okQ P T N w0 ops W f h o post := by
  unfold okQ
  rw [wantI_put hd, QF_put (ops := ops) hd]
theorem okQ_mono {W : Option (List Nat)} {f : Ff} {h h' : Hf} {o : Oper} {post : SV → Prop} (hm : ∀ r, inW W r = false → (h r).live = true → h' r = h r) (hq : okQ P T N w0 ops W f h o post) : okQ P T N w0 ops W f h' o post := by
  rcases hq with ⟨h1, h2⟩ | hq
  · exact .inl ⟨h1, fun s q1 q2 => h2 s q1 fun r hr hl => by
      have e := hm r hr hl
      rw [q2 r hr (by rw [e]; exact hl), e]⟩
  · exact .inr hq
theorem okQ_new {W : Option (List Nat)} {f : Ff} {h : Hf} {o : Oper} {d : Nat} {vh : VH} {post : SV → Prop} (hl : (h d).live = false) (hq : okQ P T N w0 ops W f h o post) : okQ P T N w0 ops W f (puth h d vh) o post :=
  okQ_mono (fun r _ hr => by
    have : d ≠ r := fun e => by subst e; rw [hl] at hr; cases hr
    simp [puth, this]) hq
theorem okQ_st {W : Option (List Nat)} {f : Ff} {h : Hf} {o : Oper} {d : Nat} {vh : VH} {post : SV → Prop} (hl : inW W d = true) (hq : okQ P T N w0 ops W f h o post) : okQ P T N w0 ops W f (puth h d vh) o post :=
  okQ_mono (fun r hr _ => by
    have : d ≠ r := fun e => by subst e; rw [hl] at hr; cases hr
    simp [puth, this]) hq
def addD (ops : Array Oper) (listed : Array Bool) (D : List Nat) (j : Nat) : List Nat :=
  match ops[j]? with
  | none => D
  | some oj => bif !listed.getD j true && oj.after.any (fun e => Region.binds .any e && memB D e.on) then j :: D else D
def waitD (ops : Array Oper) (listed : Array Bool) (i : Nat) : List Nat := (List.range ops.size).foldl (addD ops listed) [i]
theorem memB_iff {l : List Nat} {r : Nat} : memB l r = true ↔ r ∈ l := by
  induction l with
  | nil => simp [memB]
  | cons x l ih =>
    simp only [memB, beq_eq]
    by_cases e : x = r
    · simp [e]
    · have : ¬ r = x := fun h => e h.symm
      simp [e, ih, this]
theorem waitD_spec {listed : Array Bool} {i : Nat} : ∀ j ∈ waitD ops listed i, j ≠ i → listed.getD j true = false ∧ ∃ oj, ops[j]? = some oj ∧ ∃ e ∈ oj.after, Region.binds .any e = true ∧ e.on ∈ waitD ops listed i := by
  have key : ∀ (l : List Nat) (D : List Nat), (∀ j ∈ D, j ≠ i → listed.getD j true = false ∧ ∃ oj, ops[j]? = some oj ∧ ∃ e ∈ oj.after, Region.binds .any e = true ∧ e.on ∈ D) →
      ∀ j ∈ l.foldl (addD ops listed) D, j ≠ i → listed.getD j true = false ∧ ∃ oj, ops[j]? = some oj ∧ ∃ e ∈ oj.after, Region.binds .any e = true ∧ e.on ∈ l.foldl (addD ops listed) D := by
    intro l
    induction l with
    | nil => intro D h; exact h
    | cons k l ih =>
      intro D h
      refine ih _ fun j hj hne => ?_
      unfold addD at hj ⊢
      cases hk : ops[k]? with
      | none => rw [hk] at hj; exact h j hj hne
      | some ok =>
        rw [hk] at hj
        simp only at hj ⊢
        cases hc : (!listed.getD k true && ok.after.any (fun e => Region.binds .any e && memB D e.on)) with
        | false => rw [hc] at hj; exact h j hj hne
        | true =>
          rw [hc] at hj
          simp only [cond_true] at hj ⊢
          rw [Bool.and_eq_true] at hc
          rcases List.mem_cons.1 hj with rfl | hj
          · obtain ⟨e, he, hb⟩ := Array.any_eq_true'.1 hc.2
            rw [Bool.and_eq_true] at hb
            exact ⟨by simpa using hc.1, ok, hk, e, he, hb.1, List.mem_cons_of_mem _ (memB_iff.1 hb.2)⟩
          · obtain ⟨q1, oj, q2, e, q3, q4, q5⟩ := h j hj hne
            exact ⟨q1, oj, q2, e, q3, q4, List.mem_cons_of_mem _ q5⟩
  exact key _ _ fun j hj hne => by simp at hj; exact absurd hj hne
def freeS (ops : Array Oper) (S listed : Array Bool) (i : Nat) : Bool :=
  match ops[i]? with
  | none => false
  | some oi => (List.range ops.size).all fun j => Nat.beq j i || listed.getD j true || memB (waitD ops listed i) j || match ops[j]? with
      | some oj => S.getD j false && oi.apart ops oj
      | none => true
theorem freeS_spec {i : Nat} {oi : Oper} {S listed : Array Bool} (hi : ops[i]? = some oi) (h : freeS ops S listed i = true) (j : Nat) (oj : Oper)
    (hj : ops[j]? = some oj) (hne : j ≠ i) (hun : listed.getD j true = false) (hno : j ∉ waitD ops listed i) :
    S.getD j false = true ∧ oi.apart ops oj = true := by
  simp only [freeS, hi, List.all_eq_true, List.mem_range] at h
  have h1 := h j (Array.getElem?_eq_some_iff.1 hj).1
  have hm : memB (waitD ops listed i) j = false := by
    rw [Bool.eq_false_iff]; exact fun h => hno (memB_iff.1 h)
  simp only [hj, Bool.or_eq_true, beq_eq, decide_eq_true_eq, hne, false_or, hun, hm, Bool.false_eq_true] at h1
  simpa using h1
def stW (ops : Array Oper) (listed : Array Bool) (i : Nat) : Bool :=
  (List.range ops.size).all fun j => Nat.beq j i || listed.getD j true || memB (waitD ops listed i) j || match ops[j]? with
      | some oj => !chg oj
      | none => true
theorem stW_spec {i : Nat} {listed : Array Bool} (h : stW ops listed i = true) (j : Nat) (oj : Oper)
    (hj : ops[j]? = some oj) (hne : j ≠ i) (hun : listed.getD j true = false) (hno : j ∉ waitD ops listed i) : chg oj = false := by
  simp only [stW, List.all_eq_true, List.mem_range] at h
  have h1 := h j (Array.getElem?_eq_some_iff.1 hj).1
  have hm : memB (waitD ops listed i) j = false := by
    rw [Bool.eq_false_iff]; exact fun h => hno (memB_iff.1 h)
  simp only [hj, Bool.or_eq_true, beq_eq, decide_eq_true_eq, hne, false_or, hun, hm, Bool.false_eq_true] at h1
  simpa using h1
theorem AI_first {W wf : Option (List Nat)} {D : List Nat} {S : Array Bool} {Lf : Array Bool → Ff → Hf → Prop} {i d : Nat} {oi : Oper} {v : SV} (hi : ops[i]? = some oi) (hd : oi.dst = some d) (hN : d < N) (hnal : ∀ t, oi.op ≠ .alloc t) : ∀ (n : Nat) (listed : Array Bool) (f : Ff) (h : Hf),
    (∀ j ∈ D, j ≠ i → listed.getD j true = false ∧ ∃ oj, ops[j]? = some oj ∧ ∃ e ∈ oj.after, Region.binds .any e = true ∧ e.on ∈ D) → (∀ j oj, ops[j]? = some oj → j ≠ i → listed.getD j true = false → j ∉ D → S.getD j false = true ∧ oi.apart ops oj = true ∧ (chg oj = true → wf = W)) →
    i ∈ Region.ready .any ops listed → (∀ e, (f d).has e = false) → okQ P T N w0 ops wf f h oi (fun x => x = v) → AI P T N w0 ops τ W S Lf n (listed.setIfInBounds i true) (putf f d v) h → AI P T N w0 ops τ W S Lf (n + 1) listed f h := by
  intro n
  induction n with
  | zero =>
    intro listed f h hwait hfree hr hu hok H
    refine ⟨fun e => (by rw [e] at hr; cases hr), fun j hj => ?_⟩
    by_cases hji : j = i
    · subst hji
      exact ⟨oi, hi, .inl ⟨d, hd, hN, .inl ⟨wf, _, hok, fun x hx => hx ▸ H⟩⟩⟩
    · obtain ⟨hjun, oj, hoj, hall⟩ := mem_ready.1 hj
      have hnot : j ∉ D := fun hjD => by
        obtain ⟨_, oj', q1, e, he, hb, heD⟩ := hwait j hjD hji
        obtain rfl : oj = oj' := by rw [hoj] at q1; injection q1
        have h1 := hall e he hb
        have h0 : listed.getD e.on true = false := by
          by_cases hei : e.on = i
          · rw [hei]; exact (mem_ready.1 hr).1
          · exact (hwait e.on heD hei).1
        rcases Nat.lt_or_ge e.on listed.size with h' | h'
        · simp [h'] at h0 h1; rw [h0] at h1; cases h1
        · simp [Array.getElem?_eq_none h'] at h1
      have h2 := H.1 j (hfree j oj hoj hji hjun hnot).1
      rw [getD_set_ne true (Ne.symm hji), hjun] at h2
      cases h2
  | succ n ih =>
    intro listed f h hwait hfree hr hu hok H
    refine ⟨fun e => (by rw [e] at hr; cases hr), fun j hj => ?_⟩
    by_cases hji : j = i
    · subst hji
      exact ⟨oi, hi, .inl ⟨d, hd, hN, .inl ⟨wf, _, hok, fun x hx => hx ▸ H⟩⟩⟩
    · obtain ⟨hjun, oj, hoj, hall⟩ := mem_ready.1 hj
      have hnot : j ∉ D := fun hjD => by
        obtain ⟨_, oj', q1, e, he, hb, heD⟩ := hwait j hjD hji
        obtain rfl : oj = oj' := by rw [hoj] at q1; injection q1
        have h1 := hall e he hb
        have h0 : listed.getD e.on true = false := by
          by_cases hei : e.on = i
          · rw [hei]; exact (mem_ready.1 hr).1
          · exact (hwait e.on heD hei).1
        rcases Nat.lt_or_ge e.on listed.size with h' | h'
        · simp [h'] at h0 h1; rw [h0] at h1; cases h1
        · simp [Array.getElem?_eq_none h'] at h1
      have hfr := hfree j oj hoj hji hjun hnot
      obtain ⟨p1, p2, p3⟩ := Oper.apart_spec hfr.2.1
      obtain ⟨o', q1, q4⟩ := H.2 j (ready_mono hj hji)
      obtain rfl : oj = o' := by rw [hoj] at q1; injection q1
      have hfree' : ∀ k ok, ops[k]? = some ok → k ≠ i → (listed.setIfInBounds j true).getD k true = false →
          k ∉ D → S.getD k false = true ∧ oi.apart ops ok = true ∧ (chg ok = true → wf = W) := fun k ok hk hki hun hno => by
        refine hfree k ok hk hki ?_ hno
        by_cases hjk : j = k
        · subst hjk; exact hjun
        · rw [getD_set_ne true hjk] at hun; exact hun
      have hwait' : ∀ k ∈ D, k ≠ i → (listed.setIfInBounds j true).getD k true = false ∧ ∃ ok, ops[k]? = some ok ∧ ∃ e ∈ ok.after, Region.binds .any e = true ∧ e.on ∈ D := fun k hk hki => by
        obtain ⟨q1, q2⟩ := hwait k hk hki
        refine ⟨?_, q2⟩
        rw [getD_set_ne true (fun e => hnot (by rw [e]; exact hk))]
        exact q1
      refine ⟨oj, hoj, ?_⟩
      rcases q4 with ⟨e, q2, q3, q4⟩ | ⟨q2, q3, r, vh, k1, k2, k3⟩
      · have hde : d ≠ e := fun he => p2 d hd (by rw [q2, he])
        refine .inl ⟨e, q2, q3, ?_⟩
        rcases q4 with ⟨wj, post, k1, k2⟩ | ⟨t, zs, k1, k2, k3, k4, k5⟩ | ⟨vh, sv, k2, k3, k4, k5⟩ | ⟨x, r, vh, sv, c1, c2, c3, c4, c5, k2, k3, k4, k5⟩
        · refine .inl ⟨wj, post, (okQ_put (p1 d hd)).1 k1, fun u hpu => ?_⟩
          refine ih (listed.setIfInBounds j true) _ _ hwait' hfree' (ready_mono hr (Ne.symm hji)) (fun q => ?_) ((okQ_put (p3 e q2)).2 hok) ?_
          · simp only [putf, Ne.symm hde, if_false]; exact hu q
          · rw [Array.setIfInBounds_comm _ _ hji, putf_comm _ _ _ (Ne.symm hde)]
            exact k2 u hpu
        · refine .inr (.inl ⟨t, zs, k1, k2, k3, ⟨fun x => ?_, k4.hh, k4.ll⟩, ?_⟩)
          · have := k4.ff x
            simp only [putf] at this
            by_cases hx : d = x
            · subst hx; exact hu e
            · rwa [if_neg hx] at this
          · refine ih (listed.setIfInBounds j true) _ _ hwait' hfree' (ready_mono hr (Ne.symm hji)) (fun q => ?_) (okQ_new k4.ll ((okQ_put (p3 e q2)).2 hok)) ?_
            · simp only [putf, Ne.symm hde, if_false]; exact hu q
            · rw [Array.setIfInBounds_comm _ _ hji, putf_comm _ _ _ (Ne.symm hde)]
              exact k5
        · refine .inr (.inr (.inl ⟨vh, sv, by rw [← wantI_put (p1 d hd)]; exact k2, QA_put (p1 d hd) k3, ⟨fun x => ?_, k4.hh, k4.ll⟩, ?_⟩))
          · have := k4.ff x
            simp only [putf] at this
            by_cases hx : d = x
            · subst hx; exact hu e
            · rwa [if_neg hx] at this
          · refine ih (listed.setIfInBounds j true) _ _ hwait' hfree' (ready_mono hr (Ne.symm hji)) (fun q => ?_) (okQ_new k4.ll ((okQ_put (p3 e q2)).2 hok)) ?_
            · simp only [putf, Ne.symm hde, if_false]; exact hu q
            · rw [Array.setIfInBounds_comm _ _ hji, putf_comm _ _ _ (Ne.symm hde)]
              exact k5
        · have hdx : d ≠ x := fun e => p1 d hd (by rw [e]; exact c3)
          have hxi : x ∉ oi.looksAt ops := c4 i oi hi (Ne.symm hji)
          refine .inr (.inr (.inr ⟨x, r, vh, sv, c1, c2, c3, c4, c5, by rw [← wantI_put (p1 d hd)]; exact k2, QK_put (p1 d hd) k3, fun y hy => ?_, ?_⟩))
          · have := k4 y hy
            simp only [putf] at this
            by_cases hx : d = y
            · subst hx; exact hu r
            · rwa [if_neg hx] at this
          · refine ih (listed.setIfInBounds j true) _ _ hwait' hfree' (ready_mono hr (Ne.symm hji)) (fun q => ?_) (okQ_st (by rw [hfr.2.2 c1]; exact c2) ((okQ_put (p3 e q2)).2 ((okQ_put hxi).2 hok))) ?_
            · simp only [putf, Ne.symm hde, Ne.symm hdx, if_false]; exact hu q
            · rw [Array.setIfInBounds_comm _ _ hji, putf_comm _ _ _ (Ne.symm hde), putf_comm (d := x) f _ _ (Ne.symm hdx)]
              exact k5
      · refine .inr ⟨q2, q3, r, vh, k1, QS_put (p1 d hd) k2, ?_⟩
        refine ih (listed.setIfInBounds j true) _ _ hwait' hfree' (ready_mono hr (Ne.symm hji)) hu (okQ_st (by rw [hfr.2.2 (by simp [chg, q2])]; exact k1) hok) ?_
        rw [Array.setIfInBounds_comm _ _ hji]
        exact k3
theorem wanted_of {f : Ff} {s : St} {a : Act} {w : World} {g : Gh} {o : Oper} (hs : Sim P T N w0 g s a w) (h1 : ∀ x, getF s.F x = f x) (w1 : wantI ops f o = some true) : Region.wanted o (yielded ops a.tmps) = true := by
  unfold wantI at w1
  cases hg : o.guard with
  | none => simp [Region.wanted, hg]
  | some gw =>
    obtain ⟨j, w'⟩ := gw
    rw [hg] at w1
    simp only at w1
    cases ht : (ops[j]?).bind (·.dst) with
    | none => rw [ht] at w1; cases w1
    | some t =>
      rw [ht] at w1
      simp only at w1
      split at w1
      · rename_i c hc
        have hy := yielded_of hs ht (by rw [h1]; exact hc)
        simp [Region.wanted, hg, hy]
        simpa using w1
      · cases w1
      · cases w1
theorem AI_sound (hτ : tabB P 0 τ = true) {W : Option (List Nat)} {S : Array Bool} {Lf : Array Bool → Ff → Hf → Prop} {m : Nat} {Q : St → Prop} (hL : ∀ listed f h s, Lf listed f h → (∀ x, getF s.F x = f x) → (∀ r, getH s.H r = h r) → irn P T N w0 ops m listed Q s) : ∀ (n : Nat) (listed : Array Bool) (f : Ff) (h : Hf) (s : St),
    AI P T N w0 ops τ W S Lf n listed f h → (∀ x, getF s.F x = f x) → (∀ r, getH s.H r = h r) → irn P T N w0 ops (n + m) listed Q s := by
  intro n
  induction n with
  | zero => intro listed f h s H h1 h2; rw [Nat.zero_add]; exact hL listed f h s H.2 h1 h2
  | succ n ih =>
    intro listed f h s H h1 h2 g a w hs Q' hQ hnp
    rw [show n + 1 + m = (n + m) + 1 by omega]
    refine ⟨fun e => absurd e H.1, fun i hi => ?_⟩
    obtain ⟨o, q1, q4⟩ := H.2 i hi
    unfold wpOp
    rw [q1]
    simp only
    rcases q4 with ⟨d, q2, q3, q4⟩ | ⟨q2, q3, r, vh, k1, k2, k3⟩
    · have hput : ∀ (v : SV) (x : Nat), getF (s.put d v).F x = putf f d v x := fun v x => by
        rw [get_put]; simp only [putf]; by_cases e : d = x <;> simp [e, h1]
      rcases q4 with ⟨wj, post, k1, k2⟩ | ⟨t, zs, k1, k2, k3, k4, k5⟩ | ⟨vh, sv, k2, k3, k4, k5⟩ | ⟨x, r, vh, sv, c1, c2, c3, c4, c5, k2, k3, k4, k5⟩
      · rcases k1 with ⟨w1, w2⟩ | ⟨w1, w2⟩
        · have hw : Region.wanted o (yielded ops a.tmps) = true := by
            unfold wantI at w1
            cases hg : o.guard with
            | none => simp [Region.wanted, hg]
            | some gw =>
              obtain ⟨j, w'⟩ := gw
              rw [hg] at w1
              simp only at w1
              cases ht : (ops[j]?).bind (·.dst) with
              | none => rw [ht] at w1; cases w1
              | some t =>
                rw [ht] at w1
                simp only at w1
                split at w1
                · rename_i c hc
                  have hy := yielded_of hs ht (by rw [h1]; exact hc)
                  simp [Region.wanted, hg, hy]
                  simpa using w1
                · cases w1
                · cases w1
          rw [if_pos hw]
          refine .inl (w2 s (fun t _ => h1 t) (fun r _ _ => h2 r) g a w hs _ _ fun v w' ⟨g', sv, e1, e2, e3⟩ => ?_)
          rw [q2]
          exact ih _ _ _ (s.put d sv) (k2 sv e1) (hput sv) h2 g' _ _ ((hs.ext e2).put q3 e3) Q' hQ hnp
        · have hw : Region.wanted o (yielded ops a.tmps) = false := by
            unfold wantI at w1
            cases hg : o.guard with
            | none => rw [hg] at w1; simp at w1
            | some gw =>
              obtain ⟨j, w'⟩ := gw
              rw [hg] at w1
              simp only at w1
              cases ht : (ops[j]?).bind (·.dst) with
              | none => rw [ht] at w1; cases w1
              | some t =>
                rw [ht] at w1
                simp only at w1
                split at w1
                · rename_i c hc
                  have hy := yielded_of hs ht (by rw [h1]; exact hc)
                  simp [Region.wanted, hg, hy]
                  simpa using w1
                · rename_i hc
                  have hy := yielded_z hs ht (by rw [h1]; exact hc)
                  simp [Region.wanted, hg, hy]
                · cases w1
          rw [if_neg (by simp [hw]), q2]
          exact ih _ _ _ (s.put d (.tup [])) (k2 (.tup []) (by rw [w2])) (hput (.tup [])) h2 g _ _ (hs.putZ q3) Q' hQ hnp
      · rw [if_pos (by simp [Region.wanted, k2])]
        have hR : OpR P T N w0 s o (fun s' => s' = (s.hput d (.blk t (zs.map Z.cv))).put d (.one (.ref d 0))) := by
          intro g a w hs K Q hK
          obtain ⟨i, z, hi, hz1, hz2, hz3⟩ := zeroB_spec (tab_zs hτ k3)
          have hrun : (execOp a.eval o).run P w = .ok (.value (.pointer (some ⟨w.heap.size, 0, none⟩))) (w.alloc (.cells z.cells t)) := by
            simp [execOp, k1, Instr.alloc, zeroValue, typeInfo, hi, hz1, newVar, newRow]
          have h3 := hs.newG (d := d) (fun x => by rw [h1]; exact k4.ff x) (fun r => by rw [h2]; exact k4.hh r) (r0 := none) (ob := none) (nb := some w.heap.size) (k := 0) (w' := w.alloc (.cells z.cells t)) (vh := .blk t (zs.map Z.cv)) (fun b hb => by cases hb) (World.grownBy_alloc w _ none) (fun b hb => by simp at hb; subst hb; exact ⟨.inr (Nat.le_refl _), by simp⟩) rfl
            (fun hf => ⟨w.heap.size, z.cells, by simp [Gh.new, updO], Blk.new _ _ _, hz2, fun j u c hu hc => hz3 _ _ j u c hu hc⟩)
          unfold Oper.wp
          rw [hrun]
          refine hK (g.new d (some w.heap.size) 0) _ _ _ rfl ?_
          rw [q2]
          exact Sim.put h3 q3 (.one (.ref 0 (by simp [Gh.new, updO])))
        refine .inl (hR g a w hs _ _ fun g' s' a' w' e hs' => ?_)
        subst e
        exact ih _ _ _ _ k5 (fun x => by
          show getF (St.put _ d _).F x = _
          rw [get_put]; simp only [putf]; by_cases e : d = x <;> simp [e, h1, St.hput]) (fun r => by
          show getH ((d, _) :: s.H) r = _
          rw [hget_put]; simp only [puth]; by_cases e : d = r <;> simp [e, h2]) g' _ _ hs' Q' hQ hnp
      · rw [if_pos (wanted_of hs h1 k2)]
        have hR : OpR P T N w0 s o (fun s' => s' = (s.hput d vh).put d sv) := k3 s (fun t _ => h1 t) h2 ⟨fun x => by rw [h1]; exact k4.ff x, fun r => by rw [h2]; exact k4.hh r, by rw [h2]; exact k4.ll⟩
        refine .inl (hR g a w hs _ _ fun g' s' a' w' e hs' => ?_)
        subst e
        exact ih _ _ _ _ k5 (fun x => by
          show getF (St.put _ d _).F x = _
          rw [get_put]; simp only [putf]; by_cases e : d = x <;> simp [e, h1, St.hput]) (fun r => by
          show getH ((d, _) :: s.H) r = _
          rw [hget_put]; simp only [puth]; by_cases e : d = r <;> simp [e, h2]) g' _ _ hs' Q' hQ hnp
      · rw [if_pos (wanted_of hs h1 k2)]
        have hR := k3 s (fun t _ => h1 t) h2 (fun y hy => by rw [h1]; exact k4 y hy)
        refine .inl (hR g a w hs _ _ fun g' s' a' w' e hs' => ?_)
        subst e
        exact ih _ _ _ _ k5 (fun y => by
          show getF (St.put _ d _).F y = _
          rw [get_put]; simp only [putf, getF, beq_eq]
          by_cases e : d = y
          · simp [e]
          · by_cases e2 : x = y <;> simp [e, e2, h1]) (fun q => by
          show getH ((r, _) :: s.H) q = _
          rw [hget_put]; simp only [puth]; by_cases e : r = q <;> simp [e, h2]) g' _ _ hs' Q' hQ hnp
    · rw [if_pos (by simp [Region.wanted, q3])]
      refine .inl (k2 s (fun t _ => h1 t) h2 g a w hs _ _ fun g' s' a' w' e hs' => ?_)
      subst e
      exact ih _ _ _ (s.hput r vh) k3 h1 (fun q => by
        show getH ((r, _) :: s.H) q = _
        rw [hget_put]; simp only [puth]; by_cases e : r = q <;> simp [e, h2]) g' _ _ hs' Q' hQ hnp
end
end Go.Proofs.Ytcbppkfnfbdkhaa
/- Regions that draw their order: the rules. -/
set_option linter.all false
namespace Go.Proofs.Ytcbppkfnfbdkhaa
open Go.RowKit Go.Shelf

@[irreducible] def rn (k : Wk) (w0 : Org) (ops : Array Oper) (n : Nat) (listed : Array Bool) (Q : St → Prop) (s : St) : Prop := irn k.P k.T k.N w0 ops n listed Q s
def opTmps : List Operand → List Nat
  | [] => []
  | .tmp t :: l => t :: opTmps l
  | _ :: l => opTmps l
def lkF (F : List (Nat × SV)) : List Nat → List (Nat × SV)
  | [] => []
  | t :: l => (t, getF F t) :: lkF F l
def LfS (k : Wk) (w0 : Org) (ops : Array Oper) (m : Nat) (Q : St → Prop) (listed : Array Bool) (f : Ff) (h : Hf) : Prop :=
  ∃ s0 : St, (∀ x, getF s0.F x = f x) ∧ (∀ r, getH s0.H r = h r) ∧ irn k.P k.T k.N w0 ops m listed Q s0
@[irreducible] def qn (k : Wk) (w0 : Org) (ops : Array Oper) (W : Option (List Nat)) (S : Array Bool) (m : Nat) (Q : St → Prop) (l : List Nat) (listed : Array Bool) (s : St) : Prop :=
  AI k.P k.T k.N w0 ops k.τ W S (LfS k w0 ops m Q) l.length listed (getF s.F) (getH s.H)
@[irreducible] def qst (k : Wk) (w0 : Org) (ops : Array Oper) (W : Option (List Nat)) (S : Array Bool) (m : Nat) (Q : St → Prop) (n i : Nat) (listed : Array Bool) (s : St) : Prop :=
  qI k.P k.T k.N w0 ops k.τ W i (AI k.P k.T k.N w0 ops k.τ W S (LfS k w0 ops m Q) n (listed.setIfInBounds i true)) (getF s.F) (getH s.H)
section
variable {k : Wk} {w0 : Org} {ops : Array Oper} {W : Option (List Nat)} {S listed : Array Bool} {nq m n : Nat} {Q : St → Prop} {s : St} {l : List Nat}
theorem opTmps_mem {l : List Operand} {t : Nat} : t ∈ opTmps l ↔ Operand.tmp t ∈ l := by
  induction l with
  | nil => simp [opTmps]
  | cons x l ih => cases x <;> simp [opTmps, ih]
theorem lkF_get (F : List (Nat × SV)) (l : List Nat) (x : Nat) : getF (lkF F l) x = if x ∈ l then getF F x else .u := by
  induction l with
  | nil => rfl
  | cons t l ih =>
    simp only [lkF, getF, beq_eq]
    by_cases e : t = x
    · subst e; simp
    · simp only [e, decide_false, cond_false, ih]
      have : ¬ x = t := fun h => e h.symm
      simp [this]
theorem Sim.alike {P : Program} {T : TypeId} {N : Nat} {g : Gh} {a : Act} {w : World} {s s' : St} (hs : Sim P T N w0 g s a w) (hF : ∀ x, getF s'.F x = getF s.F x ∨ getF s'.F x = .u) (hH : ∀ r, getH s'.H r = getH s.H r) : Sim P T N w0 g s' a w := by
  have lv : ∀ r, live s'.H r → live s.H r := fun r h => by unfold live at h ⊢; rwa [hH] at h
  refine ⟨⟨fun r r' b a1 a2 => hs.gi.inj r r' b (lv r a1) (lv r' a2), fun r b a1 => hs.gi.bd r b (lv r a1), fun b o hr => ?_, hs.gi.keep, hs.gi.tape, hs.gi.org, hs.gi.exs (fun _ _ h => h) fun c hc => ⟨rfl, hc.2.2.1, hc.2.2.2.1, fun r a1 => hc.2.2.2.2 r (lv r a1)⟩⟩, hs.dn, hs.nt, fun x => ?_, fun r => by rw [hH]; exact hs.hH r⟩
  · obtain ⟨q1, q2, q3⟩ := hs.gi.rd b o hr
    exact ⟨q1, q2, fun r a1 => q3 r (lv r a1)⟩
  · rcases hF x with e | e
    · rw [e]; exact hs.hF x
    · rw [e]; exact .u _
theorem n_start {id : Nat} {l : List Oper} {Q : Exit → St → Prop} (hm : k.P.follows .mixedOrders = true) (h : rn k w0 l.toArray l.length (Array.replicate l.length false) (Q .normal) s) : wk k w0 (.region id l.toArray true) Q s := by
  refine wkI fun g a w hs => ?_
  unfold rn at h
  have hd : Sim k.P k.T k.N w0 g s a { w with drawn := w.drawn + 1 } := by
    refine hs.ext (g' := g) (w' := { w with drawn := w.drawn + 1 }) ⟨rfl, rfl, rfl, rfl, fun _ _ h => h, fun _ _ h => .inl h, ⟨rfl, rfl, rfl, Nat.le_refl _, fun _ _ => rfl⟩, fun tb htb => ?_, rfl⟩
    exact (hs.gi.tape tb htb).2.keep ⟨fun _ _ h => h, fun _ _ _ => rfl⟩ rfl
  have := h g a _ hd (fun e a' w' => match e with | .normal => ∃ g' s', Q .normal s' ∧ Sim k.P k.T k.N w0 g' s' a' w' | _ => False) (fun g' s' a' w' hq hs' => ⟨g', s', hq, hs'⟩) (fun _ _ _ h => h)
  exact wp_mono (wp_region_any hm (by simpa using this)) fun e a' w' hq => by
    cases e with
    | normal => exact hq
    | _ => cases hq
theorem n_done (hr : Region.ready .any ops listed = []) (h : Q s) : rn k w0 ops 0 listed Q s := by
  unfold rn
  exact fun g a w hs Q' hQ _ => ⟨hr, hQ g s a w h hs⟩
theorem n_doneZ (hn : n = 0) (hr : Region.ready .any ops listed = []) (h : Q s) : rn k w0 ops n listed Q s := by subst hn; exact n_done hr h
theorem rg_op {o : Oper} {i : Nat} {K : St → Prop} (hi : ops[i]? = some o) (h : rg k w0 ops [o] K s) {g : Gh} {a : Act} {w : World} (hs : Sim k.P k.T k.N w0 g s a w) {Q' : Exit → Act → World → Prop} {K' : Act → World → Prop} (hK : ∀ g' s' a' w', K s' → Sim k.P k.T k.N w0 g' s' a' w' → K' a' w') : wpOp k.P ops Q' i K' a w := by
  have h1 := rgO h g a w hs (fun e a w => match e with | .normal => K' a w | e => Q' e a w) hK
  unfold wpOp
  rw [hi]
  simp only
  unfold wpList at h1
  split
  · rename_i hw
    rw [if_pos hw] at h1
    rcases h1 with h1 | ⟨h1, a', w', h2⟩
    · refine .inl ?_
      unfold Oper.wp at h1 ⊢
      generalize (execOp a.eval o).run k.P w = r at h1
      cases r with
      | ok n w' =>
        cases n <;> simp only [Oper.upon] at h1 ⊢ <;> first
          | exact h1
          | (refine Calls.mono h1 fun e w'' he => ?_
             cases e <;> first
               | exact he
               | (obtain ⟨a2, w2, h3⟩ := he; exact ⟨a2, w2, h3⟩))
          | exact Rows.mono h1 fun _ _ he => he
      | halt x w' => cases x <;> simp only [Oper.upon] at h1 ⊢ <;> exact h1
    · exact .inr ⟨h1, a', w', h2⟩
  · rename_i hw
    rw [if_neg hw] at h1
    exact h1
theorem n_one {d0 : Option Nat} {op0 : Op} {ty0 : TypeId} {pp0 : String} {af0 : Array Edge} {gd0 : Option (Nat × Bool)} (i : Nat) (hr : Region.ready .any ops listed = [i]) (hi : ops[i]? = some ⟨d0, op0, ty0, pp0, af0, gd0⟩) (h : rg k w0 ops [⟨d0, op0, ty0, pp0, af0, gd0⟩] (fun s' => rn k w0 ops n (listed.setIfInBounds i true) Q s') s) : rn k w0 ops (n + 1) listed Q s := by
  unfold rn
  intro g a w hs Q' hQ hp
  refine ⟨fun e => (by rw [hr] at e; cases e), fun j hj => ?_⟩
  rw [hr] at hj
  simp at hj
  subst hj
  exact rg_op hi h hs fun g' s' a' w' hk hs' => by unfold rn at hk; exact hk g' a' w' hs' Q' hQ hp
theorem n_two {d0 : Option Nat} {op0 : Op} {ty0 : TypeId} {pp0 : String} {af0 : Array Edge} {gd0 : Option (Nat × Bool)} {d1 : Option Nat} {op1 : Op} {ty1 : TypeId} {pp1 : String} {af1 : Array Edge} {gd1 : Option (Nat × Bool)} (i j : Nat) (hr : Region.ready .any ops listed = [i, j]) (hi : ops[i]? = some ⟨d0, op0, ty0, pp0, af0, gd0⟩) (hj : ops[j]? = some ⟨d1, op1, ty1, pp1, af1, gd1⟩) (h : rg k w0 ops [⟨d0, op0, ty0, pp0, af0, gd0⟩] (fun s' => rn k w0 ops n (listed.setIfInBounds i true) Q s') s) (h' : rg k w0 ops [⟨d1, op1, ty1, pp1, af1, gd1⟩] (fun s' => rn k w0 ops n (listed.setIfInBounds j true) Q s') s) : rn k w0 ops (n + 1) listed Q s := by
  unfold rn
  intro g a w hs Q' hQ hp
  refine ⟨fun e => (by rw [hr] at e; cases e), fun q hq => ?_⟩
  rw [hr] at hq
  simp at hq
  rcases hq with rfl | rfl
  · exact rg_op hi h hs fun g' s' a' w' hk hs' => by unfold rn at hk; exact hk g' a' w' hs' Q' hQ hp
  · exact rg_op hj h' hs fun g' s' a' w' hk hs' => by unfold rn at hk; exact hk g' a' w' hs' Q' hQ hp
theorem n_three {d0 : Option Nat} {op0 : Op} {ty0 : TypeId} {pp0 : String} {af0 : Array Edge} {gd0 : Option (Nat × Bool)} {d1 : Option Nat} {op1 : Op} {ty1 : TypeId} {pp1 : String} {af1 : Array Edge} {gd1 : Option (Nat × Bool)} {d2 : Option Nat} {op2 : Op} {ty2 : TypeId} {pp2 : String} {af2 : Array Edge} {gd2 : Option (Nat × Bool)} (i j q : Nat) (hr : Region.ready .any ops listed = [i, j, q]) (hi : ops[i]? = some ⟨d0, op0, ty0, pp0, af0, gd0⟩) (hj : ops[j]? = some ⟨d1, op1, ty1, pp1, af1, gd1⟩) (hq : ops[q]? = some ⟨d2, op2, ty2, pp2, af2, gd2⟩) (h : rg k w0 ops [⟨d0, op0, ty0, pp0, af0, gd0⟩] (fun s' => rn k w0 ops n (listed.setIfInBounds i true) Q s') s) (h' : rg k w0 ops [⟨d1, op1, ty1, pp1, af1, gd1⟩] (fun s' => rn k w0 ops n (listed.setIfInBounds j true) Q s') s) (h'' : rg k w0 ops [⟨d2, op2, ty2, pp2, af2, gd2⟩] (fun s' => rn k w0 ops n (listed.setIfInBounds q true) Q s') s) : rn k w0 ops (n + 1) listed Q s := by
  unfold rn
  intro g a w hs Q' hQ hp
  refine ⟨fun e => (by rw [hr] at e; cases e), fun q hq => ?_⟩
  rw [hr] at hq
  simp at hq
  rcases hq with rfl | rfl | rfl
  · exact rg_op hi h hs fun g' s' a' w' hk hs' => by unfold rn at hk; exact hk g' a' w' hs' Q' hQ hp
  · exact rg_op hj h' hs fun g' s' a' w' hk hs' => by unfold rn at hk; exact hk g' a' w' hs' Q' hQ hp
  · exact rg_op hq h'' hs fun g' s' a' w' hk hs' => by unfold rn at hk; exact hk g' a' w' hs' Q' hQ hp
def OpP (k : Wk) (w0 : Org) (s : St) (o : Oper) (v : SV) : Prop :=
  ∀ g a w, Sim k.P k.T k.N w0 g s a w → ∃ u, (∀ w', (execOp a.eval o).run k.P w' = .ok (.value u) w') ∧ RepSV k.P g w u v
theorem p_fa {t x : Nat} {y : Operand} {o : Oper} {r off f fo nn : Nat} {fs zs} {e : Nat × Nat × Nat} (ho : o.op = .fieldAddr t y f) (hx : s.ev y = .one (.ref r off)) (ht : tyAt k.τ t = .st nn fs zs) (hf : fs[f]? = some e) : OpP k w0 s o (.one (.ref r (off + e.1))) := by
  intro g a w hs
  have h := hs.ev y; rw [hx] at h
  obtain ⟨b, hb, he⟩ := h.one_inv.ref_inv
  exact ⟨.pointer (some ⟨b, off + e.1, none⟩), fun w' => by simp [execOp, ho, he, run_fieldPlace (tab_fld k.ok ht hf).1], .one (.ref _ hb)⟩
theorem p_mv {y : Operand} {o : Oper} {v : SV} (ho : o.op = .move y) (hx : s.ev y = v) : OpP k w0 s o v := by
  intro g a w hs
  exact ⟨a.eval y, fun w' => by simp [execOp, ho], hx ▸ hs.ev y⟩
theorem n_pure {d : Nat} {v : SV} {op : Op} {ty : TypeId} {pp : String} {af : Array Edge} (i : Nat) (hs1 : Region.noSelect ops = true) (hi : ops[i]? = some ⟨some d, op, ty, pp, af, none⟩) (hN : Nat.blt d k.N = true) (hr : (Region.ready .any ops listed).contains i = true) (hf : Region.free .any ops listed i = true) (hp : OpP k w0 s ⟨some d, op, ty, pp, af, none⟩ v)
    (h : rn k w0 ops n (listed.setIfInBounds i true) Q (s.put d v)) : rn k w0 ops (n + 1) listed Q s := by
  unfold rn at h ⊢
  intro g a w hs Q' hQ hnp
  obtain ⟨u, h1, h2⟩ := hp g a w hs
  refine wpAny_first hi (Region.noSelect_spec hs1) (fun c a w hc => absurd hc (hnp _ _ _)) n listed a w (Region.free_spec hi hf) (by simpa using hr) (.inl ⟨by simp [Region.wanted], h1⟩) ?_
  exact h g _ w (hs.put (nlt hN) h2) Q' hQ hnp
theorem n_quiet (W : Option (List Nat)) (S : Array Bool) (l : List Nat) (m : Nat) (hn : n = l.length + m) (h : qn k w0 ops W S m Q l listed s) : rn k w0 ops n listed Q s := by
  subst hn
  unfold rn
  unfold qn at h
  refine AI_sound k.ok (W := W) (S := S) (Lf := LfS k w0 ops m Q) (fun listed f h' s' ⟨s0, e1, e2, e3⟩ h1 h2 => ?_) _ _ _ _ s h (fun _ => rfl) (fun _ => rfl)
  intro g a w hs
  exact e3 g a w (hs.alike (fun x => .inl (by rw [e1, h1])) (fun r => by rw [e2, h2]))
def allListed (S listed : Array Bool) : Bool := (List.range S.size).all fun j => !S.getD j false || listed.getD j true
theorem d_leaf (ha : allListed S listed = true) (h : rn k w0 ops m listed Q s) : qn k w0 ops W S m Q [] listed s := by
  unfold qn
  unfold rn at h
  refine ⟨fun j hj => ?_, s, fun _ => rfl, fun _ => rfl, h⟩
  have hlt : j < S.size := by
    rcases Nat.lt_or_ge j S.size with h | h
    · exact h
    · simp [Array.getElem?_eq_none h] at hj
  unfold allListed at ha
  rw [List.all_eq_true] at ha
  have := ha j (by simpa using hlt)
  rw [hj] at this
  simpa using this
def notAl : Op → Bool
  | .alloc _ => false
  | _ => true
def SV.noName : SV → Bool
  | .u => true
  | .one (.d _) => true
  | .one .nil => true
  | .one .u => true
  | .one .tape => true
  | .one (.fn _) => true
  | .tup [] => true
  | _ => false
theorem SV.noName_has {v : SV} (h : v.noName = true) (e : Nat) : v.has e = false := by
  unfold SV.noName at h
  split at h <;> first | rfl | cases h
def VH.unpin : VH → VH
  | .pin _ _ => .gone
  | .gone => .gone
  | .blk t cs => .blk t cs
  | .arr e sz rows => .arr e sz rows
  | .tbl e e1 rows o => .tbl e e1 rows o
def dropW (W : Option (List Nat)) : List (Nat × VH) → List (Nat × VH)
  | [] => []
  | p :: l => bif inW W p.1 then dropW W l else (p.1, p.2.unpin) :: dropW W l
theorem dropW_get (W : Option (List Nat)) (H : List (Nat × VH)) (r : Nat) : getH (dropW W H) r = if inW W r = true then .gone else (getH H r).unpin := by
  induction H with
  | nil => simp [dropW, getH, VH.unpin]
  | cons p H ih =>
    simp only [dropW]
    cases hc : inW W p.1 with
    | true =>
      simp only [cond_true, ih, getH, beq_eq]
      by_cases e : p.1 = r
      · subst e; simp [hc]
      · simp [e]
    | false =>
      simp only [cond_false, getH, beq_eq, ih]
      by_cases e : p.1 = r
      · subst e; simp [hc]
      · simp [e]
theorem Sim.less {P : Program} {T : TypeId} {N : Nat} {g : Gh} {a : Act} {w : World} {s s' : St} (hs : Sim P T N w0 g s a w) (hF : ∀ x, getF s'.F x = getF s.F x ∨ getF s'.F x = .u) (hH : ∀ r, getH s'.H r = getH s.H r ∨ getH s'.H r = .gone) : Sim P T N w0 g s' a w := by
  have lv : ∀ r, live s'.H r → live s.H r := fun r h => by
    unfold live at h ⊢
    rcases hH r with e | e
    · rwa [e] at h
    · rw [e] at h; cases h
  refine ⟨⟨fun r r' b a1 a2 => hs.gi.inj r r' b (lv r a1) (lv r' a2), fun r b a1 => hs.gi.bd r b (lv r a1), fun b o hr => ?_, hs.gi.keep, hs.gi.tape, hs.gi.org, hs.gi.exs (fun _ _ h => h) fun c hc => ⟨rfl, hc.2.2.1, hc.2.2.2.1, fun r a1 => hc.2.2.2.2 r (lv r a1)⟩⟩, hs.dn, hs.nt, fun x => ?_, fun r => ?_⟩
  · obtain ⟨q1, q2, q3⟩ := hs.gi.rd b o hr
    exact ⟨q1, q2, fun r a1 => q3 r (lv r a1)⟩
  · rcases hF x with e | e
    · rw [e]; exact hs.hF x
    · rw [e]; exact .u _
  · rcases hH r with e | e
    · rw [e]; exact hs.hH r
    · rw [e]; trivial
def St.lkW (s : St) (W : Option (List Nat)) (o : Op) : St := ⟨lkF s.F (opTmps o.operands.toList), dropW W s.H⟩
theorem qf_of {W : Option (List Nat)} {o : Oper} {post : SV → Prop} (h : OpQ k.P k.T k.N w0 (s.lkW W o.op) o post) : QF k.P k.T k.N w0 W (getF s.F) (getH s.H) o post := by
  intro s' h1 h2 g a w hs
  refine h g a w (hs.less (fun x => ?_) fun r => ?_)
  · rcases Classical.em (x ∈ opTmps o.op.operands.toList) with hx | hx
    · exact .inl (by show getF (lkF s.F _) x = _; rw [lkF_get, if_pos hx, h1 x (opTmps_mem.1 hx)])
    · exact .inr (by show getF (lkF s.F _) x = _; rw [lkF_get, if_neg hx])
  · show getH (dropW W s.H) r = _ ∨ getH (dropW W s.H) r = _
    rw [dropW_get]
    cases hc : inW W r with
    | true => exact .inr (by simp)
    | false =>
      cases hl : (getH s.H r).live with
      | true => exact .inl (by
        simp only [Bool.false_eq_true, if_false, h2 r hc hl]
        cases hx : getH s.H r <;> rw [hx] at hl <;> first | rfl | cases hl)
      | false =>
        refine .inr ?_
        simp only [Bool.false_eq_true, if_false]
        cases hx : getH s.H r with
        | gone => rfl
        | pin v c => rfl
        | blk t cs => rw [hx] at hl; cases hl
        | arr e sz rows => rw [hx] at hl; cases hl
        | tbl e e1 rows o => rw [hx] at hl; cases hl
theorem put_f (s : St) (d : Nat) (v : SV) : getF (s.put d v).F = putf (getF s.F) d v := by
  funext x; rw [get_put]; rfl
def fsB (ops : Array Oper) (W wf : Option (List Nat)) (S listed : Array Bool) (i : Nat) : Bool := freeS ops S listed i && (decide (wf = W) || stW ops listed i)
theorem fsB_spec {wf : Option (List Nat)} {i : Nat} {oi : Oper} (hi : ops[i]? = some oi) (h : fsB ops W wf S listed i = true) (j : Nat) (oj : Oper)
    (hj : ops[j]? = some oj) (hne : j ≠ i) (hun : listed.getD j true = false) (hno : j ∉ waitD ops listed i) :
    S.getD j false = true ∧ oi.apart ops oj = true ∧ (chg oj = true → wf = W) := by
  unfold fsB at h
  simp only [Bool.and_eq_true, Bool.or_eq_true, decide_eq_true_eq] at h
  obtain ⟨q1, q2⟩ := freeS_spec hi h.1 j oj hj hne hun hno
  refine ⟨q1, q2, fun hd => ?_⟩
  rcases h.2 with h2 | h2
  · exact h2
  · rw [stW_spec h2 j oj hj hne hun hno] at hd; cases hd
theorem d_one {i : Nat} (hr : Region.ready .any ops listed = [i]) (h : qst k w0 ops W S m Q l.length i listed s) : qn k w0 ops W S m Q (i :: l) listed s := by
  unfold qst at h
  unfold qn
  refine ⟨by rw [hr]; simp, fun j hj => ?_⟩
  rw [hr] at hj
  simp at hj
  subst hj
  exact h
theorem d_core {wf : Option (List Nat)} {o : Oper} {d i : Nat} {v : SV} (hi : ops[i]? = some o) (hd : o.dst = some d) (hN : Nat.blt d k.N = true) (hr : (Region.ready .any ops listed).contains i = true) (hf : fsB ops W wf S listed i = true) (hu : (getF s.F d).noName = true) (ha : notAl o.op = true)
    (hok : okQ k.P k.T k.N w0 ops wf (getF s.F) (getH s.H) o (fun x => x = v)) (h : qn k w0 ops W S m Q l (listed.setIfInBounds i true) (s.put d v)) : qn k w0 ops W S m Q (i :: l) listed s := by
  unfold qn at h ⊢
  rw [put_f] at h
  exact AI_first hi hd (nlt hN) (fun t e => by rw [e] at ha; cases ha) l.length listed _ _ waitD_spec (fsB_spec hi hf) (by simpa using hr) (SV.noName_has hu) hok h
section
variable {op : Op} {ty : TypeId} {pp : String} {af : Array Edge} {d i : Nat}
theorem d_e {v : SV} (wf : Option (List Nat)) (hi : ops[i]? = some ⟨some d, op, ty, pp, af, none⟩) (hN : Nat.blt d k.N = true) (hr : (Region.ready .any ops listed).contains i = true) (hf : fsB ops W wf S listed i = true) (hu : (getF s.F d).noName = true) (ha : notAl op = true)
    (he : OpE k.P k.T k.N w0 (s.lkW wf op) ⟨some d, op, ty, pp, af, none⟩ v) (h : qn k w0 ops W S m Q l (listed.setIfInBounds i true) (s.put d v)) : qn k w0 ops W S m Q (i :: l) listed s :=
  d_core hi rfl hN hr hf hu ha (.inl ⟨rfl, qf_of he⟩) h
theorem d_ey {j q : Nat} {v : SV} {w c : Bool} (wf : Option (List Nat)) (hi : ops[i]? = some ⟨some d, op, ty, pp, af, some (j, w)⟩) (hj : (ops[j]?).bind (·.dst) = some q) (hv : getF s.F q = .one (.d (.bool c))) (hc : c = w) (hN : Nat.blt d k.N = true) (hr : (Region.ready .any ops listed).contains i = true) (hf : fsB ops W wf S listed i = true) (hu : (getF s.F d).noName = true) (ha : notAl op = true)
    (he : OpE k.P k.T k.N w0 (s.lkW wf op) ⟨some d, op, ty, pp, af, some (j, w)⟩ v) (h : qn k w0 ops W S m Q l (listed.setIfInBounds i true) (s.put d v)) : qn k w0 ops W S m Q (i :: l) listed s :=
  d_core hi rfl hN hr hf hu ha (.inl ⟨by simp only [wantI, hj, hv]; simp [hc], qf_of he⟩) h
theorem d_gn {j q : Nat} {c : Bool} (hi : ops[i]? = some ⟨some d, op, ty, pp, af, some (j, true)⟩) (hj : (ops[j]?).bind (·.dst) = some q) (hv : getF s.F q = .one (.d (.bool c))) (hc : c = false) (hN : Nat.blt d k.N = true) (hr : (Region.ready .any ops listed).contains i = true) (hf : freeS ops S listed i = true) (hu : (getF s.F d).noName = true) (ha : notAl op = true)
    (h : qn k w0 ops W S m Q l (listed.setIfInBounds i true) (s.put d (.tup []))) : qn k w0 ops W S m Q (i :: l) listed s :=
  d_core (wf := W) hi rfl hN hr (by unfold fsB; simp [hf]) hu ha (.inr ⟨by simp only [wantI, hj, hv]; subst hc; rfl, rfl⟩) h
theorem d_gm {j q : Nat} {c : Bool} (hi : ops[i]? = some ⟨some d, op, ty, pp, af, some (j, false)⟩) (hj : (ops[j]?).bind (·.dst) = some q) (hv : getF s.F q = .one (.d (.bool c))) (hc : c = true) (hN : Nat.blt d k.N = true) (hr : (Region.ready .any ops listed).contains i = true) (hf : freeS ops S listed i = true) (hu : (getF s.F d).noName = true) (ha : notAl op = true)
    (h : qn k w0 ops W S m Q l (listed.setIfInBounds i true) (s.put d (.tup []))) : qn k w0 ops W S m Q (i :: l) listed s :=
  d_core (wf := W) hi rfl hN hr (by unfold fsB; simp [hf]) hu ha (.inr ⟨by simp only [wantI, hj, hv]; subst hc; rfl, rfl⟩) h
theorem s_st {t : Nat} {x y : Operand} {r off n : Nat} {tt : Nat} {cs vs : List CV} (hi : ops[i]? = some ⟨none, .store t x y, ty, pp, af, none⟩) (hx : s.ev x = .one (.ref r off)) (hW : inW W r = true) (hH : getH s.H r = .blk tt cs) (hn : (tyAt k.τ t).size = some n) (hy : (s.ev y).cells = some vs) (hl : Nat.beq vs.length n = true) (hle : Nat.ble (off + n) cs.length = true)
    (hl : l.length = nq) (h : qn k w0 ops W S m Q l (listed.setIfInBounds i true) (s.hput r (.blk tt (setSeg cs off vs)))) : qst k w0 ops W S m Q nq i listed s := by
  unfold qn at h
  unfold qst
  subst hl
  refine ⟨_, hi, .inr ⟨rfl, rfl, r, .blk tt (setSeg cs off vs), hW, fun s' h1 h2 => ?_, ?_⟩⟩
  · have ex : s'.ev x = s.ev x := by cases x <;> first | rfl | exact h1 _ (by simp [Op.operands])
    have ey : s'.ev y = s.ev y := by cases y <;> first | rfl | exact h1 _ (by simp [Op.operands])
    have := opr_store (P := k.P) (T := k.T) (N := k.N) (w0 := w0) (s := s') (o := ⟨none, .store t x y, ty, pp, af, none⟩) k.ok rfl rfl (by rw [ex]; exact hx) (by rw [h2]; exact hH) hn (by rw [ey]; exact hy) (Nat.eq_of_beq_eq_true hl) (Nat.le_of_ble_eq_true hle)
    exact this
  · have e2 : getH (s.hput r (VH.blk tt (setSeg cs off vs))).H = puth (getH s.H) r (.blk tt (setSeg cs off vs)) := by
      funext q
      show getH ((r, _) :: s.H) q = _
      rw [hget_put]; rfl
    rw [e2] at h
    exact h
theorem d_st {t : Nat} {x y : Operand} {r off n : Nat} {tt : Nat} {cs vs : List CV} (hi : ops[i]? = some ⟨none, .store t x y, ty, pp, af, none⟩) (hr : Region.ready .any ops listed = [i]) (hx : s.ev x = .one (.ref r off)) (hW : inW W r = true) (hH : getH s.H r = .blk tt cs) (hn : (tyAt k.τ t).size = some n) (hy : (s.ev y).cells = some vs) (hl : Nat.beq vs.length n = true) (hle : Nat.ble (off + n) cs.length = true)
    (h : qn k w0 ops W S m Q l (listed.setIfInBounds i true) (s.hput r (.blk tt (setSeg cs off vs)))) : qn k w0 ops W S m Q (i :: l) listed s :=
  d_one hr (s_st hi hx hW hH hn hy hl hle rfl h)
theorem s_ste {t : Nat} {x y : Operand} {r i2 j2 sz n e : Nat} {rows : List (List Cell)} {row : List Cell} {vs : List CV} {ds : List Cell} (hi : ops[i]? = some ⟨none, .store t x y, ty, pp, af, none⟩) (hx : s.ev x = .one (.el r i2 j2 sz)) (hW : inW W r = true) (hH : getH s.H r = .arr e sz rows) (hn : (tyAt k.τ t).size = some n) (hy : (s.ev y).cells = some vs) (hds : unDL vs = some ds) (hl : ds.length = n) (hrow : rows[i2]? = some row) (hle : j2 + n ≤ row.length)
    (hl : l.length = nq) (h : qn k w0 ops W S m Q l (listed.setIfInBounds i true) (s.hput r (.arr e sz (rows.set i2 (setSegC row j2 ds))))) : qst k w0 ops W S m Q nq i listed s := by
  unfold qn at h
  unfold qst
  subst hl
  refine ⟨_, hi, .inr ⟨rfl, rfl, r, .arr e sz (rows.set i2 (setSegC row j2 ds)), hW, fun s' h1 h2 => ?_, ?_⟩⟩
  · have ex : s'.ev x = s.ev x := by cases x <;> first | rfl | exact h1 _ (by simp [Op.operands])
    have ey : s'.ev y = s.ev y := by cases y <;> first | rfl | exact h1 _ (by simp [Op.operands])
    have := opr_store_el (P := k.P) (T := k.T) (N := k.N) (w0 := w0) (s := s') (o := ⟨none, .store t x y, ty, pp, af, none⟩) k.ok rfl rfl (by rw [ex]; exact hx) (by rw [h2]; exact hH) hn (by rw [ey]; exact hy) hds hl hrow hle
    exact this
  · have e2 : getH (s.hput r (VH.arr e sz (rows.set i2 (setSegC row j2 ds)))).H = puth (getH s.H) r (.arr e sz (rows.set i2 (setSegC row j2 ds))) := by
      funext q
      show getH ((r, _) :: s.H) q = _
      rw [hget_put]; rfl
    rw [e2] at h
    exact h
theorem d_gs {dst : Option Nat} {j q : Nat} {w : Bool} (c : Bool) (hi : ops[i]? = some ⟨dst, op, ty, pp, af, some (j, w)⟩) (hj : (ops[j]?).bind (·.dst) = some q) (hv : getF s.F q = .one (.d (.bool c))) (h1 : c = true → qn k w0 ops W S m Q (i :: l) listed s) (h2 : c = false → qn k w0 ops W S m Q (i :: l) listed s) : qn k w0 ops W S m Q (i :: l) listed s := by
  cases h : c
  · exact h2 h
  · exact h1 h
theorem s_nd {post : SV → Prop} (hi : ops[i]? = some ⟨some d, op, ty, pp, af, none⟩) (hN : Nat.blt d k.N = true)
    (he : OpQ k.P k.T k.N w0 (s.lkW (some []) op) ⟨some d, op, ty, pp, af, none⟩ post) (hl : l.length = nq) (h : ∀ v, post v → qn k w0 ops W S m Q l (listed.setIfInBounds i true) (s.put d v)) : qst k w0 ops W S m Q nq i listed s := by
  unfold qn at h
  unfold qst
  subst hl
  exact ⟨_, hi, .inl ⟨d, rfl, nlt hN, .inl ⟨some [], post, .inl ⟨rfl, qf_of he⟩, fun v hv => by have := h v hv; rw [put_f] at this; exact this⟩⟩⟩
theorem d_nd {post : SV → Prop} (hi : ops[i]? = some ⟨some d, op, ty, pp, af, none⟩) (hN : Nat.blt d k.N = true) (hr : Region.ready .any ops listed = [i])
    (he : OpQ k.P k.T k.N w0 (s.lkW (some []) op) ⟨some d, op, ty, pp, af, none⟩ post) (h : ∀ v, post v → qn k w0 ops W S m Q l (listed.setIfInBounds i true) (s.put d v)) : qn k w0 ops W S m Q (i :: l) listed s :=
  d_one hr (s_nd hi hN he rfl h)
theorem s_al {t : Nat} {zs : List Z} (hi : ops[i]? = some ⟨some d, .alloc t, ty, pp, af, none⟩) (hN : Nat.blt d k.N = true) (hz : (tyAt k.τ t).zs = some zs) (hfr : s.fresh d = true)
    (hl : l.length = nq) (h : qn k w0 ops W S m Q l (listed.setIfInBounds i true) ((s.hput d (.blk t (zs.map Z.cv))).put d (.one (.ref d 0)))) : qst k w0 ops W S m Q nq i listed s := by
  obtain ⟨f1, f2, f3⟩ := St.fresh_spec hfr
  unfold qn at h
  unfold qst
  subst hl
  refine ⟨_, hi, .inl ⟨d, rfl, nlt hN, .inr (.inl ⟨t, zs, rfl, rfl, hz, ⟨f1, f2, f3⟩, ?_⟩)⟩⟩
  rw [put_f] at h
  have e : getH ((s.hput d (VH.blk t (zs.map Z.cv))).put d (.one (.ref d 0))).H = puth (getH s.H) d (.blk t (zs.map Z.cv)) := by
    funext x
    show getH ((d, _) :: s.H) x = _
    rw [hget_put]; rfl
  rw [e] at h
  exact h
theorem d_al {t : Nat} {zs : List Z} (hi : ops[i]? = some ⟨some d, .alloc t, ty, pp, af, none⟩) (hN : Nat.blt d k.N = true) (hr : Region.ready .any ops listed = [i]) (hz : (tyAt k.τ t).zs = some zs) (hfr : s.fresh d = true)
    (h : qn k w0 ops W S m Q l (listed.setIfInBounds i true) ((s.hput d (.blk t (zs.map Z.cv))).put d (.one (.ref d 0)))) : qn k w0 ops W S m Q (i :: l) listed s :=
  d_one hr (s_al hi hN hz hfr rfl h)
theorem ev_cg {s s' : St} {x : Operand} (h : ∀ t, x = .tmp t → getF s'.F t = getF s.F t) : s'.ev x = s.ev x := by
  cases x <;> first | rfl | exact h _ rfl
theorem partsOf_cg {s s' : St} : ∀ (l : List (Nat × Operand)), (∀ p ∈ l, s'.ev p.2 = s.ev p.2) → partsOf s' l = partsOf s l
  | [], _ => rfl
  | p :: l, h => by
    simp only [partsOf]
    rw [h p (by simp), partsOf_cg l fun q hq => h q (by simp [hq])]
end
theorem e_call {pu : Bool} {o : Oper} {f : FuncId} {xs : Array Operand} {ts : Array TypeId} {args : List SV} {v : SV} (ho : o.op = .call { callee := .value (.func f), args := xs, argTypes := ts }) (hic : IC k.P k.T f args (fun x => x = v)) (ha : PsSL k.P k.T s pu xs.toList args) (hsc : pu = true ∨ v.sc = true) : OpE k.P k.T k.N w0 s o v :=
  opq_call ho hic ha (hsc.imp id fun h sv e => e ▸ h)
theorem e_callp {pu : Bool} {o : Oper} {f : FuncId} {xs : Array Operand} {ts : Array TypeId} {args : List SV} {post : SV → Prop} (ho : o.op = .call { callee := .value (.func f), args := xs, argTypes := ts }) (hic : IC k.P k.T f args post) (ha : PsSL k.P k.T s pu xs.toList args) (hsc : pu = true ∨ ∀ v, post v → v.sc = true) : OpQ k.P k.T k.N w0 s o post :=
  opq_call ho hic ha hsc
end
end Go.Proofs.Ytcbppkfnfbdkhaa
/- What operations hand back: one rule for each kind. -/
set_option linter.all false
namespace Go.Proofs.Ytcbppkfnfbdkhaa
open Go.RowKit Go.Shelf
section
variable {k : Wk} {w0 : Org} {s : St} {d t t' : Nat} {x y : Operand} {p : String} {af : Array Edge} {gd : Option (Nat × Bool)}
theorem e_pt {c : Operand} {b : Bool} {v : CV} (hc : s.ev c = .one (.d (.bool b))) (hb : b = true) (hx : s.ev x = .one v) : OpE k.P k.T k.N w0 s ⟨some d, .pick c x y, t, p, af, gd⟩ (.one v) :=
  hx ▸ ope_pick_t rfl (hb ▸ hc)
theorem e_pf {c : Operand} {b : Bool} {v : CV} (hc : s.ev c = .one (.d (.bool b))) (hb : b = false) (hx : s.ev y = .one v) : OpE k.P k.T k.N w0 s ⟨some d, .pick c x y, t, p, af, gd⟩ (.one v) :=
  hx ▸ ope_pick_f rfl (hb ▸ hc)
theorem e_ld_el1 {r i j sz e : Nat} {rows : List (List Cell)} {row : List Cell} {c : Cell} (hx : s.ev x = .one (.el r i j sz)) (hH : getH s.H r = .arr e sz rows) (ht : (tyAt k.τ t').isOne = true) (hi : rows[i]? = some row) (hj : row[j]? = some c) : OpE k.P k.T k.N w0 s ⟨some d, .load t' x, t, p, af, gd⟩ (.one (.d c)) :=
  ope_load_el1 rfl hx hH (tab_one k.ok ht) hi hj
theorem e_ld_eln {r i j sz e : Nat} {rows : List (List Cell)} {row : List Cell} {n fs zs} (hx : s.ev x = .one (.el r i j sz)) (hH : getH s.H r = .arr e sz rows) (ht : tyAt k.τ t' = .st n fs zs) (hi : rows[i]? = some row) (hj : j + n ≤ row.length) : OpE k.P k.T k.N w0 s ⟨some d, .load t' x, t, p, af, gd⟩ (.agg (((row.drop j).take n).map .d)) :=
  ope_load_eln rfl hx hH (tab_agg k.ok ht) hi hj
theorem e_ia {e sz by_ i : Nat} {rows : List (List Cell)} {row : List Cell} {kk : IntKind} {m : Int} (hx : s.ev x = .one (.d (.list rows))) (hy : s.ev y = .one (.d (.int kk m))) (ht : tyAt k.τ t' = .sl e sz by_) (h0 : 0 ≤ m) (hm : m.toNat = i) (hi : rows[i]? = some row) (hl : row.length = sz) (hz : Nat.blt 0 sz = true) : OpE k.P k.T k.N w0 s ⟨some d, .indexAddr t' x y, t, p, af, gd⟩ (.one (.rp (row.map .d))) :=
  ope_indexAddr_d rfl hx hy (tab_sl k.ok ht) h0 (hm ▸ hi) hl (nlt hz)
theorem e_ia_sl {r n e sz by_ i : Nat} {kk : IntKind} {m : Int} (hx : s.ev x = .one (.sl r n sz)) (hy : s.ev y = .one (.d (.int kk m))) (ht : tyAt k.τ t' = .sl e sz by_) (h0 : 0 ≤ m) (hi : m < (n : Int)) (hm : m.toNat = i) : OpE k.P k.T k.N w0 s ⟨some d, .indexAddr t' x y, t, p, af, gd⟩ (.one (.el r i 0 sz)) :=
  hm ▸ ope_indexAddr_sl rfl hx hy (tab_sl k.ok ht) h0 hi
theorem e_ia_ar {r off n len e sz i : Nat} {zs} {kk : IntKind} {m : Int} (hx : s.ev x = .one (.ref r off)) (hy : s.ev y = .one (.d (.int kk m))) (ht : tyAt k.τ t' = .ar n len e sz zs) (h0 : 0 ≤ m) (hi : m < (len : Int)) (hm : m.toNat = i) : OpE k.P k.T k.N w0 s ⟨some d, .indexAddr t' x y, t, p, af, gd⟩ (.one (.ref r (off + i * sz))) :=
  hm ▸ ope_indexAddr_arr rfl hx hy (tab_ar k.ok ht) h0 hi
theorem e_lenm {α : Type} {f : α → List Cell} {xs : List α} {e n b : Nat} (hx : s.ev x = .one (.d (.list (xs.map f)))) (ht : tyAt k.τ t' = .sl e n b) : OpE k.P k.T k.N w0 s ⟨some d, .call { callee := .builtin .len, args := #[x], argTypes := #[t'] }, t, p, af, gd⟩ (.one (.d (.int .i64 (xs.length : Int)))) :=
  ope_cg (ope_len_d rfl hx (tab_sl k.ok ht)) (by rw [List.length_map])
theorem e_add {kk : IntKind} {m n : Int} {r : Int} {tb : Nat} (hx : s.ev x = .one (.d (.int kk m))) (hy : s.ev y = .one (.d (.int kk n))) (hr : kk.wrap (m + n) = r) : OpE k.P k.T k.N w0 s ⟨some d, .binOp .add t' x y tb, t, p, af, gd⟩ (.one (.d (.int kk r))) :=
  ope_add rfl hx hy hr
theorem e_sub {kk : IntKind} {m n : Int} {r : Int} {tb : Nat} (hx : s.ev x = .one (.d (.int kk m))) (hy : s.ev y = .one (.d (.int kk n))) (hr : kk.wrap (m - n) = r) : OpE k.P k.T k.N w0 s ⟨some d, .binOp .sub t' x y tb, t, p, af, gd⟩ (.one (.d (.int kk r))) :=
  ope_sub rfl hx hy hr
end
end Go.Proofs.Ytcbppkfnfbdkhaa
/- Equality of structs, of bools and of strings. -/
set_option linter.all false
namespace Go.Proofs.Ytcbppkfnfbdkhaa
open Go.RowKit Go.Shelf
inductive EK where
  | i
  | b
  | s
deriving DecidableEq
def ekT (P : Program) (t : TypeId) : Option EK :=
  match P.underlying t with
  | some .bool => some .b
  | some (.int _) => some .i
  | some .string => some .s
  | _ => none
def eqFs (P : Program) : List Field → Nat → Option (List EK)
  | [], _ => some []
  | f :: fs, j => bif (f.name != "_") && Nat.beq f.offset j then (match ekT P f.type, eqFs P fs (j + 1) with | some e, some l => some (e :: l) | _, _ => none) else none
def eqT (P : Program) (t : TypeId) : Option (List EK) :=
  match P.underlying t with
  | some (.struct fs) => bif !(P.stoodInHeld t) && !(P.eqGuardType P.depth t) then eqFs P fs.toList 0 else none
  | _ => none
def cellEq : EK → Cell → Cell → Option Bool
  | .i, .int k a, .int k' b => if k = k' then some (decide (a = b)) else none
  | .b, .bool a, .bool b => some (a == b)
  | .s, .str a, .str b => some (a == b)
  | _, _, _ => none
def cellsEq : List EK → List CV → List CV → Option Bool
  | [], _, _ => some true
  | e :: l, .d a :: al, .d b :: bl => match cellEq e a b, cellsEq l al bl with | some x, some y => some (x && y) | _, _ => none
  | _, _, _ => none
section
variable {P : Program} {T : TypeId} {N : Nat} {w0 : Org} {g : Gh} {s : St} {a : Act} {w : World} {o : Oper} {t t' : TypeId} {x y : Operand}
theorem ekT_one {e : EK} (h : ekT P t = some e) : oneT P t = true := by
  unfold ekT at h; unfold oneT
  cases hu : P.underlying t with
  | none => rw [hu] at h; cases h
  | some d => rw [hu] at h; cases d <;> first | rfl | cases h
theorem cellEq_run {d : Nat} {e : EK} {a b : Cell} {u v : Value} {Rd : Nat → Nat → Prop} {r : Bool} (h : ekT P t = some e) (hu : RepCell Rd w u a) (hv : RepCell Rd w v b) (hr : cellEq e a b = some r) : (Op.equalIn (d + 1) t u v).run P w = .ok r w := by
  unfold ekT at h
  split at h <;> rename_i ht
  · cases h
    cases hu <;> cases hv <;> simp [cellEq] at hr
    subst hr
    exact run_equalIn_bool w d t _ _ ht
  · cases h
    cases hu <;> cases hv <;> simp [cellEq] at hr
    obtain ⟨rfl, rfl⟩ := hr
    rw [run_equalIn_int w d t _ _ _ _ ht]
    rfl
  · cases h
    cases hu <;> cases hv <;> simp [cellEq] at hr
    subst hr
    rw [run_equalIn_string w d t _ _ ht, ← beq_toListBytes]
  · cases h
theorem eqFields_run {d : Nat} (xs ys : Array Value) : ∀ (fs : List Field) (j : Nat) (ks : List EK) (al bl : List CV) (r : Bool), eqFs P fs j = some ks → cellsEq ks al bl = some r →
    (∀ (i : Nat) (c : CV), al[i]? = some c → ∃ u, xs[j + i]? = some u ∧ RepCV P g w u c) → (∀ (i : Nat) (c : CV), bl[i]? = some c → ∃ u, ys[j + i]? = some u ∧ RepCV P g w u c) →
    (Op.eqFields (d + 1) xs ys fs).run P w = .ok r w
  | [], j, ks, al, bl, r, h, hr, ha, hb => by
    simp [eqFs] at h; subst h
    simp [cellsEq] at hr; subst hr
    simp [Op.eqFields]
  | f :: fs, j, ks, al, bl, r, h, hr, ha, hb => by
    simp only [eqFs] at h
    cases hq : ((f.name != "_") && Nat.beq f.offset j) with
    | false => rw [hq] at h; cases h
    | true =>
      rw [hq] at h
      simp only [cond_true] at h
      simp only [Bool.and_eq_true] at hq
      obtain ⟨hn, ho⟩ := hq
      have hn' : f.name ≠ "_" := by simpa using hn
      have ho' : f.offset = j := Nat.eq_of_beq_eq_true ho
      cases he : ekT P f.type with
      | none => rw [he] at h; cases h
      | some e =>
        cases hl : eqFs P fs (j + 1) with
        | none => rw [he, hl] at h; cases h
        | some l =>
          rw [he, hl] at h
          cases h
          match al, bl, hr, ha, hb with
          | .d p :: al, .d q :: bl, hr, ha, hb =>
            simp only [cellsEq] at hr
            cases h1 : cellEq e p q with
            | none => rw [h1] at hr; cases hr
            | some r1 =>
              cases h2 : cellsEq l al bl with
              | none => rw [h1, h2] at hr; cases hr
              | some r2 =>
                rw [h1, h2] at hr
                cases hr
                obtain ⟨u, u1, u2⟩ := ha 0 _ rfl
                obtain ⟨v, v1, v2⟩ := hb 0 _ rfl
                have ih := eqFields_run (d := d) xs ys fs (j + 1) l al bl r2 hl h2 (fun i c hc => by
                  obtain ⟨u, e1, e2⟩ := ha (i + 1) c (by simpa using hc)
                  exact ⟨u, by rw [← e1]; congr 1; omega, e2⟩) (fun i c hc => by
                  obtain ⟨u, e1, e2⟩ := hb (i + 1) c (by simpa using hc)
                  exact ⟨u, by rw [← e1]; congr 1; omega, e2⟩)
                simp only [Op.eqFields, hn', ne_eq, not_false_eq_true, if_true, Sem.run_bind]
                rw [run_part_one (ekT_one he) (by rw [ho']; exact u1)]
                simp only [Result.andThen_ok]
                rw [run_part_one (ekT_one he) (by rw [ho']; exact v1)]
                simp only [Result.andThen_ok]
                cases u2 with | d u2 => cases v2 with | d v2 =>
                rw [cellEq_run (d := d) he u2 v2 h1]
                simp only [Result.andThen_ok]
                cases r1
                · simp
                · simpa using ih
theorem eqT_spec {ks : List EK} (h : eqT P t = some ks) : P.underlying t = some (.struct (P.fieldsOf t)) ∧ P.stoodInHeld t = false ∧ P.eqGuardType P.depth t = false ∧ eqFs P (P.fieldsOf t).toList 0 = some ks := by
  unfold eqT at h
  split at h
  · rename_i fs hu
    have hf : P.fieldsOf t = fs := by unfold Program.fieldsOf; rw [hu]
    cases hq : (!(P.stoodInHeld t) && !(P.eqGuardType P.depth t)) with
    | false => rw [hq] at h; cases h
    | true =>
      rw [hq] at h
      simp only [Bool.and_eq_true, Bool.not_eq_true'] at hq
      refine ⟨by rw [hf]; exact hu, hq.1, hq.2, ?_⟩
      rw [hf]; exact h
  · cases h
theorem agg_eq_run {ks : List EK} {cs ds : List CV} {r : Bool} {u v : Value} (h : eqT P t = some ks) (hu : RepSV P g w u (.agg cs)) (hv : RepSV P g w v (.agg ds)) (hr : cellsEq ks cs ds = some r) :
    ∃ xs ys, u = .agg xs ∧ v = .agg ys ∧ (Op.equalIn 10000 t (.agg xs) (.agg ys)).run P w = .ok r w ∧ P.eqGuardType P.depth t = false := by
  obtain ⟨xs, rfl, hxs, hxr⟩ := hu.agg_inv
  obtain ⟨ys, rfl, hys, hyr⟩ := hv.agg_inv
  obtain ⟨h1, h2, h3, h4⟩ := eqT_spec h
  refine ⟨xs, ys, rfl, rfl, ?_, h3⟩
  rw [show (10000 : Nat) = 9998 + 1 + 1 from rfl, run_equalIn_struct w (9998 + 1) t xs ys h1 h2]
  refine eqFields_run (g := g) xs ys _ 0 ks cs ds r h4 hr (fun i c hc => ?_) (fun i c hc => ?_)
  · have hlt := (List.getElem?_eq_some_iff.1 hc).1
    exact ⟨xs[i]'(by omega), by simp [show i < xs.size by omega], hxr i _ c (Array.getElem?_eq_getElem (by omega)) hc⟩
  · have hlt := (List.getElem?_eq_some_iff.1 hc).1
    exact ⟨ys[i]'(by omega), by simp [show i < ys.size by omega], hyr i _ c (Array.getElem?_eq_getElem (by omega)) hc⟩
theorem ope_sne {ks : List EK} {cs ds : List CV} {r : Bool} (ho : o.op = .binOp .neq t x y t') (h : eqT P t = some ks) (hx : s.ev x = .agg cs) (hy : s.ev y = .agg ds) (hr : cellsEq ks cs ds = some r) : OpE P T N w0 s o (.one (.d (.bool (!r)))) :=
  ope_scalar (v := .bool (!r)) (fun g a w hs => by
    have h1 := hs.ev x; rw [hx] at h1
    have h2 := hs.ev y; rw [hy] at h2
    obtain ⟨xs, ys, e1, e2, e3, e4⟩ := agg_eq_run h h1 h2 hr
    simp only [execOp, ho, e1, e2, Sem.run_bind, run_eqGuard_agg w .neq t x y xs ys e4, Result.andThen_ok, run_neq_struct, e3, Sem.run_pure]) rfl (by simp) (by simp)
end
section
variable {k : Wk} {w0 : Org} {ops : Array Oper} {l : List Oper} {Q : St → Prop} {s : St} {d t t' ty : Nat} {x y : Operand} {p : String} {af : Array Edge}
theorem i_sne {ks : List EK} {cs ds : List CV} {r : Bool} (h : eqT k.P ty = some ks) (hN : Nat.blt d k.N = true) (hx : s.ev x = .agg cs) (hy : s.ev y = .agg ds) (hr : cellsEq ks cs ds = some r) (hk : rg k w0 ops l Q (s.put d (.one (.d (.bool (!r)))))) : rg k w0 ops (⟨some d, .binOp .neq ty x y t', t, p, af, none⟩ :: l) Q s :=
  rgI (irg_e rfl rfl (nlt hN) (ope_sne rfl h hx hy hr) (rgO hk))
end
end Go.Proofs.Ytcbppkfnfbdkhaa
/- Results that the caller goes on to own. -/
set_option linter.all false
namespace Go.Proofs.Ytcbppkfnfbdkhaa
open Go.RowKit Go.Shelf
structure OwnR (P : Program) (w : World) (g' : Gh) (w' : World) (H : List (Nat × VH)) : Prop where
  inj : ∀ r r' b, live H r → live H r' → g'.β r = some b → g'.β r' = some b → r = r'
  bd : ∀ r b, live H r → g'.β r = some b → w.heap.size ≤ b ∧ b < w'.heap.size
  rd : ∀ b o, g'.Rd b o → ∀ r, live H r → g'.β r ≠ some b
  hH : ∀ r, HeapOK P g' w' r (getH H r)
def ICo (P : Program) (T : TypeId) (f : FuncId) (args : List SV) (post : SV → List (Nat × VH) → Prop) : Prop :=
  Enters P f ∧ ∀ (g : Gh) (w : World) (vals : Array Value), (∀ r, g.β r = none) → GI T (g.org w) g [] w → vals.size = args.length → (∀ (j : Nat) (v : Value) (sv : SV), vals[j]? = some v → args[j]? = some sv → RepSV P g w v sv) →
    Calls P f vals w fun e w' => ∃ v sv H g', post sv H ∧ e = .returned v ∧ RepSV P g' w' v sv ∧ OwnR P w g' w' H ∧ ExtC T g g' w w'

def CV.ren (B : Nat) : CV → CV
  | .d x => .d x
  | .nil => .nil
  | .sl r n sz => .sl (B + r) n sz
  | .u => .u
  | .ref _ _ => .u
  | .el _ _ _ _ => .u
  | .slp _ _ _ _ => .u
  | .rp _ => .u
  | .clo _ _ => .u
  | .fn _ => .u
  | .tape => .u
mutual
def SV.ren (B : Nat) : SV → SV
  | .u => .u
  | .one c => .one (c.ren B)
  | .agg cs => .agg (cs.map (CV.ren B))
  | .tup vs => .tup (SV.renL B vs)
def SV.renL (B : Nat) : List SV → List SV
  | [] => []
  | v :: l => v.ren B :: SV.renL B l
end
def VH.ren : VH → VH
  | .arr e sz rows => .arr e sz rows
  | .blk _ _ => .gone
  | .gone => .gone
  | .pin _ _ => .gone
  | .tbl _ _ _ _ => .gone
def renH (B : Nat) (H : List (Nat × VH)) : List (Nat × VH) := H.map fun p => (B + p.1, p.2.ren)
mutual
def CV.und (B : Nat) : CV → Bool
  | .ref q _ => Nat.blt q B
  | .sl q _ _ => Nat.blt q B
  | .el q _ _ _ => Nat.blt q B
  | .slp q _ _ _ => Nat.blt q B
  | .rp cs => CV.undL B cs
  | .clo _ cs => CV.undL B cs
  | .u => true
  | .d _ => true
  | .nil => true
  | .fn _ => true
  | .tape => true
def CV.undL (B : Nat) : List CV → Bool
  | [] => true
  | c :: cs => c.und B && CV.undL B cs
end
mutual
def SV.und (B : Nat) : SV → Bool
  | .u => true
  | .one c => c.und B
  | .agg cs => CV.undL B cs
  | .tup vs => SV.undL B vs
def SV.undL (B : Nat) : List SV → Bool
  | [] => true
  | c :: cs => c.und B && SV.undL B cs
end
def VH.und (B : Nat) : VH → Bool
  | .blk _ cs => CV.undL B cs
  | .gone => true
  | .arr _ _ _ => true
  | .pin _ c => c.und B
  | .tbl _ _ _ none => true
  | .tbl _ _ _ (some p) => Nat.blt p.2 B
def undF (B : Nat) : List (Nat × SV) → Bool
  | [] => true
  | p :: l => p.2.und B && undF B l
def undH (B : Nat) : List (Nat × VH) → Bool
  | [] => true
  | p :: l => Nat.blt p.1 B && p.2.und B && undH B l
theorem blt_lt {a b : Nat} (h : Nat.blt a b = true) : a < b := Nat.lt_of_lt_of_le (Nat.lt_succ_self _) (Nat.le_of_ble_eq_true h)
mutual
theorem CV.und_has {B r : Nat} : ∀ (c : CV), c.und B = true → c.has r = true → r < B
  | .ref q _, h, h2 => by simp only [CV.und] at h; simp only [CV.has] at h2; have := Nat.eq_of_beq_eq_true h2; subst this; exact blt_lt h
  | .sl q _ _, h, h2 => by simp only [CV.und] at h; simp only [CV.has] at h2; have := Nat.eq_of_beq_eq_true h2; subst this; exact blt_lt h
  | .slp q _ _ _, h, h2 => by simp only [CV.und] at h; simp only [CV.has] at h2; have := Nat.eq_of_beq_eq_true h2; subst this; exact blt_lt h
  | .el q _ _ _, h, h2 => by simp only [CV.und] at h; simp only [CV.has] at h2; have := Nat.eq_of_beq_eq_true h2; subst this; exact blt_lt h
  | .rp cs, h, h2 => CV.undL_has cs (by simpa only [CV.und] using h) (by simpa only [CV.has] using h2)
  | .clo _ cs, h, h2 => CV.undL_has cs (by simpa only [CV.und] using h) (by simpa only [CV.has] using h2)
  | .u, h, h2 => by simp [CV.has] at h2
  | .d _, h, h2 => by simp [CV.has] at h2
  | .nil, h, h2 => by simp [CV.has] at h2
  | .fn _, h, h2 => by simp [CV.has] at h2
  | .tape, h, h2 => by simp [CV.has] at h2
theorem CV.undL_has {B r : Nat} : ∀ (cs : List CV), CV.undL B cs = true → CV.hasL r cs = true → r < B
  | [], h, h2 => by simp [CV.hasL] at h2
  | c :: cs, h, h2 => by
    simp only [CV.undL, Bool.and_eq_true] at h
    simp only [CV.hasL, Bool.or_eq_true] at h2
    rcases h2 with h2 | h2
    · exact CV.und_has c h.1 h2
    · exact CV.undL_has cs h.2 h2
end
mutual
theorem SV.und_has {B r : Nat} : ∀ (c : SV), c.und B = true → c.has r = true → r < B
  | .u, h, h2 => by simp [SV.has] at h2
  | .one c, h, h2 => CV.und_has c (by simpa only [SV.und] using h) (by simpa only [SV.has] using h2)
  | .agg cs, h, h2 => CV.undL_has cs (by simpa only [SV.und] using h) (by simpa only [SV.has] using h2)
  | .tup vs, h, h2 => SV.undL_has vs (by simpa only [SV.und] using h) (by simpa only [SV.has] using h2)
theorem SV.undL_has {B r : Nat} : ∀ (cs : List SV), SV.undL B cs = true → SV.hasL r cs = true → r < B
  | [], h, h2 => by simp [SV.hasL] at h2
  | c :: cs, h, h2 => by
    simp only [SV.undL, Bool.and_eq_true] at h
    simp only [SV.hasL, Bool.or_eq_true] at h2
    rcases h2 with h2 | h2
    · exact SV.und_has c h.1 h2
    · exact SV.undL_has cs h.2 h2
end
theorem undF_get {B : Nat} {F : List (Nat × SV)} (h : undF B F = true) (x : Nat) : (getF F x).und B = true := by
  induction F with
  | nil => rfl
  | cons p F ih =>
    simp only [undF, Bool.and_eq_true] at h
    simp only [getF]
    cases Nat.beq p.1 x
    · exact ih h.2
    · exact h.1
theorem undH_get {B : Nat} {H : List (Nat × VH)} (h : undH B H = true) (x : Nat) : (getH H x).und B = true ∧ (live H x → x < B) := by
  induction H with
  | nil => exact ⟨rfl, fun h => by cases h⟩
  | cons p H ih =>
    simp only [undH, Bool.and_eq_true] at h
    unfold live
    simp only [getH]
    cases hb : Nat.beq p.1 x
    · exact ih h.2
    · have := Nat.eq_of_beq_eq_true hb
      exact ⟨h.1.2, fun _ => this ▸ blt_lt h.1.1⟩
theorem renH_get (B : Nat) (H : List (Nat × VH)) (x : Nat) : getH (renH B H) x = if B ≤ x then (getH H (x - B)).ren else .gone := by
  induction H with
  | nil => simp [renH, getH, VH.ren]
  | cons p H ih =>
    simp only [renH, List.map_cons, getH, beq_eq] at ih ⊢
    rw [ih]
    by_cases e : B ≤ x
    · by_cases e2 : p.1 = x - B
      · simp [show B + p.1 = x by omega, e2, e]
      · simp [show ¬ B + p.1 = x by omega, e2, e]
    · simp [show ¬ B + p.1 = x by omega, e]
theorem ren_live {h : VH} (hl : h.ren.live = true) : h.live = true ∧ h.ren = h := by
  cases h <;> first | exact ⟨rfl, rfl⟩ | cases hl
theorem getH_append (A B : List (Nat × VH)) (x : Nat) (h : ∀ p ∈ A, p.1 ≠ x) : getH (A ++ B) x = getH B x := by
  induction A with
  | nil => rfl
  | cons p A ih =>
    simp only [List.cons_append, getH, beq_eq]
    have := h p (by simp)
    simp [this, ih fun q hq => h q (by simp [hq])]
theorem getH_append2 (A B : List (Nat × VH)) (x : Nat) (h : ∀ p ∈ B, p.1 ≠ x) : getH (A ++ B) x = getH A x := by
  induction A with
  | nil =>
    induction B with
    | nil => rfl
    | cons p B ih =>
      simp only [List.nil_append, getH, beq_eq] at ih ⊢
      have := h p (by simp)
      simp [this, ih fun q hq => h q (by simp [hq])]
  | cons p A ih => simp only [List.cons_append, getH, ih]
theorem renH_key {B : Nat} {H : List (Nat × VH)} {p : Nat × VH} (h : p ∈ renH B H) : B ≤ p.1 := by
  unfold renH at h
  obtain ⟨q, _, rfl⟩ := List.mem_map.1 h
  exact Nat.le_add_right _ _
theorem undH_key {B : Nat} {H : List (Nat × VH)} (h : undH B H = true) {p : Nat × VH} (hp : p ∈ H) : p.1 < B := by
  induction H with
  | nil => cases hp
  | cons q H ih =>
    simp only [undH, Bool.and_eq_true] at h
    rcases List.mem_cons.1 hp with rfl | hp
    · exact blt_lt h.1.1
    · exact ih h.2 hp
theorem joinH_get {B : Nat} {H H' : List (Nat × VH)} (h : undH B H = true) (x : Nat) : getH (renH B H' ++ H) x = if B ≤ x then (getH H' (x - B)).ren else getH H x := by
  by_cases e : B ≤ x
  · rw [getH_append2 _ _ _ (fun p hp => by have := undH_key h hp; omega), renH_get, if_pos e, if_pos e]
  · rw [getH_append _ _ _ (fun p hp => by have := renH_key hp; omega), if_neg e]
def Gh.join (g g' : Gh) (B : Nat) : Gh := ⟨fun x => if B ≤ x then g'.β (x - B) else g.β x, fun x => if B ≤ x then g'.κ (x - B) else g.κ x, g'.Rd, g.tp, g.tl, g.ex⟩
section
variable {P : Program} {T : TypeId} {N : Nat} {w0 : Org} {g g' : Gh} {s : St} {a : Act} {w w' : World} {B : Nat} {H : List (Nat × VH)}
theorem join_hi (x : Nat) : (g.join g' B).β (B + x) = g'.β x ∧ (g.join g' B).κ (B + x) = g'.κ x := by
  simp only [Gh.join]; rw [if_pos (by omega), if_pos (by omega)]; exact ⟨by congr 1; omega, by congr 1; omega⟩
theorem join_lo {x : Nat} (h : x < B) : (g.join g' B).β x = g.β x ∧ (g.join g' B).κ x = g.κ x := by
  simp only [Gh.join]; rw [if_neg (by omega), if_neg (by omega)]; exact ⟨rfl, rfl⟩
theorem RepCV.ren {v : Value} {c : CV} (h : RepCV P g' w v c) : RepCV P (g.join g' B) w v (c.ren B) := by
  cases h with
  | u h => exact .u h
  | d h => exact .d h
  | nil => exact .nil
  | @slv r sz h => exact .slv sz ((join_hi r).1.trans h)
  | @sl r b n sz h h1 h2 =>
    obtain ⟨e1, e2⟩ := join_hi (g := g) (g' := g') (B := B) r
    have := RepCV.sl (P := P) (g := g.join g' B) (w := w) (r := B + r) (b := b) n sz (e1.trans h) (by rw [e2]; exact h1) (by rw [e2]; exact h2)
    rwa [e2] at this
  | fn h => exact .u h.oneCell
  | _ => exact .u rfl
theorem SV.renL_eq (B : Nat) (l : List SV) : SV.renL B l = l.map (SV.ren B) := by
  induction l with
  | nil => rfl
  | cons v l ih => simp [SV.renL, ih]
theorem RepSV.ren {v : Value} {c : SV} (h : RepSV P g' w v c) : RepSV P (g.join g' B) w v (c.ren B) := by
  induction h with
  | u v => exact .u v
  | one h => exact .one h.ren
  | agg vs cs hs h =>
    refine .agg vs _ (by simpa using hs) fun j v c h1 h2 => ?_
    · rw [List.getElem?_map] at h2
      cases hx : cs[j]? with
      | none => rw [hx] at h2; cases h2
      | some x => rw [hx] at h2; simp at h2; subst h2; exact (h j v x h1 hx).ren
  | tup vs ss hs h ih =>
    simp only [SV.ren, SV.renL_eq]
    refine .tup vs _ (by simpa using hs) fun j v c h1 h2 => ?_
    · rw [List.getElem?_map] at h2
      cases hx : ss[j]? with
      | none => rw [hx] at h2; cases h2
      | some x => rw [hx] at h2; simp at h2; subst h2; exact ih j v x h1 hx
theorem Sim.join (hs : Sim P T N w0 g s a w) (hF : undF B s.F = true) (hH : undH B s.H = true) (ho : OwnR P w g' w' H) (he : ExtC T (psG g s.H w true) g' w w') : Sim P T N w0 (g.join g' B) ⟨s.F, renH B H ++ s.H⟩ a w' := by
  have hsz := hs.gi.sz
  have hsz2 := he.keep.size
  have hcell : ∀ b o, g.Rd b o → w'.cell? ⟨b, o, none⟩ = w.cell? ⟨b, o, none⟩ := fun b o hr => he.keep.cell (p := ⟨b, o, none⟩) fun hm => by
    obtain ⟨h1, h2, _⟩ := hs.gi.rd b o hr
    rcases hm with hm | hm
    · exact h2 hm
    · simp at hm; omega
  have hf : Fut g.Rd (g.join g' B).Rd w w' := ⟨fun b o hr => he.rd b o hr, hcell⟩
  have hlive : ∀ r, live (renH B H ++ s.H) r → (B ≤ r ∧ live H (r - B)) ∨ (r < B ∧ live s.H r) := fun r hl => by
    unfold live at hl ⊢
    rw [joinH_get hH] at hl
    by_cases e : B ≤ r
    · rw [if_pos e] at hl; exact .inl ⟨e, (ren_live hl).1⟩
    · rw [if_neg e] at hl; exact .inr ⟨by omega, hl⟩
  have hown : ∀ r b, live (renH B H ++ s.H) r → (g.join g' B).β r = some b → (B ≤ r ∧ live H (r - B) ∧ g'.β (r - B) = some b ∧ w.heap.size ≤ b ∧ b < w'.heap.size) ∨ (r < B ∧ live s.H r ∧ g.β r = some b ∧ w0.own b ∧ b < w.heap.size ∧ g.tp ≠ some b) := fun r b hl hb => by
    rcases hlive r hl with ⟨e, h1⟩ | ⟨e, h1⟩
    · simp only [Gh.join, if_pos e] at hb
      obtain ⟨q1, q2⟩ := ho.bd _ _ h1 hb
      exact .inl ⟨e, h1, hb, q1, q2⟩
    · rw [(join_lo e).1] at hb
      obtain ⟨q1, q2, q3⟩ := hs.gi.bd r b h1 hb
      exact .inr ⟨e, h1, hb, q1, q2, q3⟩
  have htp : ∀ tb, g.tp = some tb → tb < w.heap.size := fun tb h => (hs.gi.tape tb h).1
  refine ⟨⟨fun r r' b h1 h2 h3 h4 => ?_, fun r b h1 h2 => ?_, fun b o hr => ?_, ?_, fun tb htb => ?_, ⟨fun b o hr => he.rd b o (hs.gi.org.rd0 _ _ hr), fun b o hr => ?_, hs.gi.org.tp0, hs.gi.org.tpo⟩, hs.gi.exs (fun _ _ h => h) fun c hc => ?_⟩, hs.dn, hs.nt, fun x => (hs.hF x).move hf (fun _ h => h) fun r hr => join_lo (SV.und_has _ (undF_get hF x) hr), fun r => ?_⟩
  · rcases hown r b h1 h3 with ⟨e1, l1, b1, c1, d1⟩ | ⟨e1, l1, b1, c1, d1, _⟩ <;> rcases hown r' b h2 h4 with ⟨e2, l2, b2, c2, d2⟩ | ⟨e2, l2, b2, c2, d2, _⟩
    · have := ho.inj _ _ b l1 l2 b1 b2; omega
    · omega
    · omega
    · exact hs.gi.inj r r' b l1 l2 b1 b2
  · rcases hown r b h1 h2 with ⟨e1, l1, b1, c1, d1⟩ | ⟨e1, l1, b1, c1, d1, t1⟩
    · exact ⟨.inl (by omega), d1, fun h => by have := htp b h; omega⟩
    · exact ⟨c1, by omega, t1⟩
  · have hb : b < w'.heap.size ∧ g.tp ≠ some b ∧ (g.Rd b o ∨ w.heap.size ≤ b) := by
      rcases he.new b o hr with h | ⟨h1, h2⟩
      · obtain ⟨q1, q2, _⟩ := hs.gi.rd b o h
        exact ⟨by omega, q2, .inl h⟩
      · exact ⟨h2, fun h => by have := htp b h; omega, .inr h1⟩
    refine ⟨hb.1, hb.2.1, fun r hl h => ?_⟩
    rcases hown r b hl h with ⟨e1, l1, b1, c1, d1⟩ | ⟨e1, l1, b1, c1, d1, t1⟩
    · exact ho.rd b o hr _ l1 b1
    · rcases hb.2.2 with h3 | h3
      · exact (hs.gi.rd b o h3).2.2 r l1 b1
      · omega
  · refine hs.gi.keep.trans (he.keep.mono fun k hk => ?_)
    rcases hk with hk | hk
    · exact hs.gi.org.tpo k hk
    · exact .inr (.inl (by omega))
  · exact ⟨by have := htp tb htb; omega, he.tape tb htb⟩
  · rcases he.new b o hr with h | ⟨h1, h2⟩
    · exact hs.gi.org.new0 b o h
    · exact .inr (.inl (by omega))
  · obtain ⟨_, c2, c3, c4, c5⟩ := hc
    refine ⟨he.keep.block c fun hm => ?_, c3, fun o ho2 => ?_, fun r hl hb => ?_⟩
    · rcases hm with hm | hm
      · exact c3 hm
      · omega
    · rcases he.new c o ho2 with h | ⟨h1, _⟩
      · exact c4 o h
      · omega
    · rcases hown r c hl hb with ⟨_, _, _, q1, _⟩ | ⟨_, q1, q2, _⟩
      · omega
      · exact c5 r q1 q2
  · show HeapOK P (g.join g' B) w' r (getH (renH B H ++ s.H) r)
    rw [joinH_get hH]
    by_cases e : B ≤ r
    · rw [if_pos e]
      have hh := ho.hH (r - B)
      obtain ⟨e1, e2⟩ := join_hi (g := g) (g' := g') (B := B) (r - B)
      rw [show B + (r - B) = r by omega] at e1 e2
      cases hx : getH H (r - B) with
      | gone => trivial
      | pin v c => trivial
      | blk t cs => trivial
      | tbl _ _ _ _ => trivial
      | arr et sz rows =>
        rw [hx] at hh
        obtain ⟨h0, h⟩ := hh
        refine ⟨h0, ?_⟩
        rcases h with ⟨h1, h2⟩ | ⟨b, vals, h1, h2, h3, h4, h5, h6⟩
        · exact .inl ⟨e1.trans h1, h2⟩
        · exact .inr ⟨b, vals, e1.trans h1, h2, by rw [e2]; exact h3, by rw [e2]; exact h4, by rw [e2]; exact h5, h6⟩
    · rw [if_neg e]
      obtain ⟨u1, u2⟩ := undH_get hH r
      refine (hs.hH r).move hf (fun _ h => h) (fun q hq => ?_) (fun b hl hb => ?_) fun _ _ h => h
      · rcases hq with hq | rfl
        · cases hx : getH s.H r with
          | gone => rw [hx] at hq; cases hq
          | pin v c => rw [hx] at hq u1; exact join_lo (CV.und_has c u1 hq)
          | arr _ _ _ => rw [hx] at hq; cases hq
          | blk t cs => rw [hx] at hq u1; exact join_lo (CV.undL_has cs u1 hq)
          | tbl e0 e1 rows o =>
            rw [hx] at hq u1
            cases o with
            | none => cases hq
            | some p =>
              have e9 : p.2 = q := Nat.eq_of_beq_eq_true hq
              subst e9
              exact join_lo (Nat.le_of_ble_eq_true u1)
        · exact join_lo (by omega)
      · obtain ⟨_, a2, a3⟩ := hs.gi.bd r b hl hb
        exact he.keep.block b fun hm => by
          rcases hm with hm | hm
          · exact a3 hm
          · omega
end
section
variable {P : Program} {T : TypeId} {N : Nat} {w0 : Org} {g g' : Gh} {s : St} {a : Act} {w w' : World} {o : Oper} {τ : List TyI}
theorem opr_callo {f : FuncId} {xs : Array Operand} {ts : Array TypeId} {args : List SV} {v : SV} {H : List (Nat × VH)} {d : Nat} (B : Nat) (ho : o.op = .call { callee := .value (.func f), args := xs, argTypes := ts }) (hd : o.dst = some d) (hN : d < N) (hic : ICo P T f args (fun x y => x = v ∧ y = H))
    (ha : PsSL P T s true xs.toList args) (hF : undF B s.F = true) (hH : undH B s.H = true) : OpR P T N w0 s o (fun s' => s' = (St.mk s.F (renH B H ++ s.H)).put d (v.ren B)) := by
  intro g a w hs K Q hK
  obtain ⟨k1, k2⟩ := ha.rep hs
  have hrun : (execOp a.eval o).run P w = .ok (.enter f (xs.map a.eval)) w := by
    simp only [execOp, ho, Sem.run_bind, resolve, Act.eval, Deferred.ofValue, Sem.run_pure, Result.andThen_ok, invoke]
    have := hic.1 (#[] ++ xs.map a.eval ++ #[]) w
    simpa using this
  unfold Oper.wp
  rw [hrun, Oper.upon_enter]
  refine (hic.2 (psG g s.H w true) w (xs.map a.eval) (fun _ => rfl) (ps_gi hs true) (by simpa using k1) fun j v sv hv hsv => k2 j v sv (by simpa using hv) hsv).mono fun e w' ⟨u, sv, H', g', ⟨h1, h2⟩, h3, h4, h5, h6⟩ => ?_
  subst h1; subst h2; subst h3
  have hj := hs.join hF hH h5 h6
  refine hK (g.join g' B) _ _ _ rfl ?_
  rw [hd]
  exact hj.put hN h4.ren
inductive ResO : List SV → SV → Prop where
  | one (v : SV) : ResO [v] v
  | two (v1 v2 : SV) (l : List SV) : ResO (v1 :: v2 :: l) (.tup (v1 :: v2 :: l))
  | none : ResO [] (.tup [])
def RetQo (τ : List TyI) (fn : Func) (post : SV → List (Nat × VH) → Prop) (e : Exit) (s : St) : Prop :=
  (e = .ret ∨ e = .normal) ∧ ∃ raw sv H, ResL τ s fn.results.toList raw ∧ ResO raw sv ∧ FitH [] s H ∧ post sv H
theorem results_runO (hτ : tabB P 0 τ = true) (hs : Sim P T N w0 g s a w) {fn : Func} {raw : List SV} {sv : SV} (h : ResL τ s fn.results.toList raw) (hr : ResO raw sv) : ∃ v, (results fn a.tmps).run P w = .ok v w ∧ RepSV P g w v sv := by
  obtain ⟨vs, h1, h2, h3⟩ := h.run hτ hs
  have hm : (results fn a.tmps).run P w = .ok (if h : vs.toArray.size = 1 then vs.toArray[0] else .tuple vs.toArray) w := by
    unfold results
    rw [Array.mapM_eq_mapM_toList]
    simp only [Sem.run_bind, map_eq_pure_bind, Sem.run_pure]
    change (((Sem.run P (fn.results.toList.mapM (resF a)) w).andThen _).andThen _) = _
    rw [h1]
    rfl
  refine ⟨_, hm, ?_⟩
  cases hr with
  | one v =>
    obtain ⟨u, rfl⟩ : ∃ u, vs = [u] := by
      match vs, h2 with
      | [u], _ => exact ⟨u, rfl⟩
    exact h3 0 u _ rfl rfl
  | two v1 v2 l =>
    have hlen : vs.toArray.size ≠ 1 := by simp [h2]
    rw [dif_neg hlen]
    exact .tup _ _ (by simpa using h2) fun j v c hv hc => h3 j v c (by simpa using hv) hc
  | none =>
    obtain rfl : vs = [] := List.eq_nil_of_length_eq_zero h2
    exact .tup _ _ rfl (by simp)
theorem ico_of {f : FuncId} {fn : Func} {c : Code} {args : List SV} {post : SV → List (Nat × VH) → Prop} (hτ : tabB P 0 τ = true) (hf : P.funcs[f]? = some fn) (hname : (fn.name == "runtime.NumGoroutine") = false) (hb : fn.body = some c) (hn : Nat.ble args.length fn.ntmps = true)
    (h : ∀ w0, iwp P T fn.ntmps w0 c (RetQo τ fn post) ⟨argF 0 args, []⟩) : ICo P T f args post := by
  refine ⟨enters_of hf hname hb, fun g w vals hβ hgi hsz hrep => calls_of_wp hf hb ?_⟩
  have hle := Nat.le_of_ble_eq_true hn
  have hs : Sim P T fn.ntmps (g.org w) g ⟨argF 0 args, []⟩ { tmps := vals ++ Array.replicate (fn.ntmps - vals.size) undef, defers := [] } w := by
    refine ⟨hgi, rfl, by simp; omega, fun x => ?_, fun r => trivial⟩
    show RepSV P g w _ (getF (argF 0 args) x)
    rw [argF_get]
    simp only [Nat.zero_le, if_true, Nat.sub_zero]
    cases hx : args[x]? with
    | none => exact .u _
    | some sv =>
      have hlt := (List.getElem?_eq_some_iff.1 hx).1
      have hv : vals[x]? = some (vals[x]'(by omega)) := Array.getElem?_eq_getElem (by omega)
      have := hrep x _ sv hv hx
      simpa [Array.getElem_append, show x < vals.size by omega, show x < vals.size + (fn.ntmps - vals.size) by omega] using this
  refine wp_mono (h (g.org w) g _ w hs) fun e a' w' ⟨g', s', ⟨he, raw, sv, H, hr1, hr2, hfit, hp⟩, hs'⟩ => ?_
  obtain ⟨v, hrun, hrv⟩ := results_runO hτ hs' hr1 hr2
  have hv0 : g'.virt [] = g' := by unfold Gh.virt; simp
  have hs2 := hs'.fits (s' := ⟨[], H⟩) (vs := []) ⟨.nil, hfit⟩
  rw [hv0] at hs2
  have hext : ExtC T g g' w w' := by
    refine ⟨fun b o h => hs'.gi.org.rd0 b o h, fun b o h => ?_, mut_org hs'.gi.keep, fun tb htb => ?_⟩
    · have hlt := (hs'.gi.rd b o h).1
      rcases hs'.gi.org.new0 b o h with h | h
      · exact .inl h
      · exact .inr ⟨own_org h, hlt⟩
    · obtain ⟨e1, e2⟩ := hs'.gi.org.tp0 tb htb
      have := (hs'.gi.tape tb e1).2
      rw [e2] at this
      exact this
  have hown : OwnR P w g' w' H := ⟨hs2.gi.inj, fun r b hl hb => ⟨own_org (hs2.gi.bd r b hl hb).1, (hs2.gi.bd r b hl hb).2.1⟩, fun b o hr => (hs2.gi.rd b o hr).2.2, hs2.hH⟩
  rcases he with rfl | rfl
  · exact ⟨hs'.dn, v, hrun, v, sv, H, g', hp, rfl, hrv, hown, hext⟩
  · exact ⟨hs'.dn, v, hrun, v, sv, H, g', hp, rfl, hrv, hown, hext⟩
end
section
variable {k : Wk} {w0 : Org} {ops : Array Oper} {l : List Oper} {Q : St → Prop} {s : St} {d t : Nat} {p : String} {af : Array Edge}
theorem i_callo {f : FuncId} {xs : Array Operand} {ts : Array TypeId} {args : List SV} {v : SV} {H : List (Nat × VH)} (B : Nat) (hN : Nat.blt d k.N = true) (hic : ICo k.P k.T f args (fun x y => x = v ∧ y = H)) (ha : PsSL k.P k.T s true xs.toList args) (hF : undF B s.F = true) (hH : undH B s.H = true)
    (h : rg k w0 ops l Q ((St.mk s.F (renH B H ++ s.H)).put d (v.ren B))) : rg k w0 ops (⟨some d, .call { callee := .value (.func f), args := xs, argTypes := ts }, t, p, af, none⟩ :: l) Q s :=
  rgI (irg_h rfl (opr_callo B rfl rfl (nlt hN) hic ha hF hH) (rgO h))
end
theorem ico_wk (k : Wk) {f : FuncId} {fn : Func} {c : Code} {args : List SV} {post : SV → List (Nat × VH) → Prop} (hf : k.P.funcs[f]? = some fn) (hN : fn.ntmps = k.N) (hname : (fn.name == "runtime.NumGoroutine") = false) (hb : fn.body = some c) (hn : Nat.ble args.length k.N = true)
    (h : ∀ w0, wk k w0 c (RetQo k.τ fn post) ⟨argF 0 args, []⟩) : ICo k.P k.T f args post :=
  ico_of k.ok hf hname hb (by rw [hN]; exact hn) fun w0 => by rw [hN]; exact wkO (h w0)
section
variable {τ : List TyI} {fn : Func} {post : SV → List (Nat × VH) → Prop} {s : St} {H : List (Nat × VH)}
theorem o_1 {t : Tmp} {v : CV} (hr : fn.results = #[.tmp t]) (hv : getF s.F t = .one v) (hf : FitH [] s H) (h : post (.one v) H) : RetQo τ fn post .ret s :=
  ⟨.inl rfl, _, _, H, by rw [hr]; exact .cons (.tmp t) .nil, by rw [hv]; exact .one _, hf, h⟩
theorem o_c {t : Tmp} {ty r off n tt : Nat} {cs : List CV} {fs zs} (hr : fn.results = #[.cell t ty]) (hv : getF s.F t = .one (.ref r off)) (hH : getH s.H r = .blk tt cs) (ht : tyAt τ ty = .st n fs zs) (hle : off + n ≤ cs.length) (hf : FitH [] s H) (h : post (.agg ((cs.drop off).take n)) H) : RetQo τ fn post .ret s :=
  ⟨.inl rfl, _, _, H, by rw [hr]; exact .cons (.celln hv hH ht hle) .nil, .one _, hf, h⟩
end
theorem CVle.rfl_ (c : CV) : CVle [] c c := by
  cases c with
  | u => exact .u _
  | d x => exact .d rfl
  | nil => exact .nil
  | ref r o => exact .ref rfl rfl
  | sl r n sz => exact .sl rfl rfl
  | el r i j sz => exact .el rfl rfl rfl
  | slp r o n sz => exact .slp rfl
  | rp cs => exact .rp fun r h => by cases h
  | clo f cs => exact .clo fun r h => by cases h
  | fn p => exact .fn p
  | tape => exact .tape
def killC (r : Nat) (c : CV) : CV := bif c.has r then .u else c
theorem killC_le (r : Nat) (c : CV) : CVle [] c (killC r c) := by
  unfold killC
  cases c.has r
  · exact CVle.rfl_ c
  · exact .u c
theorem killL_le (r : Nat) (l : List CV) : CVleL [] l (l.map (killC r)) := by
  induction l with
  | nil => exact .nil
  | cons c l ih => exact .cons (killC_le r c) ih
def killV (r : Nat) : VH → VH
  | .blk t cs => .blk t (cs.map (killC r))
  | .arr e sz rows => .arr e sz rows
  | .gone => .gone
  | .pin v c => bif c.has r then .gone else .pin v c
  | .tbl _ _ _ _ => .gone
def killH (r : Nat) (H : List (Nat × VH)) : List (Nat × VH) := (H.map (·.1)).map fun x => (x, killV r (getH H x))
theorem killH_fit (s : St) (r : Nat) : FitH [] s (killH r s.H) := by
  unfold killH
  generalize s.H.map (·.1) = l
  induction l with
  | nil => exact .nil
  | cons x l ih =>
    refine .cons ?_ ih
    cases getH s.H x with
    | gone => exact .gone _
    | pin v c =>
      show VHle [] x (.pin v c) (bif c.has r then .gone else .pin v c)
      cases c.has r
      · exact .pin (CVle.rfl_ c)
      · exact .gone _
    | blk t cs => exact .blk rfl (killL_le r cs)
    | arr e sz rows => exact .arr rfl rfl
    | tbl _ _ _ _ => exact .gone _
theorem Sim.forgetH {P : Program} {T : TypeId} {N : Nat} {w0 : Org} {g : Gh} {s : St} {a : Act} {w : World} (hs : Sim P T N w0 g s a w) {H : List (Nat × VH)} (h : FitH [] s H) : Sim P T N w0 g ⟨s.F, H⟩ a w := by
  have hv0 : g.virt [] = g := by unfold Gh.virt; simp
  have hs2 := hs.fits (s' := ⟨[], H⟩) (vs := []) ⟨.nil, h⟩
  rw [hv0] at hs2
  exact ⟨hs2.gi, hs.dn, hs.nt, hs.hF, hs2.hH⟩
section
variable {k : Wk} {w0 : Org} {ops : Array Oper} {l : List Oper} {Q : St → Prop} {s : St} {d t t' : Nat} {x y : Operand} {p : String} {af : Array Edge}
theorem i_fgH {H : List (Nat × VH)} (h : FitH [] s H) (hk : rg k w0 ops l Q ⟨s.F, H⟩) : rg k w0 ops l Q s := by
  refine rgI ?_
  intro g a w hs
  exact rgO hk g a w (hs.forgetH h)
theorem i_apk {e sz by_ r n : Nat} {zs : List Z} {rows rows' : List (List Cell)} (hN : Nat.blt d k.N = true) (ht : tyAt k.τ t' = .sl e sz by_) (hz : (tyAt k.τ e).zs = some zs) (hzl : zs.length = sz) (h0 : Nat.blt 0 sz = true) (hx : s.ev x = .one (.sl r n sz)) (hr : getH s.H r = .arr e sz rows) (hr2 : getH (killH r s.H) r = .arr e sz rows) (hn : n = rows.length) (hy : Src ⟨s.F, killH r s.H⟩ sz (s.ev y) rows') (hf : allH r (killH r s.H) = true)
    (hbd : (rows.length + rows'.length) * by_ ≤ 140737488355328) (hb0 : Nat.blt 0 by_ = true) (h : rg k w0 ops l Q ((St.mk (killF r s.F) ((r, .arr e sz (rows ++ rows')) :: killH r s.H)).put d (.one (.sl r (rows ++ rows').length sz)))) : rg k w0 ops (⟨some d, .call { callee := .builtin .append, args := #[x, y], argTypes := #[t', t'] }, t, p, af, none⟩ :: l) Q s :=
  i_fgH (killH_fit s r) (i_ap (s := ⟨s.F, killH r s.H⟩) hN ht hz hzl h0 hx hr2 hn hy hf hbd hb0 h)
end
end Go.Proofs.Ytcbppkfnfbdkhaa
/- Freezing what is the call's own; a tape of the call's own; loops unrolled. -/
set_option linter.all false
namespace Go.Proofs.Ytcbppkfnfbdkhaa
open Go.RowKit Go.Shelf
inductive CVz (H : List (Nat × VH)) (rs : List Nat) : CV → CV → Prop where
  | same (c : CV) : CVz H rs c c
  | u (c : CV) : CVz H rs c .u
  | fz {r n sz : Nat} {e : TypeId} {rows : List (List Cell)} (hr : rs.contains r = true) (h : getH H r = .arr e sz rows) (hn : n = rows.length) : CVz H rs (.sl r n sz) (.d (.list rows))
  | nild : CVz H rs .nil (.d (.list []))
  | fzr {r off : Nat} {t : TypeId} {cs : List CV} (hr : rs.contains r = true) (h : getH H r = .blk t cs) (hd : plL cs = true) : CVz H rs (.ref r off) (.rp (cs.drop off))
inductive CVzL (H : List (Nat × VH)) (rs : List Nat) : List CV → List CV → Prop where
  | nil : CVzL H rs [] []
  | cons {c c' : CV} {l l' : List CV} (h : CVz H rs c c') (hl : CVzL H rs l l') : CVzL H rs (c :: l) (c' :: l')
  | same (l : List CV) : CVzL H rs l l
inductive SVz (H : List (Nat × VH)) (rs : List Nat) : SV → SV → Prop where
  | u (v : SV) : SVz H rs v .u
  | one {c c' : CV} (h : CVz H rs c c') : SVz H rs (.one c) (.one c')
  | agg {l l' : List CV} (h : CVzL H rs l l') : SVz H rs (.agg l) (.agg l')
  | same (v : SV) : SVz H rs v v
inductive VHz (H : List (Nat × VH)) (rs : List Nat) (x : Nat) : VH → VH → Prop where
  | gone (v : VH) (h : rs.contains x = true) : VHz H rs x v .gone
  | blk {t : TypeId} {cs cs' : List CV} (h : rs.contains x = false) (hl : CVzL H rs cs cs') : VHz H rs x (.blk t cs) (.blk t cs')
  | same (v : VH) (h : rs.contains x = false) : VHz H rs x v v
inductive FrF (H : List (Nat × VH)) (rs : List Nat) : List (Nat × SV) → List (Nat × SV) → Prop where
  | nil : FrF H rs [] []
  | cons {x : Nat} {v v' : SV} {l l' : List (Nat × SV)} (h : SVz H rs v v') (hl : FrF H rs l l') : FrF H rs ((x, v) :: l) ((x, v') :: l')
inductive FrH (H : List (Nat × VH)) (rs : List Nat) : List (Nat × VH) → List (Nat × VH) → Prop where
  | nil : FrH H rs [] []
  | cons {x : Nat} {v v' : VH} {l l' : List (Nat × VH)} (h : VHz H rs x v v') (hl : FrH H rs l l') : FrH H rs ((x, v) :: l) ((x, v') :: l')
theorem FrF.get {H : List (Nat × VH)} {rs : List Nat} {F F' : List (Nat × SV)} (h : FrF H rs F F') (x : Nat) : SVz H rs (getF F x) (getF F' x) := by
  induction h with
  | nil => exact .same _
  | @cons y v v' l l' h hl ih =>
    simp only [getF, beq_eq]
    by_cases e : y = x
    · subst e; simpa using h
    · simpa [e] using ih
theorem FrH.get {H0 : List (Nat × VH)} {rs : List Nat} {H H' : List (Nat × VH)} (h : FrH H0 rs H H') (x : Nat) : VHz H0 rs x (getH H x) (getH H' x) := by
  induction h with
  | nil =>
    cases hc : rs.contains x with
    | true => exact .gone _ hc
    | false => exact .same _ hc
  | @cons y v v' l l' h hl ih =>
    simp only [getH, beq_eq]
    by_cases e : y = x
    · subst e; simpa using h
    · simpa [e] using ih
theorem VHz.live {H : List (Nat × VH)} {rs : List Nat} {x : Nat} {v v' : VH} (h : VHz H rs x v v') (hl : v'.live = true) : rs.contains x = false ∧ v.live = true := by
  cases h with
  | gone v h => cases hl
  | blk h hl => exact ⟨h, rfl⟩
  | same v h => exact ⟨h, hl⟩
def frRd (g : Gh) (H : List (Nat × VH)) (rs : List Nat) (w : World) : Nat → Nat → Prop := fun b o => g.Rd b o ∨ ((∃ r, live H r ∧ rs.contains r = true ∧ g.β r = some b) ∧ (w.cell? ⟨b, o, none⟩).isSome = true)
def Gh.fr (g : Gh) (H : List (Nat × VH)) (rs : List Nat) (w : World) : Gh := ⟨g.β, g.κ, frRd g H rs w, g.tp, g.tl, g.ex⟩
section
variable {P : Program} {T : TypeId} {N : Nat} {w0 : Org} {g g' : Gh} {s s' : St} {a : Act} {w w' : World} {rs : List Nat}
theorem fr_fut (g : Gh) (H : List (Nat × VH)) (rs : List Nat) (w : World) : Fut g.Rd (g.fr H rs w).Rd w w := ⟨fun _ _ h => .inl h, fun _ _ _ => rfl⟩
theorem fr_cell {r n sz : Nat} {e : TypeId} {rows : List (List Cell)} (hs : Sim P T N w0 g s a w) (hr : rs.contains r = true) (h : getH s.H r = .arr e sz rows) (hn : n = rows.length) {v : Value} (hv : RepCV P g w v (.sl r n sz)) : RepCell (frRd g s.H rs w) w v (.list rows) := by
  subst hn
  have hh := hs.hH r; rw [h] at hh
  obtain ⟨g0, _⟩ := hh
  have hl : live s.H r := by unfold live; rw [h]; rfl
  rcases arr_vals hs h hv with ⟨rfl, rfl, _⟩ | ⟨b, vals, hb, rfl, hbl, h1, h2, h3, h4⟩
  · exact .list none 0 [] 0 (fun _ _ => undef) (fun _ => rfl) (Nat.le_refl _) (by unfold maxLen; omega) (by simp) (by simp) (by simp)
  · refine .list (some ⟨b, 0, none⟩) (g.κ r) rows sz (fun i j => vals.getD (i * sz + j) undef) (fun h => by cases h) h2 h3 g0 (fun i j hi hj => ?_) (fun i j row x hi hj => ?_)
    · have hlt : i * sz + j < vals.size := by
        have : (i + 1) * sz ≤ g.κ r * sz := Nat.mul_le_mul_right _ (by omega)
        rw [Nat.add_mul] at this
        omega
      have hc : w.cell? ⟨b, 0 + (i * sz + j), none⟩ = some (vals.getD (i * sz + j) undef) := by
        rw [Nat.zero_add, hbl.cell]; simp [Array.getD, hlt]
      exact ⟨b, 0, rfl, .inr ⟨⟨r, hl, hr, hb⟩, by rw [hc]; rfl⟩, hc⟩
    · obtain ⟨u, hu, hr⟩ := h4 i j row x hi hj
      have : vals.getD (i * sz + j) undef = u := by rw [Array.getD_eq_getD_getElem?, hu]; rfl
      rw [this]
      exact hr.mono (fun _ _ h => .inl h) (fun _ _ _ => rfl)
theorem CVz.rep (hs : Sim P T N w0 g s a w) {c c' : CV} (h : CVz s.H rs c c') {v : Value} (hv : RepCV P g w v c) : RepCV P (g.fr s.H rs w) w v c' := by
  cases h with
  | same c => exact hv.move (fr_fut _ _ _ _) (fun _ h => h) fun _ _ => ⟨rfl, rfl⟩
  | u c => exact .u hv.one
  | fz hr h hn => exact .d (fr_cell hs hr h hn hv)
  | nild => exact .d ((hv.unD rfl).mono (fr_fut g s.H rs w).rd (fr_fut g s.H rs w).cell)
  | @fzr r off t cs hr h hd =>
    have hh := hs.hH r; rw [h] at hh
    obtain ⟨b, vals, q1, q2, q3, q4⟩ := hh
    obtain ⟨b', hb', rfl⟩ := hv.ref_inv
    obtain rfl : b = b' := by rw [q1] at hb'; injection hb'
    have hl : live s.H r := by unfold live; rw [h]; rfl
    have hc : ∀ j c, (cs.drop off)[j]? = some c → off + j < vals.size ∧ cs[off + j]? = some c := fun j c hj => by
      rw [List.getElem?_drop] at hj
      exact ⟨by have := (List.getElem?_eq_some_iff.1 hj).1; omega, hj⟩
    refine .rp b off _ (fun j => vals.getD (off + j) undef) (fun j c hj => ?_) (fun j c hj => ?_)
    · obtain ⟨h1, h2⟩ := hc j c hj
      have e : w.cell? ⟨b, off + j, none⟩ = some (vals.getD (off + j) undef) := by rw [q2.cell]; simp [Array.getD, h1]
      exact ⟨.inr ⟨⟨r, hl, hr, q1⟩, by rw [e]; rfl⟩, e⟩
    · obtain ⟨h1, h2⟩ := hc j c hj
      have e : vals[off + j]? = some (vals.getD (off + j) undef) := by rw [Array.getD_eq_getD_getElem?, Array.getElem?_eq_getElem h1]; rfl
      exact (q4 (off + j) _ c e h2).move (fr_fut _ _ _ _) (fun _ h => h) fun _ _ => ⟨rfl, rfl⟩
theorem CVzL.rep (hs : Sim P T N w0 g s a w) {l l' : List CV} (h : CVzL s.H rs l l') : l.length = l'.length ∧ ∀ (j : Nat) (c' : CV), l'[j]? = some c' → ∃ c, l[j]? = some c ∧ CVz s.H rs c c' := by
  induction h with
  | nil => simp
  | cons h hl ih =>
    refine ⟨by simp [ih.1], fun j c' hj => ?_⟩
    cases j with
    | zero => simp at hj; subst hj; exact ⟨_, rfl, h⟩
    | succ j => simpa using ih.2 j c' (by simpa using hj)
  | same l => exact ⟨rfl, fun j c' hj => ⟨c', hj, .same _⟩⟩
theorem SVz.rep (hs : Sim P T N w0 g s a w) {v : Value} {c c' : SV} (h : SVz s.H rs c c') (hv : RepSV P g w v c) : RepSV P (g.fr s.H rs w) w v c' := by
  cases h with
  | u v => exact .u _
  | one h => exact .one (h.rep hs hv.one_inv)
  | agg h =>
    obtain ⟨arr, rfl, hsz, hr⟩ := hv.agg_inv
    obtain ⟨k1, k2⟩ := h.rep hs
    refine .agg arr _ (by omega) fun j v c' h1 h2 => ?_
    obtain ⟨c, hc, hle⟩ := k2 j c' h2
    exact hle.rep hs (hr j v c h1 hc)
  | same v => exact hv.move (fr_fut _ _ _ _) (fun _ h => h) fun _ _ => ⟨rfl, rfl⟩
theorem Sim.fr (hs : Sim P T N w0 g s a w) {F' : List (Nat × SV)} {H' : List (Nat × VH)} (hH : FrH s.H rs s.H H') (hF : FrF s.H rs s.F F') : Sim P T N w0 (g.fr s.H rs w) ⟨F', H'⟩ a w := by
  have key : ∀ r, live H' r → rs.contains r = false ∧ live s.H r := fun r hl => (hH.get r).live hl
  refine ⟨⟨fun r r' b h1 h2 h3 h4 => hs.gi.inj r r' b (key r h1).2 (key r' h2).2 h3 h4, fun r b h1 h2 => hs.gi.bd r b (key r h1).2 h2, fun b o hr => ?_, hs.gi.keep, fun tb htb => ?_, ⟨fun b o h => .inl (hs.gi.org.rd0 b o h), fun b o h => ?_, hs.gi.org.tp0, hs.gi.org.tpo⟩, hs.gi.exs (fun _ _ h => h) fun c hc => ⟨rfl, hc.2.2.1, fun o ho => ?_, fun r hl => hc.2.2.2.2 r (key r hl).2⟩⟩, hs.dn, hs.nt, fun x => (hF.get x).rep hs (hs.hF x), fun r => ?_⟩
  · rcases hr with hr | ⟨⟨r0, hl0, hc0, hb0⟩, _⟩
    · obtain ⟨a1, a2, a3⟩ := hs.gi.rd b o hr
      exact ⟨a1, a2, fun r hl => a3 r (key r hl).2⟩
    · obtain ⟨a1, a2, a3⟩ := hs.gi.bd r0 b hl0 hb0
      refine ⟨a2, a3, fun r hl hb => ?_⟩
      obtain ⟨q1, q2⟩ := key r hl
      have := hs.gi.inj r r0 b q2 hl0 hb hb0
      subst this
      rw [q1] at hc0; cases hc0
  · obtain ⟨a1, a2⟩ := hs.gi.tape tb htb
    exact ⟨a1, a2.keep (fr_fut _ _ _ _) rfl⟩
  · rcases h with h | ⟨⟨r0, hl0, hc0, hb0⟩, _⟩
    · exact hs.gi.org.new0 b o h
    · exact .inr (hs.gi.bd r0 b hl0 hb0).1
  · rcases ho with ho | ⟨⟨r0, hl0, _, hb0⟩, _⟩
    · exact hc.2.2.2.1 o ho
    · exact hc.2.2.2.2 r0 hl0 hb0
  · have hk := hH.get r
    have hh := hs.hH r
    have hmv := hh.move (g' := g.fr s.H rs w) (w' := w) (fr_fut _ _ _ _) (fun _ h => h) (fun _ _ => ⟨rfl, rfl⟩) (fun _ _ _ => rfl) (fun _ _ h => h)
    show HeapOK P (g.fr s.H rs w) w r (getH H' r)
    generalize getH H' r = h1 at hk
    generalize getH s.H r = h0 at hk hh hmv
    cases hk with
    | gone v h => trivial
    | same v h => exact hmv
    | blk h hl =>
      obtain ⟨b, vals, q1, q2, q3, q4⟩ := hh
      obtain ⟨k1, k2⟩ := hl.rep hs
      refine ⟨b, vals, q1, q2, by omega, fun j v c' hv hc => ?_⟩
      obtain ⟨c, hc2, hle⟩ := k2 j c' hc
      exact hle.rep hs (q4 j v c hv hc2)
def Gh.tape (g : Gh) (tb : Nat) (tl : Option Addr × Nat × Nat × (Nat → Int)) : Gh := ⟨g.β, g.κ, g.Rd, some tb, tl, g.ex⟩
def ntF : List (Nat × SV) → Bool
  | [] => true
  | p :: l => (match p.2 with | .one c => c.nt | .agg cs => CV.ntL cs | .u => true | .tup _ => false) && ntF l
def ntH : List (Nat × VH) → Bool
  | [] => true
  | p :: l => (match p.2 with | .blk _ cs => CV.ntL cs | .pin _ c => c.nt | _ => true) && ntH l
theorem ntF_get {F : List (Nat × SV)} (h : ntF F = true) (x : Nat) : match getF F x with | .one c => c.nt = true | .agg cs => CV.ntL cs = true | .u => True | .tup _ => False := by
  induction F with
  | nil => trivial
  | cons p F ih =>
    simp only [ntF, Bool.and_eq_true] at h
    simp only [getF]
    cases Nat.beq p.1 x
    · exact ih h.2
    · have := h.1
      show match p.2 with | .one c => c.nt = true | .agg cs => CV.ntL cs = true | .u => True | .tup _ => False
      cases h2 : p.2 <;> rw [h2] at this <;> simp_all
theorem ntH_get {H : List (Nat × VH)} (h : ntH H = true) (x : Nat) : ∀ t cs, getH H x = .blk t cs → CV.ntL cs = true := by
  induction H with
  | nil => intro t cs h; cases h
  | cons p H ih =>
    simp only [ntH, Bool.and_eq_true] at h
    intro t cs
    simp only [getH]
    cases Nat.beq p.1 x
    · exact ih h.2 t cs
    · intro e
      have := h.1
      simp only [cond_true] at e
      rw [e] at this; exact this
theorem ntH_pin {H : List (Nat × VH)} (h : ntH H = true) (x : Nat) : ∀ v c, getH H x = .pin v c → c.nt = true := by
  induction H with
  | nil => intro t cs h; cases h
  | cons p H ih =>
    simp only [ntH, Bool.and_eq_true] at h
    intro t cs
    simp only [getH]
    cases Nat.beq p.1 x
    · exact ih h.2 t cs
    · intro e
      have := h.1
      simp only [cond_true] at e
      rw [e] at this; exact this
theorem Sim.mkTape (hs : Sim P T N w0 g s a w) (h0 : w0.tp = none) {x r : Nat} {F' : List (Nat × SV)} {H' : List (Nat × VH)} {l : List Int} (hx : getF s.F x = .one (.ref r 0)) (hr : getH s.H r = .blk T [.d (.list (l.map fun z => [.int .i64 z])), .d (.int .i64 0)]) 
    (hF : ∀ y, getF F' y = if y = x then .one .tape else if (getF s.F y).has r = true then .u else getF s.F y) (hnt : ntF F' = true ∨ True) (hnF : ∀ y, y ≠ x → (match getF F' y with | .one c => c.nt = true | .agg cs => CV.ntL cs = true | .u => True | .tup _ => False))
    (hH : ∀ q, getH H' q = if q = r then .gone else getH s.H q) (hnH : ∀ q, q ≠ r → ∀ t cs, getH s.H q = .blk t cs → CV.ntL cs = true) (hnp : ∀ q v c, getH s.H q = .pin v c → c.nt = true) : ∃ g', Sim P T N w0 g' ⟨F', H'⟩ a w := by
  have hh := hs.hH r
  rw [hr] at hh
  obtain ⟨b, vals, hb, hbl, hsz, hv⟩ := hh
  have hl : live s.H r := by unfold live; rw [hr]; rfl
  have hl' : ∀ q, live H' q → q ≠ r ∧ live s.H q := fun q hq => by
    unfold live at hq ⊢
    rw [hH] at hq
    by_cases e : q = r
    · rw [if_pos e] at hq; cases hq
    · rw [if_neg e] at hq; exact ⟨e, hq⟩
  obtain ⟨v0, v1, rfl⟩ : ∃ v0 v1, vals = #[v0, v1] := by
    obtain ⟨q⟩ := vals
    match q, hsz with
    | [v0, v1], _ => exact ⟨v0, v1, rfl⟩
  have r0 := (hv 0 v0 _ rfl rfl).unD rfl
  have r1 := (hv 1 v1 _ rfl rfl).unD rfl
  have e1 : v1 = .int .i64 0 := r1.sval rfl
  subst e1
  obtain ⟨A, cap, sz', vs, rfl, q0, q1, q2, qsz, qc, qr⟩ := r0.list_inv
  have bdd := hs.gi.bd r b hl hb
  refine ⟨g.tape b (A, l.length, cap, fun i => (l.getD i 0)), ⟨⟨fun q q' b' h1 h2 h3 h4 => hs.gi.inj q q' b' (hl' q h1).2 (hl' q' h2).2 h3 h4, fun q b' h1 h2 => ?_, fun b' o hrd => ?_, hs.gi.keep, fun tb htb => ?_, ⟨hs.gi.org.rd0, hs.gi.org.new0, fun tb h => (by rw [h0] at h; cases h), fun tb htb => ?_⟩, hs.gi.exs (fun _ _ h => h) fun c hc => ⟨rfl, fun e => hc.2.2.2.2 r hl ?_, hc.2.2.2.1, fun q hq => hc.2.2.2.2 q (hl' q hq).2⟩⟩, hs.dn, hs.nt, fun y => ?_, fun q => ?_⟩⟩
  · obtain ⟨n1, n2⟩ := hl' q h1
    obtain ⟨a1, a2, a3⟩ := hs.gi.bd q b' n2 h2
    refine ⟨a1, a2, fun e => n1 ?_⟩
    simp only [Gh.tape] at e
    injection e with e
    exact hs.gi.inj q r b n2 hl (by rw [e]; exact h2) hb
  · obtain ⟨a1, a2, a3⟩ := hs.gi.rd b' o hrd
    refine ⟨a1, fun e => a3 r hl ?_, fun q hq => a3 q (hl' q hq).2⟩
    simp only [Gh.tape] at e
    injection e with e
    rw [hb, e]
  · simp only [Gh.tape] at htb
    injection htb with htb
    subst htb
    refine ⟨bdd.2.1, ⟨0, ?_, Nat.zero_le _⟩, ?_, fun i hi => ?_⟩
    · have : (l.map fun z => [Cell.int .i64 z]).length = l.length := List.length_map _
      rw [this] at hbl
      exact hbl
    · simp only [Gh.tape]; unfold maxLen at q2; simp at q1; omega
    · simp only [Gh.tape] at hi ⊢
      have hrow : (l.map fun z => [Cell.int .i64 z])[i]? = some [.int .i64 l[i]] := by simp [hi]
      have hsz1 : sz' = 1 := by have := qsz _ (List.mem_of_getElem? hrow); simpa using this.symm
      subst hsz1
      obtain ⟨b', o, e1, e2, e3⟩ := qc i 0 (by simpa using hi) (by omega)
      have hc := (qr i 0 _ _ hrow rfl).sval (u := .int .i64 l[i]) rfl
      refine ⟨b', o, e1, by simpa using e2, ?_⟩
      rw [hc] at e3
      simpa [hi] using e3
  · simp only [Gh.tape] at htb
    injection htb with htb
    subst htb
    exact .inr bdd.1
  · simp only [Gh.tape] at e
    injection e with e
    rw [hb, e]
  · show RepSV P _ w _ (getF F' y)
    have hy := hnF y
    rw [hF]
    rw [hF] at hy
    by_cases e : y = x
    · subst e
      rw [if_pos rfl]
      have hq := hs.hF y
      rw [hx] at hq
      have hq := hq.one_inv
      generalize a.tmps.getD y undef = v at hq
      obtain ⟨b2, hb2, rfl⟩ := hq.ref_inv
      rw [hb] at hb2
      injection hb2 with hb2
      subst hb2
      exact .one (.tape rfl)
    · rw [if_neg e] at hy ⊢
      have hy := hy e
      by_cases e2 : (getF s.F y).has r = true
      · rw [if_pos e2]; exact .u _
      · rw [if_neg e2] at hy ⊢
        have hq := hs.hF y
        generalize getF s.F y = sv at hq hy
        generalize a.tmps.getD y undef = v at hq
        cases hq with
        | u v => exact .u _
        | one h => exact .one (h.moveN ⟨fun _ _ h => h, fun _ _ _ => rfl⟩ hy fun _ _ => ⟨rfl, rfl⟩)
        | agg vs cs hs1 h => exact .agg vs cs hs1 fun j v c h1 h2 => (h j v c h1 h2).moveN ⟨fun _ _ h => h, fun _ _ _ => rfl⟩ (CV.ntL_get hy h2) fun _ _ => ⟨rfl, rfl⟩
        | tup vs ss hs1 h => exact hy.elim
  · show HeapOK P _ w q (getH H' q)
    rw [hH]
    by_cases e : q = r
    · rw [if_pos e]; trivial
    · rw [if_neg e]
      have hq := hs.hH q
      have hnq := hnH q e
      have hnp := hnp q
      generalize getH s.H q = h0 at hq hnq hnp
      cases h0 with
      | gone => trivial
      | pin v c => exact RepCV.moveN hq ⟨fun _ _ h => h, fun _ _ _ => rfl⟩ (hnp v c rfl) fun _ _ => ⟨rfl, rfl⟩
      | blk t cs =>
        obtain ⟨b', vals, p1, p2, p3, p4⟩ := hq
        exact ⟨b', vals, p1, p2, p3, fun j v c h1 h2 => (p4 j v c h1 h2).moveN ⟨fun _ _ h => h, fun _ _ _ => rfl⟩ (CV.ntL_get (hnq t cs rfl) h2) fun _ _ => ⟨rfl, rfl⟩⟩
      | arr e sz rows =>
        obtain ⟨p0, p⟩ := hq
        exact ⟨p0, p⟩
      | tbl e e1 rows o =>
        rcases hq with hq | ⟨b', vals, bk, p1, p2, p3, p4, p5, p6, p7, p8⟩
        · exact .inl hq
        exact .inr ⟨b', vals, bk, p1, p2, p3, p4, p5, p6, p7, fun i q ho => by
          obtain ⟨row, v, a1, a2, a3⟩ := p8 i q ho
          exact ⟨row, v, a1, a2, a3.moveN ⟨fun _ _ h => h, fun _ _ _ => rfl⟩ rfl fun _ _ => ⟨rfl, rfl⟩⟩⟩
end
section
variable {k : Wk} {w0 : Org} {s : St} {Q : Exit → St → Prop} {c : Code}
theorem i_frz {ops : Array Oper} {l : List Oper} {Q : St → Prop} (rs : List Nat) {F' : List (Nat × SV)} {H' : List (Nat × VH)} (hH : FrH s.H rs s.H H') (hF : FrF s.H rs s.F F') (h : rg k w0 ops l Q ⟨F', H'⟩) : rg k w0 ops l Q s :=
  rgI fun g a w hs => rgO h _ a w (hs.fr hH hF)
end
end Go.Proofs.Ytcbppkfnfbdkhaa
/- A law's arguments, whatever plain data they are; a law's call. -/
set_option linter.all false
namespace Go.Proofs.Ytcbppkfnfbdkhaa
open Go.RowKit Go.Shelf Go.ChangeShapes Go.WideShapes Go.Deep
inductive HasTy (τ : List TyI) : Nat → List Cell → Prop where
  | bool {t : Nat} (h : tyAt τ t = .one .bool) (b : Bool) : HasTy τ t [.bool b]
  | int {t : Nat} {k : IntKind} (h : tyAt τ t = .one (.int k)) (n : Int) : HasTy τ t [.int k n]
  | str {t : Nat} (h : tyAt τ t = .one .str) (s : ByteArray) : HasTy τ t [.str s]
  | sl {t e sz by_ : Nat} {rows : List (List Cell)} (h : tyAt τ t = .sl e sz by_) (hr : ∀ row ∈ rows, HasTy τ e row) : HasTy τ t [.list rows]
  | st {t n : Nat} {fs : List (Nat × Nat × Nat)} {zs : List Z} {cs : List Cell} (h : tyAt τ t = .st n fs zs) (hl : cs.length = n) (hf : ∀ (i : Nat) (f : Nat × Nat × Nat), fs[i]? = some f → HasTy τ f.2.1 ((cs.drop f.1).take f.2.2)) : HasTy τ t cs
def contB : Nat → List (Nat × Nat × Nat) → Nat → Bool
  | o, [], n => Nat.beq o n
  | o, f :: fs, n => Nat.beq f.1 o && contB (o + f.2.2) fs n
def dB (P : Program) (t : Nat) : TyI → Bool
  | .one .bool => match P.underlying t with | some .bool => true | _ => false
  | .one (.int k) => match P.underlying t with | some (.int k') => decide (k' = k) | _ => false
  | .one .str => match P.underlying t with | some .string => true | _ => false
  | .sl e n _ => match P.underlying t with | some (.slice e') => Nat.beq e' e && Nat.beq (P.cellsOf e) n && Nat.blt 0 n | _ => false
  | .st n fs _ => match P.underlying t with
    | some (.struct fields) => decide (fields.toList.map (fun f => (f.offset, f.type, P.cellsOf f.type)) = fs) && Nat.beq (P.cellsOf t) n && contB 0 fs n
    | _ => false
  | _ => false
def kidsB (S : List Nat) : TyI → Bool
  | .sl e _ _ => S.contains e
  | .st _ fs _ => fs.all fun f => S.contains f.2.1
  | _ => true
def closedB (P : Program) (τ : List TyI) (S : List Nat) : Bool := S.all fun t => dB P t (tyAt τ t) && kidsB S (tyAt τ t)
def rd0 (w : World) : Nat → Nat → Prop := fun b o => (w.cell? ⟨b, o, none⟩).isSome = true
theorem cell_spot {w : World} {a : Addr} {v : Value} (h : w.cell? a = some v) : ∃ b o, a = ⟨b, o, none⟩ := by
  obtain ⟨b, o, s⟩ := a
  unfold World.cell? at h
  cases s with
  | none => exact ⟨b, o, rfl⟩
  | some n =>
    exfalso
    dsimp only at h
    split at h
    · simp at h
    · cases h
section
variable {H : Type} {enc : TypeId × Value → H} {P : Program} {w : World} {base : Nat} {held : Bool} {τ : List TyI} {S : List Nat}
theorem dB_bool {t : Nat} (hd : dB P t (.one .bool) = true) : P.underlying t = some .bool := by
  simp only [dB] at hd
  split at hd
  · assumption
  · cases hd
theorem dB_int {t : Nat} {k : IntKind} (hd : dB P t (.one (.int k)) = true) : P.underlying t = some (.int k) := by
  simp only [dB] at hd
  split at hd
  · rename_i k' h'; have := of_decide_eq_true hd; subst this; assumption
  · cases hd
theorem dB_str {t : Nat} (hd : dB P t (.one .str) = true) : P.underlying t = some .string := by
  simp only [dB] at hd
  split at hd
  · assumption
  · cases hd
theorem dB_sl {t e n b : Nat} (hd : dB P t (.sl e n b) = true) : P.underlying t = some (.slice e) ∧ P.cellsOf e = n ∧ 0 < n := by
  simp only [dB] at hd
  split at hd
  · rename_i e' h'
    simp only [Bool.and_eq_true] at hd
    have e1 := Nat.eq_of_beq_eq_true hd.1.1
    subst e1
    exact ⟨h', Nat.eq_of_beq_eq_true hd.1.2, nlt hd.2⟩
  · cases hd
def Shows (τ : List TyI) (w : World) (t : Nat) (cs : List Value) (ds : List Cell) : Prop :=
  ds.length = cs.length ∧ HasTy τ t ds ∧ ∀ (j : Nat) (v : Value) (c : Cell), cs[j]? = some v → ds[j]? = some c → RepCell (rd0 w) w v c
theorem shows_one {t : Nat} {v : Value} {c : Cell} (ht : HasTy τ t [c]) (h : RepCell (rd0 w) w v c) : Shows τ w t [v] [c] :=
  ⟨rfl, ht, fun j v' c' h1 h2 => by
    cases j with
    | zero => simp at h1 h2; subst h1 h2; exact h
    | succ j => simp at h1⟩
theorem shows_fields {fs : List (Nat × Nat × Nat)} {n : Nat} {o : Nat} {cs : List Value} (hc : contB o fs n = true) (hl : cs.length = n) (ho : o ≤ n)
    (h : ∀ (i : Nat) (f : Nat × Nat × Nat), fs[i]? = some f → ∃ ds, Shows τ w f.2.1 ((cs.drop f.1).take f.2.2) ds) :
    ∃ ds : List Cell, ds.length = (cs.drop o).length ∧ (∀ (i : Nat) (f : Nat × Nat × Nat), fs[i]? = some f → HasTy τ f.2.1 ((ds.drop (f.1 - o)).take f.2.2)) ∧ (∀ (i : Nat) (f : Nat × Nat × Nat), fs[i]? = some f → o ≤ f.1) ∧ ∀ (j : Nat) (v : Value) (c : Cell), (cs.drop o)[j]? = some v → ds[j]? = some c → RepCell (rd0 w) w v c := by
  induction fs generalizing o with
  | nil =>
    simp only [contB] at hc
    have := Nat.eq_of_beq_eq_true hc
    subst this
    refine ⟨[], by simp; omega, by simp, by simp, fun j v c h1 h2 => by simp at h2⟩
  | cons f fs ih =>
    simp only [contB, Bool.and_eq_true] at hc
    have e := Nat.eq_of_beq_eq_true hc.1
    subst e
    obtain ⟨d1, l1, t1, r1⟩ := h 0 f rfl
    have hle : f.1 + f.2.2 ≤ n := by
      have key : ∀ (fs : List (Nat × Nat × Nat)) (o : Nat), contB o fs n = true → o ≤ n := by
        intro fs
        induction fs with
        | nil => intro o h; simp only [contB] at h; have := Nat.eq_of_beq_eq_true h; omega
        | cons g fs ih => intro o h; simp only [contB, Bool.and_eq_true] at h; have := ih _ h.2; omega
      exact key _ _ hc.2
    obtain ⟨d2, l2, t2, o2, r2⟩ := ih hc.2 (by omega) fun i g hg => h (i + 1) g (by simpa using hg)
    have l1' : d1.length = f.2.2 := by rw [l1]; simp; omega
    have l2' : d2.length = n - (f.1 + f.2.2) := by rw [l2]; simp; omega
    refine ⟨d1 ++ d2, by simp; omega, fun i g hg => ?_, fun i g hg => ?_, fun j v c h1 h2 => ?_⟩
    · cases i with
      | zero =>
        simp at hg
        subst hg
        rw [Nat.sub_self, List.drop_zero, List.take_append_of_le_length (by omega), List.take_of_length_le (by omega)]
        exact t1
      | succ i =>
        have hg' : fs[i]? = some g := by simpa using hg
        have ho := o2 i g hg'
        have ht := t2 i g hg'
        rw [List.drop_append, List.drop_of_length_le (show d1.length ≤ g.1 - f.1 by omega), List.nil_append, l1', show g.1 - f.1 - f.2.2 = g.1 - (f.1 + f.2.2) by omega]
        exact ht
    · cases i with
      | zero => simp at hg; subst hg; exact Nat.le_refl _
      | succ i => have := o2 i g (by simpa using hg); omega
    · by_cases hj : j < f.2.2
      · rw [List.getElem?_append_left (by omega)] at h2
        exact r1 j v c (by rw [List.getElem?_take_of_lt hj]; exact h1) h2
      · rw [List.getElem?_append_right (by omega), l1'] at h2
        refine r2 (j - f.2.2) v c ?_ h2
        rw [List.getElem?_drop] at h1 ⊢
        rw [← h1]; congr 1; omega
theorem shows_of (hS : closedB P τ S = true) : ∀ (fuel : Nat) (t : Nat) (cs : List Value) (x : DataW H × List MemPlace), S.contains t = true → DataW.trod enc P w base (fun _ => true) held fuel t cs = some x → ∃ ds, Shows τ w t cs ds := by
  intro fuel
  induction fuel with
  | zero => intro t cs x _ h; simp [DataW.trod] at h
  | succ fuel ih =>
    intro t cs x htS h
    have hd : dB P t (tyAt τ t) = true ∧ kidsB S (tyAt τ t) = true := by
      have := List.all_eq_true.1 hS t (by simpa using htS)
      simpa using this
    obtain ⟨hd, hk⟩ := hd
    cases hi : tyAt τ t with
    | bad => rw [hi] at hd; simp [dB] at hd
    | ar n len e sz zs => rw [hi] at hd; simp [dB] at hd
    | one z =>
      rw [hi] at hd
      cases z with
      | bool =>
        have hu := dB_bool hd
        obtain ⟨b, rfl⟩ : ∃ b, cs = [.bool b] := by
          unfold DataW.trod at h
          rw [hu] at h
          split at h <;> simp_all
        exact ⟨_, shows_one (.bool hi b) (.bool b)⟩
      | int k =>
        have hu := dB_int hd
        obtain ⟨z, rfl, _, hw⟩ := DataW.trod_int hu h
        exact ⟨_, shows_one (.int hi z) (.int k z hw)⟩
      | str =>
        have hu := dB_str hd
        obtain ⟨s, rfl, _, hs⟩ := DataW.trod_string hu h
        exact ⟨_, shows_one (.str hi s) (.str s hs)⟩
      | nil => simp [dB] at hd
      | u => simp [dB] at hd
    | sl e n b =>
      rw [hi] at hd hk
      obtain ⟨hu, hcn, hn0⟩ := dB_sl hd
      rcases DataW.trod_slice hu h with ⟨rfl, _⟩ | ⟨a, len, cap, elems, rest, m, hm', rfl, rfl, hb, hl, hmx, hlen, hel, hsp, hns⟩
      · exact ⟨[.list []], shows_one (.sl hi (by simp)) (.list none 0 [] n (fun _ _ => undef) (fun _ => rfl) (Nat.le_refl _) (by unfold maxLen; omega) (by simp) (by simp) (by simp))⟩
      · have hfm : m = fuel := by omega
        subst hfm
        have each : ∀ i, i < len → ∃ ds cs', w.cells? base (a.add (i * n)) n = some cs' ∧ Shows τ w e cs' ds := fun i hil => by
          have h1 := hel i hil
          rw [List.getElem?_eq_getElem (by omega)] at h1
          obtain ⟨cs', h2, h3⟩ := Option.bind_eq_some_iff.1 h1
          obtain ⟨ds, hds⟩ := ih e cs' _ hk h3
          rw [hcn] at h2
          exact ⟨ds, cs', h2, hds⟩
        obtain ⟨rowf, hrow⟩ := choose_lt each
        have hRl : ((List.range len).map rowf).length = len := by simp
        have hlenr : ∀ i, i < len → (rowf i).length = n := fun i hil => by
          obtain ⟨cs', h1, h2⟩ := hrow i hil
          rw [h2.1, (World.cells?_some h1).2.1]
        have hspot : len = 0 ∨ ∃ b o, a = ⟨b, o, none⟩ := by
          rcases Nat.eq_zero_or_pos len with h0 | h0
          · exact .inl h0
          · obtain ⟨cs', h1, h2⟩ := hrow 0 h0
            obtain ⟨_, hcl, hat⟩ := World.cells?_some h1
            have := hat 0 hn0
            rw [List.getElem?_eq_getElem (by omega), Nat.zero_mul] at this
            exact .inr (cell_spot this)
        refine ⟨[.list ((List.range len).map rowf)], shows_one (.sl hi fun row hr => ?_) ?_⟩
        · obtain ⟨i, hi', rfl⟩ := List.mem_map.1 hr
          obtain ⟨cs', _, h2⟩ := hrow i (by simpa using hi')
          exact h2.2.1
        · rcases hspot with h0 | ⟨b, o, rfl⟩
          · subst h0
            exact .list (some a) cap [] n (fun _ _ => undef) (fun _ => rfl) (by simp) hmx (by simp) (by simp) (by simp)
          · have hcell : ∀ i j, i < len → j < n → ∃ v, w.cell? ⟨b, o + (i * n + j), none⟩ = some v ∧ ∀ x, (rowf i)[j]? = some x → RepCell (rd0 w) w v x := fun i j hil hj => by
              obtain ⟨cs', h1, h2⟩ := hrow i hil
              obtain ⟨_, hcl, hat⟩ := World.cells?_some h1
              have h3 := hat j hj
              rw [List.getElem?_eq_getElem (by omega), Addr.add_lit, Addr.add_lit, Nat.add_assoc] at h3
              exact ⟨_, h3, fun x hx => h2.2.2 j _ x (List.getElem?_eq_getElem (by omega)) hx⟩
            have hR := RepCell.list (Rd := rd0 w) (w := w) (some ⟨b, o, none⟩) cap ((List.range len).map rowf) n (fun i j => (w.cell? ⟨b, o + (i * n + j), none⟩).getD undef) (fun h => by cases h) (by rw [hRl]; exact hl) hmx (fun row hr => by
                obtain ⟨i, hi', rfl⟩ := List.mem_map.1 hr
                exact hlenr i (by simpa using hi')) (fun i j h1 h2 => by
                obtain ⟨v, hv, _⟩ := hcell i j (by omega) h2
                exact ⟨b, o, rfl, by unfold rd0; rw [hv]; rfl, by rw [hv]; rfl⟩) (fun i j row x h1 h2 => by
                have hil : i < len := by have := (List.getElem?_eq_some_iff.1 h1).1; omega
                simp [hil] at h1
                subst h1
                have hj : j < n := by have := (List.getElem?_eq_some_iff.1 h2).1; have := hlenr i hil; omega
                obtain ⟨v, hv, hx⟩ := hcell i j hil hj
                rw [hv]; exact hx x h2)
            rw [hRl] at hR
            exact hR
    | st n fs zs =>
      rw [hi] at hd hk
      simp only [dB] at hd
      obtain ⟨fields, hu, hfs, hcn, hct⟩ : ∃ fields, P.underlying t = some (.struct fields) ∧ fields.toList.map (fun f => (f.offset, f.type, P.cellsOf f.type)) = fs ∧ P.cellsOf t = n ∧ contB 0 fs n = true := by
        split at hd
        · rename_i fields h'
          simp only [Bool.and_eq_true] at hd
          exact ⟨fields, h', of_decide_eq_true hd.1.1, Nat.eq_of_beq_eq_true hd.1.2, hd.2⟩
        · cases hd
      obtain ⟨ys, m, hm, _, hcl, hyl, hf⟩ := DataW.trod_struct hu h
      have hfm : m = fuel := by omega
      subst hfm
      obtain ⟨ds, q1, q2, q3, q4⟩ := shows_fields (τ := τ) (w := w) (o := 0) (cs := cs) hct (by omega) (Nat.zero_le _) fun i f hfi => by
        rw [← hfs, List.getElem?_map] at hfi
        cases hx : fields.toList[i]? with
        | none => rw [hx] at hfi; cases hfi
        | some g =>
          rw [hx] at hfi
          simp at hfi
          subst hfi
          have hg : fields[i]? = some g := by simpa using hx
          have h1 := hf i g hg
          have hil : i < ys.length := by have := (Array.getElem?_eq_some_iff.1 hg).1; omega
          rw [List.getElem?_eq_getElem hil] at h1
          refine ih g.type _ _ ?_ h1
          have := List.all_eq_true.1 (show fs.all (fun f => S.contains f.2.1) = true from hk) (g.offset, g.type, P.cellsOf g.type) (by rw [← hfs]; exact List.mem_map.2 ⟨g, List.mem_of_getElem? hx, rfl⟩)
          exact this
      refine ⟨ds, by simpa using q1, .st hi (by simp at q1; omega) fun i f hfi => ?_, fun j v c h1 h2 => q4 j v c (by simpa using h1) h2⟩
      have := q2 i f hfi
      simpa using this
end
def g0 (w : World) : Gh := ⟨fun _ => none, fun _ => 0, rd0 w, none, (none, 0, 0, fun _ => 0), fun _ => none⟩
section
variable {H : Type} {enc : TypeId × Value → H} {P : Program} {w : World} {base : Nat} {held : Bool} {τ : List TyI} {S : List Nat} {T : TypeId}
theorem open_one (hS : closedB P τ S = true) {t : Nat} {v : Value} {d : DataW H} {p : List MemPlace} (ht : S.contains t = true) (h1 : (tyAt τ t).isOne = true) (hτ : tabB P 0 τ = true) {r : Reach} {b0 : Nat} (hv : Value.okWide P w r b0 t v) (h : DataW.Trod enc P w base (fun _ => true) held t v d p) : ∃ c, HasTy τ t [c] ∧ RepSV P (g0 w) w v (.one (.d c)) := by
  obtain ⟨fuel, hf⟩ := h
  obtain ⟨ds, q1, q2, q3⟩ := shows_of hS fuel t _ _ ht hf
  have hone : ∃ c, ds = [c] := by
    cases q2 with
    | bool h b => exact ⟨_, rfl⟩
    | int h n => exact ⟨_, rfl⟩
    | str h s => exact ⟨_, rfl⟩
    | sl h hr => exact ⟨_, rfl⟩
    | st h hl hf => rw [h] at h1; cases h1
  obtain ⟨c, rfl⟩ := hone
  have hna : ∀ cs, v ≠ .agg cs := fun cs e => by
    have hd : dB P t (tyAt τ t) = true := by
      have := List.all_eq_true.1 hS t (by simpa using ht)
      simp only [Bool.and_eq_true] at this
      exact this.1
    subst e
    cases q2 with
    | bool h b => rw [h] at hd; obtain ⟨b, hb⟩ := okWide_bool (dB_bool hd) hv; cases hb
    | int h n => rw [h] at hd; obtain ⟨b, hb⟩ := okWide_int (dB_int hd) hv; cases hb
    | str h s => rw [h] at hd; obtain ⟨b, hb⟩ := okWide_string (dB_str hd) hv; cases hb
    | sl h hr => rw [h] at hd; obtain ⟨b, b2, b3, hb⟩ := okWide_slice (dB_sl hd).1 hv; cases hb
    | st h hl hf => rw [h] at h1; cases h1
  have hcs : v.cells.toList = [v] := by
    cases v <;> first | rfl | (exact absurd rfl (hna _))
  exact ⟨c, q2, .one (.d (q3 0 v c (by rw [hcs]; rfl) rfl))⟩
def IL (P : Program) (T : TypeId) (f : FuncId) (args : List SV) (post : SV → Prop) : Prop :=
  Enters P f ∧ ∀ (g : Gh) (w : World) (vals : Array Value), (∀ r, g.β r = none) → g.tp = none → GI T (g.org w) g [] w → vals.size = args.length → (∀ (j : Nat) (v : Value) (sv : SV), vals[j]? = some v → args[j]? = some sv → RepSV P g w v sv) →
    Calls P f vals w fun e w' => ∃ v sv g', post sv ∧ sv.pl = true ∧ e = .returned v ∧ RepSV P g' w' v sv ∧ ExtC T g g' w w'
theorem il_of {f : FuncId} {fn : Func} {c : Code} {args : List SV} {post : SV → Prop} (hτ : tabB P 0 τ = true) (hf : P.funcs[f]? = some fn) (hname : (fn.name == "runtime.NumGoroutine") = false) (hb : fn.body = some c) (hn : Nat.ble args.length fn.ntmps = true)
    (h : ∀ w0, w0.tp = none → iwp P T fn.ntmps w0 c (RetQ τ fn post) ⟨argF 0 args, []⟩) : IL P T f args post := by
  refine ⟨enters_of hf hname hb, fun g w vals hβ htp hgi hsz hrep => calls_of_wp hf hb ?_⟩
  have hle := Nat.le_of_ble_eq_true hn
  have hs : Sim P T fn.ntmps (g.org w) g ⟨argF 0 args, []⟩ { tmps := vals ++ Array.replicate (fn.ntmps - vals.size) undef, defers := [] } w := by
    refine ⟨hgi, rfl, by simp; omega, fun x => ?_, fun r => trivial⟩
    show RepSV P g w _ (getF (argF 0 args) x)
    rw [argF_get]
    simp only [Nat.zero_le, if_true, Nat.sub_zero]
    cases hx : args[x]? with
    | none => exact .u _
    | some sv =>
      have hlt := (List.getElem?_eq_some_iff.1 hx).1
      have hv : vals[x]? = some (vals[x]'(by omega)) := Array.getElem?_eq_getElem (by omega)
      have := hrep x _ sv hv hx
      simpa [Array.getElem_append, show x < vals.size by omega, show x < vals.size + (fn.ntmps - vals.size) by omega] using this
  refine wp_mono (h (g.org w) htp g _ w hs) fun e a' w' ⟨g', s', ⟨he, raw, sv, hr1, hr2, hp⟩, hs'⟩ => ?_
  obtain ⟨v, hrun, hrv⟩ := results_run (tp := g.tp) (tl := g.tl) hτ hs' hr1 hr2
  have hext : ExtC T g (g'.all s'.H w' g.tp g.tl) w w' := by
    refine ⟨fun b o h => .inl (hs'.gi.org.rd0 b o h), fun b o h => ?_, mut_org hs'.gi.keep, fun tb htb => ?_⟩
    · have hlt := (hs'.all_rd h).1
      rcases h with h | ⟨⟨r, hl, hb⟩, _⟩
      · rcases hs'.gi.org.new0 b o h with h | h
        · exact .inl h
        · exact .inr ⟨own_org h, hlt⟩
      · exact .inr ⟨own_org (hs'.gi.bd r b hl hb).1, hlt⟩
    · obtain ⟨e1, e2⟩ := hs'.gi.org.tp0 tb htb
      have := (hs'.gi.tape tb e1).2
      rw [e2] at this
      exact this.keep hs'.all_fut rfl
  rcases he with rfl | rfl
  · exact ⟨hs'.dn, v, hrun, v, sv, _, hp, hr2.pl, rfl, hrv, hext⟩
  · exact ⟨hs'.dn, v, hrun, v, sv, _, hp, hr2.pl, rfl, hrv, hext⟩
theorem il_wk (k : Wk) {f : FuncId} {fn : Func} {c : Code} {args : List SV} {post : SV → Prop} (hf : k.P.funcs[f]? = some fn) (hN : fn.ntmps = k.N) (hname : (fn.name == "runtime.NumGoroutine") = false) (hb : fn.body = some c) (hn : Nat.ble args.length k.N = true)
    (h : ∀ w0, w0.tp = none → wk k w0 c (RetQ k.τ fn post) ⟨argF 0 args, []⟩) : IL k.P k.T f args post :=
  il_of k.ok hf hname hb (by rw [hN]; exact hn) fun w0 h0 => by rw [hN]; exact wkO (h w0 h0)
theorem law_calls {f : FuncId} {args : List SV} {vals : Array Value} (h : IL P T f args (fun v => v = .one (.d (.bool true)))) (hsz : vals.size = args.length) (hrep : ∀ (j : Nat) (v : Value) (sv : SV), vals[j]? = some v → args[j]? = some sv → RepSV P (g0 w) w v sv) :
    Calls P f vals w fun e w' => e = .returned (.bool true) ∧ Below w.heap.size w w' := by
  have hgi : GI T ((g0 w).org w) (g0 w) [] w := by
    refine ⟨fun r r' b h => (by cases h), fun r b h => (by cases h), fun b o h => ⟨?_, (by simp [g0]), fun r h => (by cases h)⟩, Keep.refl _ _, fun tb h => (by simp [g0] at h), ⟨fun _ _ h => h, fun _ _ h => .inl h, fun tb h => (by simp [g0, Gh.org] at h), fun tb h => (by simp [g0] at h)⟩, fun c o h => (by simp [g0] at h)⟩
    simp only [g0, rd0] at h
    unfold World.cell? at h
    cases hh : w.heap[b]? with
    | none => simp [hh] at h
    | some o => exact (Array.getElem?_eq_some_iff.1 hh).1
  refine (h.2 (g0 w) w vals (fun _ => rfl) rfl hgi hsz hrep).mono fun e w' ⟨v, sv, g', h1, h2, h3, h4, h5⟩ => ?_
  subst h1
  subst h3
  refine ⟨?_, h5.keep.to_below fun k hk => ?_⟩
  · cases h4 with | one h => cases h with | d h => rw [h.sval rfl]
  · rcases hk with hk | hk
    · cases hk
    · exact hk
theorem exists_map {α β : Type} {f : α → β} {rows : List β} (h : ∀ row ∈ rows, ∃ r, row = f r) : ∃ l : List α, rows = l.map f := by
  induction rows with
  | nil => exact ⟨[], rfl⟩
  | cons x rows ih =>
    obtain ⟨r, rfl⟩ := h x (by simp)
    obtain ⟨l, rfl⟩ := ih fun y hy => h y (by simp [hy])
    exact ⟨r :: l, rfl⟩
theorem HasTy.int_ {t : Nat} {k : IntKind} {cs : List Cell} (h : HasTy τ t cs) (ht : tyAt τ t = .one (.int k)) : ∃ n, cs = [.int k n] := by
  cases h with
  | bool h b => rw [h] at ht; cases ht
  | int h n => rw [h] at ht; cases ht; exact ⟨n, rfl⟩
  | str h s => rw [h] at ht; cases ht
  | sl h hr => rw [h] at ht; cases ht
  | st h hl hf => rw [h] at ht; cases ht
theorem HasTy.sl_ {t e sz by_ : Nat} {cs : List Cell} (h : HasTy τ t cs) (ht : tyAt τ t = .sl e sz by_) : ∃ rows, cs = [.list rows] ∧ ∀ row ∈ rows, HasTy τ e row := by
  cases h with
  | bool h b => rw [h] at ht; cases ht
  | int h n => rw [h] at ht; cases ht
  | str h s => rw [h] at ht; cases ht
  | sl h hr => rw [h] at ht; cases ht; exact ⟨_, rfl, hr⟩
  | st h hl hf => rw [h] at ht; cases ht
theorem HasTy.map_ {α : Type} {f : α → List Cell} {t e sz by_ : Nat} {cs : List Cell} (h : HasTy τ t cs) (ht : tyAt τ t = .sl e sz by_) (hf : ∀ row, HasTy τ e row → ∃ x, row = f x) : ∃ l : List α, cs = [.list (l.map f)] := by
  obtain ⟨rows, rfl, hr⟩ := h.sl_ ht
  obtain ⟨l, rfl⟩ := exists_map fun row hrow => hf row (hr row hrow)
  exact ⟨l, rfl⟩
inductive All2 {α β : Type _} (R : α → β → Prop) : List α → List β → Prop where
  | nil : All2 R [] []
  | cons {a b l l'} (h : R a b) (hl : All2 R l l') : All2 R (a :: l) (b :: l')
theorem reps_of {P : Program} {g : Gh} {w : World} {vals : Array Value} {args : List SV} (h : All2 (RepSV P g w) vals.toList args) : ∀ (j : Nat) (v : Value) (sv : SV), vals[j]? = some v → args[j]? = some sv → RepSV P g w v sv := by
  obtain ⟨l⟩ := vals
  simp only at h
  induction h with
  | nil => intro j v sv h1 h2; simp at h2
  | cons h hl ih =>
    intro j v sv h1 h2
    cases j with
    | zero => simp at h1 h2; subst h1 h2; exact h
    | succ j => exact ih j v sv (by simpa using h1) (by simpa using h2)
end
end Go.Proofs.Ytcbppkfnfbdkhaa
