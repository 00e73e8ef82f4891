/- Freezing what is the call's own; a tape of the call's own; loops unrolled. -/
import Derived.Test.YtbnmcdnkeipdhaaIvr
set_option linter.all false
namespace Go.Proofs.Ytbnmcdnkeipdhaa
open Go.RowKit Go.Shelf
/-- The lists rs are given away, to be read. -/
inductive CVz (H : List (Nat × VH)) (rs : List Nat) : CV → CV → Prop where
  | same (c : CV) : CVz H rs c c
  | u (c : CV) : CVz H rs c .u
  | fz {r n sz : Nat} {e : TypeId} {rows : List (List Cell)} (hr : rs.contains r = true) (h : getH H r = .arr e sz rows) (hn : n = rows.length) : CVz H rs (.sl r n sz) (.d (.list rows))
  | nild : CVz H rs .nil (.d (.list []))
  | fzr {r off : Nat} {t : TypeId} {cs : List CV} (hr : rs.contains r = true) (h : getH H r = .blk t cs) (hd : plL cs = true) : CVz H rs (.ref r off) (.rp (cs.drop off))
inductive CVzL (H : List (Nat × VH)) (rs : List Nat) : List CV → List CV → Prop where
  | nil : CVzL H rs [] []
  | cons {c c' : CV} {l l' : List CV} (h : CVz H rs c c') (hl : CVzL H rs l l') : CVzL H rs (c :: l) (c' :: l')
  | same (l : List CV) : CVzL H rs l l
inductive SVz (H : List (Nat × VH)) (rs : List Nat) : SV → SV → Prop where
  | u (v : SV) : SVz H rs v .u
  | one {c c' : CV} (h : CVz H rs c c') : SVz H rs (.one c) (.one c')
  | agg {l l' : List CV} (h : CVzL H rs l l') : SVz H rs (.agg l) (.agg l')
  | same (v : SV) : SVz H rs v v
inductive VHz (H : List (Nat × VH)) (rs : List Nat) (x : Nat) : VH → VH → Prop where
  | gone (v : VH) (h : rs.contains x = true) : VHz H rs x v .gone
  | blk {t : TypeId} {cs cs' : List CV} (h : rs.contains x = false) (hl : CVzL H rs cs cs') : VHz H rs x (.blk t cs) (.blk t cs')
  | same (v : VH) (h : rs.contains x = false) : VHz H rs x v v
inductive FrF (H : List (Nat × VH)) (rs : List Nat) : List (Nat × SV) → List (Nat × SV) → Prop where
  | nil : FrF H rs [] []
  | cons {x : Nat} {v v' : SV} {l l' : List (Nat × SV)} (h : SVz H rs v v') (hl : FrF H rs l l') : FrF H rs ((x, v) :: l) ((x, v') :: l')
inductive FrH (H : List (Nat × VH)) (rs : List Nat) : List (Nat × VH) → List (Nat × VH) → Prop where
  | nil : FrH H rs [] []
  | cons {x : Nat} {v v' : VH} {l l' : List (Nat × VH)} (h : VHz H rs x v v') (hl : FrH H rs l l') : FrH H rs ((x, v) :: l) ((x, v') :: l')
theorem FrF.get {H : List (Nat × VH)} {rs : List Nat} {F F' : List (Nat × SV)} (h : FrF H rs F F') (x : Nat) : SVz H rs (getF F x) (getF F' x) := by
  induction h with
  | nil => exact .same _
  | @cons y v v' l l' h hl ih =>
    simp only [getF, beq_eq]
    by_cases e : y = x
    · subst e; simpa using h
    · simpa [e] using ih
theorem FrH.get {H0 : List (Nat × VH)} {rs : List Nat} {H H' : List (Nat × VH)} (h : FrH H0 rs H H') (x : Nat) : VHz H0 rs x (getH H x) (getH H' x) := by
  induction h with
  | nil =>
    cases hc : rs.contains x with
    | true => exact .gone _ hc
    | false => exact .same _ hc
  | @cons y v v' l l' h hl ih =>
    simp only [getH, beq_eq]
    by_cases e : y = x
    · subst e; simpa using h
    · simpa [e] using ih
theorem VHz.live {H : List (Nat × VH)} {rs : List Nat} {x : Nat} {v v' : VH} (h : VHz H rs x v v') (hl : v'.live = true) : rs.contains x = false ∧ v.live = true := by
  cases h with
  | gone v h => cases hl
  | blk h hl => exact ⟨h, rfl⟩
  | same v h => exact ⟨h, hl⟩
/-- What can be read besides. -/
def frRd (g : Gh) (H : List (Nat × VH)) (rs : List Nat) (w : World) : Nat → Nat → Prop := fun b o => g.Rd b o ∨ ((∃ r, live H r ∧ rs.contains r = true ∧ g.β r = some b) ∧ (w.cell? ⟨b, o, none⟩).isSome = true)
def Gh.fr (g : Gh) (H : List (Nat × VH)) (rs : List Nat) (w : World) : Gh := ⟨g.β, g.κ, frRd g H rs w, g.tp, g.tl⟩
section
variable {P : Program} {T : TypeId} {N : Nat} {w0 : Org} {g g' : Gh} {s s' : St} {a : Act} {w w' : World} {rs : List Nat}
theorem fr_fut (g : Gh) (H : List (Nat × VH)) (rs : List Nat) (w : World) : Fut g.Rd (g.fr H rs w).Rd w w := ⟨fun _ _ h => .inl h, fun _ _ _ => rfl⟩
theorem fr_cell {r n sz : Nat} {e : TypeId} {rows : List (List Cell)} (hs : Sim P T N w0 g s a w) (hr : rs.contains r = true) (h : getH s.H r = .arr e sz rows) (hn : n = rows.length) {v : Value} (hv : RepCV P g w v (.sl r n sz)) : RepCell (frRd g s.H rs w) w v (.list rows) := by
  subst hn
  have hh := hs.hH r; rw [h] at hh
  obtain ⟨g0, _⟩ := hh
  have hl : live s.H r := by unfold live; rw [h]; rfl
  rcases arr_vals hs h hv with ⟨rfl, rfl, _⟩ | ⟨b, vals, hb, rfl, hbl, h1, h2, h3, h4⟩
  · exact .list none 0 [] 0 (fun _ _ => undef) (fun _ => rfl) (Nat.le_refl _) (by unfold maxLen; omega) (by simp) (by simp) (by simp)
  · refine .list (some ⟨b, 0, none⟩) (g.κ r) rows sz (fun i j => vals.getD (i * sz + j) undef) (fun h => by cases h) h2 h3 g0 (fun i j hi hj => ?_) (fun i j row x hi hj => ?_)
    · have hlt : i * sz + j < vals.size := by
        have : (i + 1) * sz ≤ g.κ r * sz := Nat.mul_le_mul_right _ (by omega)
        rw [Nat.add_mul] at this
        omega
      have hc : w.cell? ⟨b, 0 + (i * sz + j), none⟩ = some (vals.getD (i * sz + j) undef) := by
        rw [Nat.zero_add, hbl.cell]; simp [Array.getD, hlt]
      exact ⟨b, 0, rfl, .inr ⟨⟨r, hl, hr, hb⟩, by rw [hc]; rfl⟩, hc⟩
    · obtain ⟨u, hu, hr⟩ := h4 i j row x hi hj
      have : vals.getD (i * sz + j) undef = u := by rw [Array.getD_eq_getD_getElem?, hu]; rfl
      rw [this]
      exact hr.mono (fun _ _ h => .inl h) (fun _ _ _ => rfl)
theorem CVz.rep (hs : Sim P T N w0 g s a w) {c c' : CV} (h : CVz s.H rs c c') {v : Value} (hv : RepCV P g w v c) : RepCV P (g.fr s.H rs w) w v c' := by
  cases h with
  | same c => exact hv.move (fr_fut _ _ _ _) (fun _ h => h) fun _ _ => ⟨rfl, rfl⟩
  | u c => exact .u hv.one
  | fz hr h hn => exact .d (fr_cell hs hr h hn hv)
  | nild => exact .d ((hv.unD rfl).mono (fr_fut g s.H rs w).rd (fr_fut g s.H rs w).cell)
  | @fzr r off t cs hr h hd =>
    have hh := hs.hH r; rw [h] at hh
    obtain ⟨b, vals, q1, q2, q3, q4⟩ := hh
    obtain ⟨b', hb', rfl⟩ := hv.ref_inv
    obtain rfl : b = b' := by rw [q1] at hb'; injection hb'
    have hl : live s.H r := by unfold live; rw [h]; rfl
    have hc : ∀ j c, (cs.drop off)[j]? = some c → off + j < vals.size ∧ cs[off + j]? = some c := fun j c hj => by
      rw [List.getElem?_drop] at hj
      exact ⟨by have := (List.getElem?_eq_some_iff.1 hj).1; omega, hj⟩
    refine .rp b off _ (fun j => vals.getD (off + j) undef) (fun j c hj => ?_) (fun j c hj => ?_)
    · obtain ⟨h1, h2⟩ := hc j c hj
      have e : w.cell? ⟨b, off + j, none⟩ = some (vals.getD (off + j) undef) := by rw [q2.cell]; simp [Array.getD, h1]
      exact ⟨.inr ⟨⟨r, hl, hr, q1⟩, by rw [e]; rfl⟩, e⟩
    · obtain ⟨h1, h2⟩ := hc j c hj
      have e : vals[off + j]? = some (vals.getD (off + j) undef) := by rw [Array.getD_eq_getD_getElem?, Array.getElem?_eq_getElem h1]; rfl
      exact (q4 (off + j) _ c e h2).move (fr_fut _ _ _ _) (fun _ h => h) fun _ _ => ⟨rfl, rfl⟩
theorem CVzL.rep (hs : Sim P T N w0 g s a w) {l l' : List CV} (h : CVzL s.H rs l l') : l.length = l'.length ∧ ∀ (j : Nat) (c' : CV), l'[j]? = some c' → ∃ c, l[j]? = some c ∧ CVz s.H rs c c' := by
  induction h with
  | nil => simp
  | cons h hl ih =>
    refine ⟨by simp [ih.1], fun j c' hj => ?_⟩
    cases j with
    | zero => simp at hj; subst hj; exact ⟨_, rfl, h⟩
    | succ j => simpa using ih.2 j c' (by simpa using hj)
  | same l => exact ⟨rfl, fun j c' hj => ⟨c', hj, .same _⟩⟩
theorem SVz.rep (hs : Sim P T N w0 g s a w) {v : Value} {c c' : SV} (h : SVz s.H rs c c') (hv : RepSV P g w v c) : RepSV P (g.fr s.H rs w) w v c' := by
  cases h with
  | u v => exact .u _
  | one h => exact .one (h.rep hs hv.one_inv)
  | agg h =>
    obtain ⟨arr, rfl, hsz, hr⟩ := hv.agg_inv
    obtain ⟨k1, k2⟩ := h.rep hs
    refine .agg arr _ (by omega) fun j v c' h1 h2 => ?_
    obtain ⟨c, hc, hle⟩ := k2 j c' h2
    exact hle.rep hs (hr j v c h1 hc)
  | same v => exact hv.move (fr_fut _ _ _ _) (fun _ h => h) fun _ _ => ⟨rfl, rfl⟩
theorem Sim.fr (hs : Sim P T N w0 g s a w) {F' : List (Nat × SV)} {H' : List (Nat × VH)} (hH : FrH s.H rs s.H H') (hF : FrF s.H rs s.F F') : Sim P T N w0 (g.fr s.H rs w) ⟨F', H'⟩ a w := by
  have key : ∀ r, live H' r → rs.contains r = false ∧ live s.H r := fun r hl => (hH.get r).live hl
  refine ⟨⟨fun r r' b h1 h2 h3 h4 => hs.gi.inj r r' b (key r h1).2 (key r' h2).2 h3 h4, fun r b h1 h2 => hs.gi.bd r b (key r h1).2 h2, fun b o hr => ?_, hs.gi.keep, fun tb htb => ?_, ⟨fun b o h => .inl (hs.gi.org.rd0 b o h), fun b o h => ?_, hs.gi.org.tp0, hs.gi.org.tpo⟩⟩, hs.dn, hs.nt, fun x => (hF.get x).rep hs (hs.hF x), fun r => ?_⟩
  · rcases hr with hr | ⟨⟨r0, hl0, hc0, hb0⟩, _⟩
    · obtain ⟨a1, a2, a3⟩ := hs.gi.rd b o hr
      exact ⟨a1, a2, fun r hl => a3 r (key r hl).2⟩
    · obtain ⟨a1, a2, a3⟩ := hs.gi.bd r0 b hl0 hb0
      refine ⟨a2, a3, fun r hl hb => ?_⟩
      obtain ⟨q1, q2⟩ := key r hl
      have := hs.gi.inj r r0 b q2 hl0 hb hb0
      subst this
      rw [q1] at hc0; cases hc0
  · obtain ⟨a1, a2⟩ := hs.gi.tape tb htb
    exact ⟨a1, a2.keep (fr_fut _ _ _ _) rfl⟩
  · rcases h with h | ⟨⟨r0, hl0, hc0, hb0⟩, _⟩
    · exact hs.gi.org.new0 b o h
    · exact .inr (hs.gi.bd r0 b hl0 hb0).1
  · have hk := hH.get r
    have hh := hs.hH r
    have hmv := hh.move (g' := g.fr s.H rs w) (w' := w) (fr_fut _ _ _ _) (fun _ h => h) (fun _ _ => ⟨rfl, rfl⟩) (fun _ _ _ => rfl)
    show HeapOK P (g.fr s.H rs w) w r (getH H' r)
    generalize getH H' r = h1 at hk
    generalize getH s.H r = h0 at hk hh hmv
    cases hk with
    | gone v h => trivial
    | same v h => exact hmv
    | blk h hl =>
      obtain ⟨b, vals, q1, q2, q3, q4⟩ := hh
      obtain ⟨k1, k2⟩ := hl.rep hs
      refine ⟨b, vals, q1, q2, by omega, fun j v c' hv hc => ?_⟩
      obtain ⟨c, hc2, hle⟩ := k2 j c' hc
      exact hle.rep hs (q4 j v c hv hc2)
/-! a tape -/
def Gh.tape (g : Gh) (tb : Nat) (tl : Option Addr × Nat × Nat × (Nat → Int)) : Gh := ⟨g.β, g.κ, g.Rd, some tb, tl⟩
def ntF : List (Nat × SV) → Bool
  | [] => true
  | p :: l => (match p.2 with | .one c => c.nt | .agg cs => CV.ntL cs | .u => true | .tup _ => false) && ntF l
def ntH : List (Nat × VH) → Bool
  | [] => true
  | p :: l => (match p.2 with | .blk _ cs => CV.ntL cs | _ => true) && ntH l
theorem ntF_get {F : List (Nat × SV)} (h : ntF F = true) (x : Nat) : match getF F x with | .one c => c.nt = true | .agg cs => CV.ntL cs = true | .u => True | .tup _ => False := by
  induction F with
  | nil => trivial
  | cons p F ih =>
    simp only [ntF, Bool.and_eq_true] at h
    simp only [getF]
    cases Nat.beq p.1 x
    · exact ih h.2
    · have := h.1
      show match p.2 with | .one c => c.nt = true | .agg cs => CV.ntL cs = true | .u => True | .tup _ => False
      cases h2 : p.2 <;> rw [h2] at this <;> simp_all
theorem ntH_get {H : List (Nat × VH)} (h : ntH H = true) (x : Nat) : ∀ t cs, getH H x = .blk t cs → CV.ntL cs = true := by
  induction H with
  | nil => intro t cs h; cases h
  | cons p H ih =>
    simp only [ntH, Bool.and_eq_true] at h
    intro t cs
    simp only [getH]
    cases Nat.beq p.1 x
    · exact ih h.2 t cs
    · intro e
      have := h.1
      simp only [cond_true] at e
      rw [e] at this; exact this
/-- The slot x holds the address of a tape of the call's own, that is at its beginning. -/
theorem Sim.mkTape (hs : Sim P T N w0 g s a w) (h0 : w0.tp = none) {x r : Nat} {F' : List (Nat × SV)} {H' : List (Nat × VH)} {l : List Int} (hx : getF s.F x = .one (.ref r 0)) (hr : getH s.H r = .blk T [.d (.list (l.map fun z => [.int .i64 z])), .d (.int .i64 0)]) 
    (hF : ∀ y, getF F' y = if y = x then .one .tape else if (getF s.F y).has r = true then .u else getF s.F y) (hnt : ntF F' = true ∨ True) (hnF : ∀ y, y ≠ x → (match getF F' y with | .one c => c.nt = true | .agg cs => CV.ntL cs = true | .u => True | .tup _ => False))
    (hH : ∀ q, getH H' q = if q = r then .gone else getH s.H q) (hnH : ∀ q, q ≠ r → ∀ t cs, getH s.H q = .blk t cs → CV.ntL cs = true) : ∃ g', Sim P T N w0 g' ⟨F', H'⟩ a w := by
  have hh := hs.hH r
  rw [hr] at hh
  obtain ⟨b, vals, hb, hbl, hsz, hv⟩ := hh
  have hl : live s.H r := by unfold live; rw [hr]; rfl
  have hl' : ∀ q, live H' q → q ≠ r ∧ live s.H q := fun q hq => by
    unfold live at hq ⊢
    rw [hH] at hq
    by_cases e : q = r
    · rw [if_pos e] at hq; cases hq
    · rw [if_neg e] at hq; exact ⟨e, hq⟩
  obtain ⟨v0, v1, rfl⟩ : ∃ v0 v1, vals = #[v0, v1] := by
    obtain ⟨q⟩ := vals
    match q, hsz with
    | [v0, v1], _ => exact ⟨v0, v1, rfl⟩
  have r0 := (hv 0 v0 _ rfl rfl).unD rfl
  have r1 := (hv 1 v1 _ rfl rfl).unD rfl
  have e1 : v1 = .int .i64 0 := r1.sval rfl
  subst e1
  obtain ⟨A, cap, sz', vs, rfl, q0, q1, q2, qsz, qc, qr⟩ := r0.list_inv
  have bdd := hs.gi.bd r b hl hb
  refine ⟨g.tape b (A, l.length, cap, fun i => (l.getD i 0)), ⟨⟨fun q q' b' h1 h2 h3 h4 => hs.gi.inj q q' b' (hl' q h1).2 (hl' q' h2).2 h3 h4, fun q b' h1 h2 => ?_, fun b' o hrd => ?_, hs.gi.keep, fun tb htb => ?_, ⟨hs.gi.org.rd0, hs.gi.org.new0, fun tb h => (by rw [h0] at h; cases h), fun tb htb => ?_⟩⟩, hs.dn, hs.nt, fun y => ?_, fun q => ?_⟩⟩
  · obtain ⟨n1, n2⟩ := hl' q h1
    obtain ⟨a1, a2, a3⟩ := hs.gi.bd q b' n2 h2
    refine ⟨a1, a2, fun e => n1 ?_⟩
    simp only [Gh.tape] at e
    injection e with e
    exact hs.gi.inj q r b n2 hl (by rw [e]; exact h2) hb
  · obtain ⟨a1, a2, a3⟩ := hs.gi.rd b' o hrd
    refine ⟨a1, fun e => a3 r hl ?_, fun q hq => a3 q (hl' q hq).2⟩
    simp only [Gh.tape] at e
    injection e with e
    rw [hb, e]
  · simp only [Gh.tape] at htb
    injection htb with htb
    subst htb
    refine ⟨bdd.2.1, ⟨0, ?_, Nat.zero_le _⟩, ?_, fun i hi => ?_⟩
    · have : (l.map fun z => [Cell.int .i64 z]).length = l.length := List.length_map _
      rw [this] at hbl
      exact hbl
    · simp only [Gh.tape]; unfold maxLen at q2; simp at q1; omega
    · simp only [Gh.tape] at hi ⊢
      have hrow : (l.map fun z => [Cell.int .i64 z])[i]? = some [.int .i64 l[i]] := by simp [hi]
      have hsz1 : sz' = 1 := by have := qsz _ (List.mem_of_getElem? hrow); simpa using this.symm
      subst hsz1
      obtain ⟨b', o, e1, e2, e3⟩ := qc i 0 (by simpa using hi) (by omega)
      have hc := (qr i 0 _ _ hrow rfl).sval (u := .int .i64 l[i]) rfl
      refine ⟨b', o, e1, by simpa using e2, ?_⟩
      rw [hc] at e3
      simpa [hi] using e3
  · simp only [Gh.tape] at htb
    injection htb with htb
    subst htb
    exact .inr bdd.1
  · show RepSV P _ w _ (getF F' y)
    have hy := hnF y
    rw [hF]
    rw [hF] at hy
    by_cases e : y = x
    · subst e
      rw [if_pos rfl]
      have hq := hs.hF y
      rw [hx] at hq
      have hq := hq.one_inv
      generalize a.tmps.getD y undef = v at hq
      obtain ⟨b2, hb2, rfl⟩ := hq.ref_inv
      rw [hb] at hb2
      injection hb2 with hb2
      subst hb2
      exact .one (.tape rfl)
    · rw [if_neg e] at hy ⊢
      have hy := hy e
      by_cases e2 : (getF s.F y).has r = true
      · rw [if_pos e2]; exact .u _
      · rw [if_neg e2] at hy ⊢
        have hq := hs.hF y
        generalize getF s.F y = sv at hq hy
        generalize a.tmps.getD y undef = v at hq
        cases hq with
        | u v => exact .u _
        | one h => exact .one (h.moveN ⟨fun _ _ h => h, fun _ _ _ => rfl⟩ hy fun _ _ => ⟨rfl, rfl⟩)
        | agg vs cs hs1 h => exact .agg vs cs hs1 fun j v c h1 h2 => (h j v c h1 h2).moveN ⟨fun _ _ h => h, fun _ _ _ => rfl⟩ (CV.ntL_get hy h2) fun _ _ => ⟨rfl, rfl⟩
        | tup vs ss hs1 h => exact hy.elim
  · show HeapOK P _ w q (getH H' q)
    rw [hH]
    by_cases e : q = r
    · rw [if_pos e]; trivial
    · rw [if_neg e]
      have hq := hs.hH q
      have hnq := hnH q e
      generalize getH s.H q = h0 at hq hnq
      cases h0 with
      | gone => trivial
      | blk t cs =>
        obtain ⟨b', vals, p1, p2, p3, p4⟩ := hq
        exact ⟨b', vals, p1, p2, p3, fun j v c h1 h2 => (p4 j v c h1 h2).moveN ⟨fun _ _ h => h, fun _ _ _ => rfl⟩ (CV.ntL_get (hnq t cs rfl) h2) fun _ _ => ⟨rfl, rfl⟩⟩
      | arr e sz rows =>
        obtain ⟨p0, p⟩ := hq
        exact ⟨p0, p⟩
end
def dropF (r : Nat) : List (Nat × SV) → List (Nat × SV)
  | [] => []
  | p :: l => (p.1, bif p.2.has r then .u else p.2) :: dropF r l
theorem dropF_get (r : Nat) (F : List (Nat × SV)) (x : Nat) : getF (dropF r F) x = if (getF F x).has r = true then .u else getF F x := by
  induction F with
  | nil => rfl
  | cons p F ih =>
    simp only [dropF, getF, beq_eq]
    by_cases e : p.1 = x
    · simp only [e, decide_true, cond_true]
      cases p.2.has r <;> rfl
    · simp [e, ih]
section
variable {k : Wk} {w0 : Org} {s : St} {Q : Exit → St → Prop} {c : Code}
theorem c_frz (rs : List Nat) {F' : List (Nat × SV)} {H' : List (Nat × VH)} (hH : FrH s.H rs s.H H') (hF : FrF s.H rs s.F F') (h : wk k w0 c Q ⟨F', H'⟩) : wk k w0 c Q s := wkI fun g a w hs => wkO h _ a w (hs.fr hH hF)
theorem i_frz {ops : Array Oper} {l : List Oper} {Q : St → Prop} (rs : List Nat) {F' : List (Nat × SV)} {H' : List (Nat × VH)} (hH : FrH s.H rs s.H H') (hF : FrF s.H rs s.F F') (h : rg k w0 ops l Q ⟨F', H'⟩) : rg k w0 ops l Q s :=
  rgI fun g a w hs => rgO h _ a w (hs.fr hH hF)
theorem c_tape (x r : Nat) (l : List Int) (h0 : w0.tp = none) (hx : getF s.F x = .one (.ref r 0)) (hr : getH s.H r = .blk k.T [.d (.list (l.map fun z => [.int .i64 z])), .d (.int .i64 0)]) (hF : ntF (dropF r s.F) = true) (hH : ntH s.H = true)
    (h : wk k w0 c Q ⟨(x, .one .tape) :: dropF r s.F, (r, .gone) :: s.H⟩) : wk k w0 c Q s := wkI fun g a w hs => by
  obtain ⟨g', hs'⟩ := hs.mkTape h0 (F' := (x, .one .tape) :: dropF r s.F) (H' := (r, .gone) :: s.H) hx hr (fun y => by
      simp only [getF, beq_eq, dropF_get]
      by_cases e : x = y
      · simp [e]
      · simp [e, show ¬ y = x from fun h => e h.symm]) (.inr trivial) (fun y hy => by
      have e : getF ((x, SV.one .tape) :: dropF r s.F) y = getF (dropF r s.F) y := by simp [getF, beq_eq, show ¬ x = y from fun h => hy h.symm]
      rw [e]
      exact ntF_get hF y) (fun q => by
      simp only [getH, beq_eq]
      by_cases e : r = q
      · simp [e]
      · simp [e, show ¬ q = r from fun h => e h.symm]) fun q _ => ntH_get hH q
  exact wkO h g' a w hs'
/-- The loop goes on. -/
def lk (k : Wk) (w0 : Org) (c : Code) (Q : Exit → St → Prop) (s : St) : Prop := ∀ g a w, Sim k.P k.T k.N w0 g s a w → ∀ b kk cs, ∃ e a' w', (∃ g' s', Q e s' ∧ Sim k.P k.T k.N w0 g' s' a' w') ∧ Arrives k.P (lone (b.at a (.code c :: .inLoop c :: kk)) cs w) b kk cs e a' w'
theorem c_lk (h : lk k w0 c Q s) : wk k w0 (.loop c) Q s := wkI fun g a w hs b kk cs => by
  obtain ⟨e, a', w', hq, harr⟩ := h g a w hs b kk cs
  exact ⟨e, a', w', hq, .of_steps (.one step_loop) harr⟩
theorem l_unr (h : wk k w0 c (kRound Q (fun s' => lk k w0 c Q s')) s) : lk k w0 c Q s := fun g a w hs b kk cs => by
  have h1 := wkO h
  unfold kRound at h1
  obtain ⟨e₁, a₁, w₁, ⟨g', s', hq, hs'⟩, harr⟩ := h1 g a w hs b (.inLoop c :: kk) cs
  cases e₁ with
  | normal =>
    obtain ⟨e₂, a₂, w₂, hq₂, harr₂⟩ := hq g' a₁ w₁ hs' b kk cs
    exact ⟨e₂, a₂, w₂, hq₂, .of_steps (Steps.trans harr (.one step_inLoop)) harr₂⟩
  | exit id => exact ⟨_, a₁, w₁, ⟨g', s', hq, hs'⟩, .pass (x := .inLoop c) rfl (fun _ _ => .inl (by simp)) harr⟩
  | goto l => exact ⟨_, a₁, w₁, ⟨g', s', hq, hs'⟩, .pass (x := .inLoop c) rfl (fun _ _ => .inl (by simp)) harr⟩
  | ret => exact ⟨_, a₁, w₁, ⟨g', s', hq, hs'⟩, .pass (x := .inLoop c) rfl (fun _ _ => .inl (by simp)) harr⟩
  | panic ch => exact ⟨_, a₁, w₁, ⟨g', s', hq, hs'⟩, .pass (x := .inLoop c) rfl (fun _ _ => .inl (by simp)) harr⟩
  | outgrown => exact ⟨_, a₁, w₁, ⟨g', s', hq, hs'⟩, .pass (x := .inLoop c) rfl (fun _ _ => .inl (by simp)) harr⟩
end
end Go.Proofs.Ytbnmcdnkeipdhaa
