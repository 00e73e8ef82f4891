/- Texts of the library, put together. -/
import Derived.Test.YtcbppkfnfbdkhaaLb3
/- Tables: a list of lists of the call's own, changed in place. -/
set_option linter.all false
set_option maxRecDepth 20000
namespace Go.Proofs.Ytcbppkfnfbdkhaa
open Go.RowKit Go.Shelf
def VH.isT : VH → Bool
  | .tbl _ _ _ _ => true
  | _ => false
def oneTb (r : Nat) : List (Nat × VH) → Bool
  | [] => true
  | p :: l => (Nat.beq p.1 r || !p.2.isT) && oneTb r l
theorem oneTb_get {r : Nat} {H : List (Nat × VH)} (h : oneTb r H = true) {x : Nat} (hx : x ≠ r) : (getH H x).isT = false := by
  induction H with
  | nil => rfl
  | cons p H ih =>
    simp only [oneTb, Bool.and_eq_true, Bool.or_eq_true, beq_eq, decide_eq_true_eq] at h
    simp only [getH, beq_eq]
    by_cases e : p.1 = x
    · simp only [e, decide_true, cond_true]
      rcases h.1 with h1 | h1
      · exact absurd (e.symm.trans h1) hx
      · simpa using h1
    · simp only [e, decide_false, cond_false]; exact ih h.2
section
variable {P : Program} {T : TypeId} {N : Nat} {w0 : Org} {g g' : Gh} {s : St} {a : Act} {w w' : World} {o : Oper} {τ : List TyI}
theorem HeapOK.exs {r : Nat} {c : VH} (h : HeapOK P g w r c) (hn : c.isT = false) (f : Nat → Option Obj) : HeapOK P ⟨g.β, g.κ, g.Rd, g.tp, g.tl, f⟩ w r c := by
  have mv : ∀ {v : Value} {c : CV}, RepCV P g w v c → RepCV P ⟨g.β, g.κ, g.Rd, g.tp, g.tl, f⟩ w v c := fun h => h.move (Fut.refl _ _) (fun _ h => h) fun _ _ => ⟨rfl, rfl⟩
  cases c with
  | gone => trivial
  | pin v c => exact mv h
  | blk t cs => obtain ⟨b, vals, h1, h2, h3, h4⟩ := h; exact ⟨b, vals, h1, h2, h3, fun j v c hv hc => mv (h4 j v c hv hc)⟩
  | arr e sz rows => exact h
  | tbl _ _ _ _ => cases hn
theorem Sim.reh {r : Nat} {vh : VH} (hs : Sim P T N w0 g s a w) (hl : live s.H r) (hh : HeapOK P g w r vh) : Sim P T N w0 g (s.hput r vh) a w := by
  have hg : ∀ q, getH (s.hput r vh).H q = if r = q then vh else getH s.H q := fun q => hget_put _ _ _ _
  have lv : ∀ q, live (s.hput r vh).H q → live s.H q := fun q hq => by
    unfold live at hq ⊢
    rw [hg] at hq
    by_cases e : r = q
    · subst e; exact hl
    · rwa [if_neg e] at hq
  refine ⟨⟨fun q q' b h1 h2 => hs.gi.inj q q' b (lv _ h1) (lv _ h2), fun q b h1 => hs.gi.bd q b (lv _ h1), fun b o h => ⟨(hs.gi.rd b o h).1, (hs.gi.rd b o h).2.1, fun q h1 => (hs.gi.rd b o h).2.2 q (lv _ h1)⟩, hs.gi.keep, hs.gi.tape, hs.gi.org, hs.gi.exs (fun _ _ h => h) fun c hc => ⟨rfl, hc.2.2.1, hc.2.2.2.1, fun q hq => hc.2.2.2.2 q (lv _ hq)⟩⟩, hs.dn, hs.nt, hs.hF, fun q => ?_⟩
  rw [hg]
  by_cases e : r = q
  · subst e; rw [if_pos rfl]; exact hh
  · rw [if_neg e]; exact hs.hH q
theorem Sim.tnew (hs : Sim P T N w0 g s a w) {r e : Nat} (e1 : Nat) {rows : List (List Cell)} (hr : getH s.H r = .arr e 1 rows) (hz : ∀ row ∈ rows, row = [.list []]) : Sim P T N w0 g (s.hput r (.tbl e e1 (List.replicate rows.length []) none)) a w := by
  have hh := hs.hH r; rw [hr] at hh
  refine hs.reh (by unfold live; rw [hr]; rfl) ?_
  obtain ⟨h0, hh⟩ := hh
  rcases hh with ⟨h1, h2⟩ | ⟨b, vals, h1, h2, h3, h4, h5, h6⟩
  · exact .inl ⟨h1, by rw [h2]; rfl, rfl⟩
  · refine .inr ⟨b, vals, fun _ => none, h1, h2, h3, by simp; exact h4, h5, fun i j c h _ => by (cases h), fun i row hi _ => ?_, fun i q h => by (cases h)⟩
    have hlt : i < rows.length := by have := (List.getElem?_eq_some_iff.1 hi).1; simpa using this
    have hrow : row = [] := by
      have := List.mem_of_getElem? hi
      exact (List.mem_replicate.1 this).2
    obtain ⟨u, hu, hr⟩ := h6 i 0 rows[i] (.list []) (List.getElem?_eq_getElem hlt) (by rw [hz _ (List.getElem_mem hlt)]; rfl)
    refine ⟨u, by simpa using hu, .inl ⟨hrow, rfl, ?_⟩⟩
    generalize hc : Cell.list [] = c at hr
    cases hr with
    | list A cap xs sz vals k0 k1 k2 =>
      injection hc with hc
      subst hc
      exact ⟨A, cap, rfl, k2⟩
    | bool => cases hc
    | int => cases hc
    | str => cases hc
theorem opr_store_t (hτ : tabB P 0 τ = true) {t r i R e e1 n : Nat} {x y : Operand} {rows : List (List (List Cell))} {row : List (List Cell)} (ho : o.op = .store t x y) (hd : o.dst = none) (hx : s.ev x = .one (.el r i 0 1)) (hy : s.ev y = .one (.sl R n 1)) (hne : r ≠ R) (hH : getH s.H r = .tbl e e1 rows none) (hn9 : n = row.length) (hn : (tyAt τ t).size = some 1) (hi : i < rows.length) :
    OpR P T N w0 s o (fun s' => s' = s.hput r (.tbl e e1 (rows.set i row) (some (i, R)))) := by
  intro g a w hs K Q hK
  subst hn9
  have h := hs.ev x; rw [hx] at h
  have hv := hs.ev y; rw [hy] at hv
  have hv := hv.one_inv
  obtain ⟨b, hb, e0⟩ := h.one_inv.el_inv
  have hh := hs.hH r; rw [hH] at hh
  rcases hh with ⟨h1, _⟩ | ⟨b2, vals, bk, h1, h2, h3, h4, h5, h6, h7, h8⟩
  · rw [hb] at h1; cases h1
  obtain rfl : b = b2 := by rw [hb] at h1; injection h1
  have hc : (a.eval y).cells = #[a.eval y] := by
    rcases hv.sl_inv with ⟨e, _⟩ | ⟨_, _, _, _, e⟩ <;> rw [e] <;> rfl
  have hone : ∀ u ∈ (a.eval y).cells.toList, u.oneCell' = true := fun u hu => by
    rw [hc] at hu; simp at hu; subst hu; exact hv.one
  have hlt : i < vals.size := by omega
  have hst := run_storeVar_at (P := P) (off := i * 1 + 0) (tab_size hτ hn) (by rw [hc]; rfl) h2 (by omega) hone
  obtain ⟨V, hV⟩ : ∃ V, (vals.toList.take (i * 1 + 0) ++ (a.eval y).cells.toList ++ vals.toList.drop (i * 1 + 0 + 1)).toArray = V := ⟨_, rfl⟩
  have hVs : V.size = vals.size := by rw [← hV, hc]; simp; omega
  have hVg : ∀ k : Nat, V[k]? = if k = i then some (a.eval y) else vals[k]? := fun k => by
    rw [← hV, List.getElem?_toArray, hc]
    have := seg_get vals.toList (i * 1 + 0) [a.eval y] (by simp; omega) k
    simp only [List.length_singleton] at this
    simp only [List.length_singleton] at *
    rw [this]
    by_cases e : k = i
    · subst e; simp
    · rw [if_neg (by omega), if_neg e]; simp
  rw [hV] at hst
  rw [show i * 1 + 0 = i by omega] at hst e0
  have hrun : (execOp a.eval o).run P w = .ok .skip (w.setRow b V) := by
    simp [execOp, ho, e0, Instr.storeAt, Instr.sureAddr, hst]
  have h9 := hs.change (r := r) (b := b) (vals := V) (vh := .tbl e e1 (rows.set i row) (some (i, R))) (by unfold live; rw [hH]; rfl) hb h2 rfl (fun hf => by
    refine .inr ⟨b, V, fun j => if j = i then none else bk j, hb, setRow_heap w b vals _ _ _ h2, by rw [hVs]; exact h3, by rw [List.length_set]; exact h4, h5, fun j k c q1 q2 => ?_, fun j rw_ hj ho => ?_, fun j q hjq => ?_⟩
    · by_cases e1 : j = i
      · simp [e1] at q1
      · by_cases e2 : k = i
        · simp [e2] at q2
        · simp only [e1, e2, if_false] at q1 q2; exact h6 j k c q1 q2
    · have hji : j ≠ i := fun e => ho R (by rw [e])
      rw [List.getElem?_set_ne (fun e => hji e.symm)] at hj
      obtain ⟨v, q1, q2⟩ := h7 j rw_ hj fun q h => by cases h
      refine ⟨v, by rw [hVg, if_neg hji]; exact q1, ?_⟩
      show RowOK g.ex e1 (if j = i then none else bk j) rw_ v
      rw [if_neg hji]; exact q2
    · injection hjq with hjq
      injection hjq with e1 e2
      subst e1 e2
      refine ⟨row, a.eval y, List.getElem?_set_self hi, by rw [hVg, if_pos rfl], hv.move hf (fun _ h => h) fun _ _ => ⟨rfl, rfl⟩⟩)
  unfold Oper.wp
  rw [hrun]
  refine hK g _ _ _ rfl ?_
  rw [hd]
  exact h9
theorem ope_load_t {t r i q e e1 : Nat} {x : Operand} {rows : List (List (List Cell))} {row : List (List Cell)} (ho : o.op = .load t x) (hx : s.ev x = .one (.el r i 0 1)) (hH : getH s.H r = .tbl e e1 rows (some (i, q))) (hi : rows[i]? = some row) (ht : oneT P t = true) : OpE P T N w0 s o (.one (.sl q row.length 1)) :=
  ope_val fun g a w hs => by
    have h := hs.ev x; rw [hx] at h
    obtain ⟨b, hb, e0⟩ := h.one_inv.el_inv
    have hh := hs.hH r; rw [hH] at hh
    rcases hh with ⟨h1, _⟩ | ⟨b2, vals, bk, h1, h2, h3, h4, h5, h6, h7, h8⟩
    · rw [hb] at h1; cases h1
    obtain rfl : b = b2 := by rw [hb] at h1; injection h1
    obtain ⟨row2, v, q1, q2, q3⟩ := h8 i q rfl
    rw [hi] at q1
    injection q1 with q1
    subst q1
    have hc2 := h2.cell (i * 1 + 0)
    rw [show i * 1 + 0 = i by omega] at hc2 e0
    rw [q2] at hc2
    exact ⟨v, by simp [execOp, ho, e0, Instr.loadAt, Instr.sureAddr, run_load_one ht hc2], .one q3⟩
theorem Sim.tclose (hs : Sim P T N w0 g s a w) {r q i e e1 : Nat} {rows : List (List (List Cell))} {row : List (List Cell)} (hH : getH s.H r = .tbl e e1 rows (some (i, q))) (hq : getH s.H q = .arr e1 1 row) (hlen : ∀ row0, rows[i]? = some row0 → row0.length = row.length) (hbl : ∀ cs ∈ row, ∃ b, cs = [.bool b]) :
    ∃ g', Sim P T N w0 g' ⟨s.F, (r, .tbl e e1 (rows.set i row) none) :: (q, .gone) :: s.H⟩ a w := by
  have hqr : r ≠ q := fun e => by rw [e] at hH; rw [hH] at hq; cases hq
  have hlr : live s.H r := by unfold live; rw [hH]; rfl
  have hlq : live s.H q := by unfold live; rw [hq]; rfl
  have hget : ∀ x vh, getH ((r, vh) :: (q, VH.gone) :: s.H) x = if r = x then vh else if q = x then .gone else getH s.H x := fun x vh => by rw [hget_put, hget_put]
  have lv : ∀ vh x, live ((r, vh) :: (q, VH.gone) :: s.H) x → x ≠ q ∧ live s.H x := fun vh x hx => by
    unfold live at hx ⊢
    rw [hget] at hx
    by_cases e : r = x
    · subst e; exact ⟨hqr, hlr⟩
    · rw [if_neg e] at hx
      by_cases e2 : q = x
      · rw [if_pos e2] at hx; cases hx
      · rw [if_neg e2] at hx; exact ⟨fun h => e2 h.symm, hx⟩
  have hh := hs.hH r; rw [hH] at hh
  rcases hh with ⟨_, _, h1⟩ | ⟨b, vals, bk, h1, h2, h3, h4, h5, h6, h7, h8⟩
  · cases h1
  obtain ⟨row0, v, q1, q2, q3⟩ := h8 i q rfl
  have hl0 := hlen row0 q1
  have hilt := (List.getElem?_eq_some_iff.1 q1).1
  -- the end, with a ghost whose ex is as said
  have fin : ∀ (f : Nat → Option Obj) (bi : Option Nat), (∀ c o, g.ex c = some o → f c = some o) → (∀ c, bi = some c → g.β q = some c) → (∀ c o, f c = some o → g.ex c = some o ∨ (bi = some c ∧ w.heap[c]? = some o)) → RowOK f e1 bi row v → ∃ g', Sim P T N w0 g' ⟨s.F, (r, .tbl e e1 (rows.set i row) none) :: (q, .gone) :: s.H⟩ a w := by
    intro f bi hf1 hf3 hf2 hrow
    refine ⟨⟨g.β, g.κ, g.Rd, g.tp, g.tl, f⟩, ⟨fun x x' b' a1 a2 => hs.gi.inj x x' b' (lv _ x a1).2 (lv _ x' a2).2, fun x b' a1 => hs.gi.bd x b' (lv _ x a1).2, fun b' o hr => ⟨(hs.gi.rd b' o hr).1, (hs.gi.rd b' o hr).2.1, fun x a1 => (hs.gi.rd b' o hr).2.2 x (lv _ x a1).2⟩, hs.gi.keep, hs.gi.tape, ⟨hs.gi.org.rd0, hs.gi.org.new0, hs.gi.org.tp0, hs.gi.org.tpo⟩, fun c o hc => ?_⟩, hs.dn, hs.nt, fun x => (hs.hF x).move (Fut.refl _ _) (fun _ h => h) fun _ _ => ⟨rfl, rfl⟩, fun x => ?_⟩
    · rcases hf2 c o hc with hc2 | ⟨hc2, hc3⟩
      · obtain ⟨a1, a2⟩ := hs.gi.ex c o hc2
        exact ⟨a1, a2.1, a2.2.1, a2.2.2.1, a2.2.2.2.1, fun x hx => a2.2.2.2.2 x (lv _ x hx).2⟩
      · have hbq := hf3 c hc2
        obtain ⟨a1, a2, a3⟩ := hs.gi.bd q c hlq hbq
        exact ⟨hc3, a1, a2, a3, fun o' ho' => (hs.gi.rd c o' ho').2.2 q hlq hbq, fun x hx hbx => (lv _ x hx).1 (hs.gi.inj x q c (lv _ x hx).2 hlq hbx hbq)⟩
    · show HeapOK P _ w x (getH ((r, VH.tbl e e1 (rows.set i row) none) :: (q, VH.gone) :: s.H) x)
      rw [hget]
      by_cases e0 : r = x
      · subst e0
        rw [if_pos rfl]
        refine .inr ⟨b, vals, fun j => if j = i then bi else if j < rows.length then bk j else none, h1, h2, h3, by rw [List.length_set]; exact h4, h5, fun j k c k1 k2 => ?_, fun j rw_ hj _ => ?_, fun j q' h => by cases h⟩
        · have bkq : ∀ m, m ≠ i → m < rows.length → bk m = some c → bi = some c → False := fun m hm hml hb1 hb2 => by
            obtain ⟨v', _, hr'⟩ := h7 m rows[m] (List.getElem?_eq_getElem hml) fun q' h => by injection h with h; injection h with h _; exact hm h.symm
            rcases hr' with ⟨_, hn, _⟩ | ⟨c', cap, cur, p1, _, _, _, p2, _⟩
            · rw [hn] at hb1; cases hb1
            · rw [hb1] at p1; injection p1 with p1; subst p1
              exact (hs.gi.ex _ _ p2).2.2.2.2.2 q hlq (hf3 _ hb2)
          by_cases ej : j = i
          · by_cases ek : k = i
            · rw [ej, ek]
            · simp only [ej, ek, if_true, if_false] at k1 k2
              by_cases kl : k < rows.length
              · rw [if_pos kl] at k2; exact (bkq k ek kl k2 k1).elim
              · rw [if_neg kl] at k2; cases k2
          · simp only [ej, if_false] at k1
            by_cases jl : j < rows.length
            · rw [if_pos jl] at k1
              by_cases ek : k = i
              · simp only [ek, if_true] at k2; exact (bkq j ej jl k1 k2).elim
              · simp only [ek, if_false] at k2
                by_cases kl : k < rows.length
                · rw [if_pos kl] at k2; exact h6 j k c k1 k2
                · rw [if_neg kl] at k2; cases k2
            · rw [if_neg jl] at k1; cases k1
        · by_cases ej : j = i
          · subst ej
            rw [List.getElem?_set_self hilt] at hj
            injection hj with hj
            subst hj
            exact ⟨v, q2, by simp only [if_true]; exact hrow⟩
          · rw [List.getElem?_set_ne (fun e => ej e.symm)] at hj
            have hjl := (List.getElem?_eq_some_iff.1 hj).1
            obtain ⟨v', p1, p2⟩ := h7 j rw_ hj fun q' h => by injection h with h; injection h with h _; exact ej h.symm
            exact ⟨v', p1, by simp only [ej, hjl, if_true, if_false]; exact p2.mono hf1⟩
      · rw [if_neg e0]
        by_cases e2 : q = x
        · rw [if_pos e2]; trivial
        · rw [if_neg e2]
          exact (hs.hH x).move (Fut.refl _ _) (fun _ h => h) (fun _ _ => ⟨rfl, rfl⟩) (fun _ _ _ => rfl) hf1
  by_cases hnil : row = []
  · refine fin g.ex none (fun _ _ h => h) (fun c h => by cases h) (fun c o h => .inl h) (.inl ⟨hnil, rfl, ?_⟩)
    rcases q3.sl_inv with ⟨e9, _⟩ | ⟨c, hb, k1, k2, e9⟩
    · exact ⟨none, 0, e9, by unfold maxLen; omega⟩
    · rw [hl0, hnil] at e9; exact ⟨_, _, e9, k2⟩
  · rcases q3.sl_inv with ⟨_, e9, _⟩ | ⟨c, hb, k1, k2, e9⟩
    · rw [hl0] at e9; exact absurd (List.eq_nil_of_length_eq_zero e9) hnil
    · have hhq := hs.hH q; rw [hq] at hhq
      obtain ⟨p0, hhq⟩ := hhq
      rcases hhq with ⟨_, p1⟩ | ⟨c2, cur, p1, p2, p3, p4, p5, p6⟩
      · exact absurd p1 hnil
      obtain rfl : c = c2 := by rw [hb] at p1; injection p1
      have hexc : g.ex c = none := by
        cases hx : g.ex c with
        | none => rfl
        | some o => exact absurd hb ((hs.gi.ex c o hx).2.2.2.2.2 q hlq)
      refine fin (fun k => if k = c then some (.cells cur e1 (0, 0)) else g.ex k) (some c) (fun k o h => ?_) (fun k h => by injection h with h; subst h; exact hb) (fun k o h => ?_) (.inr ⟨c, g.κ q, cur, rfl, by rw [e9, hl0], p4, p5, by simp, by omega, fun cs hcs => p0 cs hcs, fun j cs x hj hx => ?_⟩)
      · by_cases ek : k = c
        · subst ek; rw [hexc] at h; cases h
        · simp only [ek, if_false]; exact h
      · by_cases ek : k = c
        · subst ek
          simp only [if_true] at h
          injection h with h
          exact .inr ⟨rfl, by rw [← h]; exact p2⟩
        · simp only [ek, if_false] at h; exact .inl h
      · obtain ⟨u, hu, hr⟩ := p6 j 0 cs x hj hx
        obtain ⟨bb, hcs⟩ := hbl cs (List.mem_of_getElem? hj)
        rw [hcs] at hx
        simp at hx
        subst hx
        refine ⟨u, by simpa using hu, fun Rd w => ?_⟩
        rw [hr.sval (u := .bool bb) rfl]; exact .bool bb
theorem Sim.topen (hs : Sim P T N w0 g s a w) {r q i e e1 : Nat} {rows : List (List (List Cell))} {row : List (List Cell)} (hH : getH s.H r = .tbl e e1 rows none) (hi : rows[i]? = some row) (hne : row ≠ []) (hfr : s.fresh q = true) (hot : oneTb r s.H = true) :
    ∃ g', Sim P T N w0 g' ⟨s.F, (q, .arr e1 1 row) :: (r, .tbl e e1 rows (some (i, q))) :: s.H⟩ a w := by
  obtain ⟨f1, f2, f3⟩ := St.fresh_spec hfr
  have hlr : live s.H r := by unfold live; rw [hH]; rfl
  have hqr : q ≠ r := fun e => by subst e; rw [hH] at f3; cases f3
  have hget : ∀ x, getH ((q, VH.arr e1 1 row) :: (r, .tbl e e1 rows (some (i, q))) :: s.H) x = if q = x then .arr e1 1 row else if r = x then .tbl e e1 rows (some (i, q)) else getH s.H x := fun x => by rw [hget_put, hget_put]
  have lv : ∀ x, live ((q, VH.arr e1 1 row) :: (r, .tbl e e1 rows (some (i, q))) :: s.H) x → x = q ∨ (x ≠ q ∧ live s.H x) := fun x hx => by
    unfold live at hx ⊢
    rw [hget] at hx
    by_cases e0 : q = x
    · exact .inl e0.symm
    · rw [if_neg e0] at hx
      refine .inr ⟨fun h => e0 h.symm, ?_⟩
      by_cases e2 : r = x
      · subst e2; exact hlr
      · rwa [if_neg e2] at hx
  have hh := hs.hH r; rw [hH] at hh
  rcases hh with ⟨_, h1, _⟩ | ⟨b, vals, bk, h1, h2, h3, h4, h5, h6, h7, h8⟩
  · rw [h1] at hi; simp at hi
  obtain ⟨v, q1, q2⟩ := h7 i row hi fun q h => by cases h
  rcases q2 with ⟨e9, _⟩ | ⟨c, cap, cur, p1, p2, p3, p4, p5, p6, p7, p8⟩
  · exact absurd e9 hne
  obtain ⟨c0, c1, c2, c3, c4, c5⟩ := hs.gi.ex c _ p5
  let g1 : Gh := ⟨updO g.β q (some c), updN g.κ q cap, g.Rd, g.tp, g.tl, g.ex⟩
  let g2 : Gh := ⟨updO g.β q (some c), updN g.κ q cap, g.Rd, g.tp, g.tl, fun k => if k = c then none else g.ex k⟩
  have old : ∀ x, x ≠ q → updO g.β q (some c) x = g.β x ∧ updN g.κ q cap x = g.κ x := fun x hx => by simp [updO, updN, hx]
  have new : updO g.β q (some c) q = some c ∧ updN g.κ q cap q = cap := by simp [updO, updN]
  refine ⟨g2, ⟨fun x x' b' a1 a2 a3 a4 => ?_, fun x b' a1 a2 => ?_, fun b' o hr => ⟨(hs.gi.rd b' o hr).1, (hs.gi.rd b' o hr).2.1, fun x a1 a2 => ?_⟩, hs.gi.keep, hs.gi.tape, ⟨hs.gi.org.rd0, hs.gi.org.new0, hs.gi.org.tp0, hs.gi.org.tpo⟩, fun k o hk => ?_⟩, hs.dn, hs.nt, fun x => (hs.hF x).move (Fut.refl _ _) (fun _ h => h) fun y hy => old y fun e => (by rw [e, f1 x] at hy; cases hy), fun x => ?_⟩
  · rcases lv x a1 with rfl | ⟨n1, l1⟩ <;> rcases lv x' a2 with rfl | ⟨n2, l2⟩
    · rfl
    · have a3 : some c = some b' := by rw [← new.1]; exact a3
      injection a3 with a3
      subst a3
      exact absurd ((old x' n2).1.symm.trans a4) (c5 x' l2)
    · have a4 : some c = some b' := by rw [← new.1]; exact a4
      injection a4 with a4
      subst a4
      exact absurd ((old x n1).1.symm.trans a3) (c5 x l1)
    · exact hs.gi.inj x x' b' l1 l2 ((old x n1).1.symm.trans a3) ((old x' n2).1.symm.trans a4)
  · rcases lv x a1 with rfl | ⟨n1, l1⟩
    · have a2 : some c = some b' := by rw [← new.1]; exact a2
      injection a2 with a2
      subst a2
      exact ⟨c1, c2, c3⟩
    · exact hs.gi.bd x b' l1 ((old x n1).1.symm.trans a2)
  · rcases lv x a1 with rfl | ⟨n1, l1⟩
    · have a2 : some c = some b' := by rw [← new.1]; exact a2
      injection a2 with a2
      subst a2
      exact c4 o hr
    · exact (hs.gi.rd b' o hr).2.2 x l1 ((old x n1).1.symm.trans a2)
  · by_cases ek : k = c
    · have hk : (if k = c then none else g.ex k) = some o := hk
      rw [if_pos ek] at hk; cases hk
    · have hk : (if k = c then none else g.ex k) = some o := hk
      rw [if_neg ek] at hk
      obtain ⟨a1, a2, a3, a4, a5, a6⟩ := hs.gi.ex k o hk
      refine ⟨a1, a2, a3, a4, a5, fun x hx hb => ?_⟩
      rcases lv x hx with rfl | ⟨n1, l1⟩
      · have hb : some c = some k := by rw [← new.1]; exact hb
        injection hb with hb
        exact ek hb.symm
      · exact a6 x l1 ((old x n1).1.symm.trans hb)
  · show HeapOK P g2 w x (getH _ x)
    rw [hget]
    by_cases e0 : q = x
    · subst e0
      rw [if_pos rfl]
      refine ⟨p7, .inr ⟨c, cur, new.1, c0, ?_, ?_, ?_, fun i j row' x' hi' hj' => ?_⟩⟩
      · show cur.size = updN g.κ q cap q * 1; rw [new.2, p6]; omega
      · show _ ≤ updN g.κ q cap q; rw [new.2]; exact p3
      · show updN g.κ q cap q ≤ _; rw [new.2]; exact p4
      · have hl := p7 row' (List.mem_of_getElem? hi')
        have hj0 : j = 0 := by have := (List.getElem?_eq_some_iff.1 hj').1; omega
        subst hj0
        obtain ⟨u, hu, hr⟩ := p8 i row' x' hi' hj'
        exact ⟨u, by simpa using hu, hr _ _⟩
    · rw [if_neg e0]
      by_cases e2 : r = x
      · subst e2
        rw [if_pos rfl]
        obtain ⟨o1, o2⟩ := old r (fun h => hqr h.symm)
        refine .inr ⟨b, vals, bk, o1.trans h1, h2, by show vals.size = updN g.κ q cap r * 1; rw [o2]; exact h3, by show _ ≤ updN g.κ q cap r; rw [o2]; exact h4, by show updN g.κ q cap r ≤ _; rw [o2]; exact h5, h6, fun j rw_ hj ho => ?_, fun j q' hj => ?_⟩
        · obtain ⟨v', k1, k2⟩ := h7 j rw_ hj fun q' h => by cases h
          refine ⟨v', k1, ?_⟩
          rcases k2 with k2 | ⟨c', cap', cur', m1, m2, m3, m4, m5, m6⟩
          · exact .inl k2
          · refine .inr ⟨c', cap', cur', m1, m2, m3, m4, ?_, m6⟩
            have hcc : c' ≠ c := fun e => by
              subst e
              have := h6 j i c' m1 p1
              subst this
              exact ho q rfl
            show (if c' = c then none else g.ex c') = _
            rw [if_neg hcc]; exact m5
        · injection hj with hj
          injection hj with hj1 hj2
          subst hj1 hj2
          refine ⟨row, v, hi, q1, ?_⟩
          rw [p2]
          have := RepCV.sl (P := P) (g := g2) (w := w) (r := q) (b := c) row.length 1 new.1 (by show _ ≤ updN g.κ q cap q; rw [new.2]; exact p3) (by show updN g.κ q cap q ≤ _; rw [new.2]; exact p4)
          have e8 : g2.κ q = cap := new.2
          rw [e8] at this
          exact this
      · rw [if_neg e2]
        have hx := (hs.hH x).move (g' := g1) (w' := w) (Fut.refl _ _) (fun _ h => h) (fun y hy => old y fun e => ?_) (fun _ _ _ => rfl) (fun _ _ h => h)
        · exact hx.exs (oneTb_get hot fun h => e2 h.symm) _
        · rcases hy with hy | hy
          · rw [e, f2 x] at hy; cases hy
          · exact e0 (by rw [← e, hy])
inductive TzF (r : Nat) (rows : List (List (List Cell))) : List (Nat × SV) → List (Nat × SV) → Prop where
  | nil : TzF r rows [] []
  | sl {x n : Nat} {l l' : List (Nat × SV)} (hn : n = rows.length) (h : TzF r rows l l') : TzF r rows ((x, .one (.sl r n 1)) :: l) ((x, .one (.d (.list (rows.map fun row => [.list row])))) :: l')
  | same {x : Nat} {v : SV} {l l' : List (Nat × SV)} (h : TzF r rows l l') : TzF r rows ((x, v) :: l) ((x, v) :: l')
theorem TzF.get {r : Nat} {rows : List (List (List Cell))} {F F' : List (Nat × SV)} (h : TzF r rows F F') (x : Nat) : getF F' x = getF F x ∨ (∃ n, n = rows.length ∧ getF F x = .one (.sl r n 1) ∧ getF F' x = .one (.d (.list (rows.map fun row => [.list row])))) := by
  induction h with
  | nil => exact .inl rfl
  | @sl y n l l' hn h ih =>
    simp only [getF, beq_eq]
    by_cases e : y = x
    · subst e; exact .inr ⟨n, hn, by simp, by simp⟩
    · simpa [e] using ih
  | @same y v l l' h ih =>
    simp only [getF, beq_eq]
    by_cases e : y = x
    · subst e; exact .inl (by simp)
    · simpa [e] using ih
theorem Sim.tfr (hs : Sim P T N w0 g s a w) {r e e1 : Nat} {rows : List (List (List Cell))} {F' : List (Nat × SV)} (hH : getH s.H r = .tbl e e1 rows none) (hot : oneTb r s.H = true) (hF : TzF r rows s.F F') : ∃ g', Sim P T N w0 g' ⟨F', (r, .gone) :: s.H⟩ a w := by
  have hlr : live s.H r := by unfold live; rw [hH]; rfl
  have hget : ∀ x, getH ((r, VH.gone) :: s.H) x = if r = x then .gone else getH s.H x := fun x => hget_put _ _ _ _
  have lv : ∀ x, live ((r, VH.gone) :: s.H) x → x ≠ r ∧ live s.H x := fun x hx => by
    unfold live at hx ⊢
    rw [hget] at hx
    by_cases e0 : r = x
    · rw [if_pos e0] at hx; cases hx
    · rw [if_neg e0] at hx; exact ⟨fun h => e0 h.symm, hx⟩
  let Rd' : Nat → Nat → Prop := fun b o => g.Rd b o ∨ ((g.β r = some b ∨ (g.ex b).isSome = true) ∧ (w.cell? ⟨b, o, none⟩).isSome = true)
  let g1 : Gh := ⟨g.β, g.κ, Rd', g.tp, g.tl, g.ex⟩
  let g2 : Gh := ⟨g.β, g.κ, Rd', g.tp, g.tl, fun _ => none⟩
  have hf : Fut g.Rd Rd' w w := ⟨fun _ _ h => .inl h, fun _ _ _ => rfl⟩
  have exO : ∀ b, (g.ex b).isSome = true → Out w0 g s.H w b := fun b h => by
    cases hx : g.ex b with
    | none => rw [hx] at h; cases h
    | some o => exact (hs.gi.ex b o hx).2
  have hh := hs.hH r; rw [hH] at hh
  refine ⟨g2, ⟨fun x x' b' a1 a2 => hs.gi.inj x x' b' (lv _ a1).2 (lv _ a2).2, fun x b' a1 => hs.gi.bd x b' (lv _ a1).2, fun b' o hr => ?_, hs.gi.keep, fun tb htb => ?_, ⟨fun b o h => .inl (hs.gi.org.rd0 b o h), fun b o h => ?_, hs.gi.org.tp0, hs.gi.org.tpo⟩, fun k o hk => (by cases hk)⟩, hs.dn, hs.nt, fun x => ?_, fun x => ?_⟩
  · rcases hr with hr | ⟨hr | hr, _⟩
    · exact ⟨(hs.gi.rd b' o hr).1, (hs.gi.rd b' o hr).2.1, fun x a1 => (hs.gi.rd b' o hr).2.2 x (lv _ a1).2⟩
    · obtain ⟨a1, a2, a3⟩ := hs.gi.bd r b' hlr hr
      exact ⟨a2, a3, fun x k1 k2 => (lv _ k1).1 (hs.gi.inj x r b' (lv _ k1).2 hlr k2 hr)⟩
    · obtain ⟨a1, a2, a3, a4, a5⟩ := exO b' hr
      exact ⟨a2, a3, fun x k1 => a5 x (lv _ k1).2⟩
  · obtain ⟨a1, a2⟩ := hs.gi.tape tb htb
    exact ⟨a1, a2.keep hf rfl⟩
  · rcases h with h | ⟨h | h, _⟩
    · exact hs.gi.org.new0 b o h
    · exact .inr (hs.gi.bd r b hlr h).1
    · exact .inr (exO b h).1
  · show RepSV P g2 w _ (getF F' x)
    rcases hF.get x with e0 | ⟨n, e1, e2, e3⟩
    · rw [e0]; exact (hs.hF x).move hf (fun _ h => h) fun _ _ => ⟨rfl, rfl⟩
    · rw [e3]
      have hv := hs.hF x; rw [e2] at hv
      refine .one (.d ?_)
      subst e1
      rcases hv.one_inv.sl_inv with ⟨e4, e5, _⟩ | ⟨b, hb, k1, k2, e4⟩
      · have : rows = [] := List.eq_nil_of_length_eq_zero e5
        subst this
        rw [e4]
        exact .list none 0 [] 0 (fun _ _ => undef) (fun _ => rfl) (Nat.le_refl _) (by unfold maxLen; omega) (by simp) (by simp) (by simp)
      · rcases hh with ⟨h1, _⟩ | ⟨b2, vals, bk, h1, h2, h3, h4, h5, h6, h7, h8⟩
        · rw [hb] at h1; cases h1
        obtain rfl : b = b2 := by rw [hb] at h1; injection h1
        rw [e4]
        have hl : (rows.map fun row => [Cell.list row]).length = rows.length := List.length_map _
        rw [← hl]
        refine list_rep (cap := g.κ r) (sz := 1) h2 (fun o ho => .inr ⟨.inl hb, by rw [h2.cell]; simp [ho]⟩) (by rw [hl]; omega) (by rw [hl]; exact h4) h5 (fun row hr => by obtain ⟨q, _, rfl⟩ := List.mem_map.1 hr; rfl) fun i j row y hi hj => ?_
        rw [List.getElem?_map] at hi
        cases hx : rows[i]? with
        | none => rw [hx] at hi; cases hi
        | some row0 =>
          rw [hx] at hi
          simp at hi
          subst hi
          have hj0 : j = 0 := by have := (List.getElem?_eq_some_iff.1 hj).1; simp at this; omega
          subst hj0
          simp at hj
          subst hj
          obtain ⟨v, q1, q2⟩ := h7 i row0 hx fun q h => by cases h
          refine ⟨v, by simpa using q1, ?_⟩
          rcases q2 with ⟨e9, _, A, c, e8, e7⟩ | ⟨c, cap, cur, p1, p2, p3, p4, p5, p6, p7, p8⟩
          · subst e9
            rw [e8]
            exact .list A c [] 0 (fun _ _ => undef) (fun _ => rfl) (Nat.zero_le _) e7 (by simp) (by simp) (by simp)
          · rw [p2]
            obtain ⟨c0, _⟩ := hs.gi.ex c _ p5
            have hbl : Blk w c e1 cur := c0
            refine list_rep (sz := 1) hbl (fun o ho => .inr ⟨.inr (by rw [p5]; rfl), by rw [hbl.cell]; simp [ho]⟩) (by omega) p3 p4 p7 fun i j cs y hi hj => ?_
            have hl := p7 cs (List.mem_of_getElem? hi)
            have hj0 : j = 0 := by have := (List.getElem?_eq_some_iff.1 hj).1; omega
            subst hj0
            obtain ⟨u, hu, hr⟩ := p8 i cs y hi hj
            exact ⟨u, by simpa using hu, hr _ _⟩
  · show HeapOK P g2 w x (getH ((r, VH.gone) :: s.H) x)
    rw [hget]
    by_cases e0 : r = x
    · rw [if_pos e0]; trivial
    · rw [if_neg e0]
      have hx := (hs.hH x).move (g' := g1) (w' := w) hf (fun _ h => h) (fun _ _ => ⟨rfl, rfl⟩) (fun _ _ _ => rfl) (fun _ _ h => h)
      exact hx.exs (oneTb_get hot fun h => e0 h.symm) _
end
section
variable {k : Wk} {w0 : Org} {ops : Array Oper} {l : List Oper} {Q : St → Prop} {F F' : List (Nat × SV)} {H : List (Nat × VH)} {β : Type} {f : β → List Cell} {xs : List (List β)} {e e1 r q : Nat}
theorem v_tnew (f : β → List Cell) (r e1 : Nat) {xs : List (List β)} (hr : getH H r = .arr e 1 (xs.map (lrow f))) (hz : ∀ x ∈ xs, x = []) (h : rg k w0 ops l Q ⟨F, (r, .tbl e e1 (xs.map (List.map f)) none) :: H⟩) : rg k w0 ops l Q ⟨F, H⟩ := by
  refine rgI ?_
  intro g a w hs
  have h2 := hs.tnew e1 hr fun row hrow => by obtain ⟨x, hx, rfl⟩ := List.mem_map.1 hrow; rw [hz x hx]; rfl
  have e0 : List.replicate (xs.map (lrow f)).length ([] : List (List Cell)) = xs.map (List.map f) := by
    rw [List.length_map]
    symm
    rw [List.eq_replicate_iff]
    exact ⟨by simp, fun b hb => by obtain ⟨x, hx, rfl⟩ := List.mem_map.1 hb; rw [hz x hx]; rfl⟩
  rw [e0] at h2
  exact rgO h g a w h2
theorem v_tst {ys : List β} {R n : Nat} {m : Int} {x y : Operand} {t' t : TypeId} {p : String} {af : Array Edge} (hx : (St.mk F H).ev x = .one (.el r m.toNat 0 1)) (hH : getH H r = .tbl e e1 (xs.map (List.map f)) none) (hy : (St.mk F H).ev y = .one (.sl R n 1)) (hR : getH H R = .arr e1 1 (ys.map f)) (hne : Nat.beq r R = false) (hn : n = ys.length) (ht : (tyAt k.τ t').size = some 1) (hb : ∀ y, ∃ b, f y = [.bool b]) (hc : 0 ≤ m ∧ m < (xs.length : Int))
    (h : rg k w0 ops l Q ⟨F, (r, .tbl e e1 ((xs.set m.toNat ys).map (List.map f)) none) :: (R, .gone) :: H⟩) : rg k w0 ops (⟨none, .store t' x y, t, p, af, none⟩ :: l) Q ⟨F, H⟩ := by
  have hrR : r ≠ R := fun e => by rw [e] at hne; simp at hne
  have h1 := opr_store_t (P := k.P) (T := k.T) (N := k.N) (w0 := w0) (s := ⟨F, H⟩) (o := ⟨none, .store t' x y, t, p, af, none⟩) (rows := xs.map (List.map f)) (row := ys.map f) k.ok rfl rfl hx hy hrR hH (by rw [List.length_map]; exact hn) ht (by rw [List.length_map]; omega)
  have h2 : OpR k.P k.T k.N w0 ⟨F, H⟩ ⟨none, .store t' x y, t, p, af, none⟩ (fun s' => s' = ⟨F, (r, .tbl e e1 ((xs.set m.toNat ys).map (List.map f)) none) :: (R, .gone) :: H⟩) := by
    intro g a w hs K Q' hK
    refine h1 g a w hs K Q' fun g' s' a' w' e0 hs' => ?_
    subst e0
    have hgR : getH ((St.mk F H).hput r (.tbl e e1 ((xs.map (List.map f)).set m.toNat (ys.map f)) (some (m.toNat, R)))).H R = .arr e1 1 (ys.map f) := by
      show getH ((r, _) :: H) R = _
      rw [hget_put, if_neg hrR]; exact hR
    have hgr : getH ((St.mk F H).hput r (.tbl e e1 ((xs.map (List.map f)).set m.toNat (ys.map f)) (some (m.toNat, R)))).H r = .tbl e e1 ((xs.map (List.map f)).set m.toNat (ys.map f)) (some (m.toNat, R)) := by
      show getH ((r, _) :: H) r = _
      rw [hget_put, if_pos rfl]
    obtain ⟨g2, hs2⟩ := hs'.tclose hgr hgR (fun row0 h0 => by
      rw [List.getElem?_set_self (by rw [List.length_map]; omega)] at h0
      injection h0 with h0; rw [← h0]) (fun cs hcs => by obtain ⟨y, _, rfl⟩ := List.mem_map.1 hcs; exact hb y)
    refine hK g2 _ _ _ rfl (hs2.alike (fun _ => .inl rfl) fun z => ?_)
    show getH ((r, _) :: (R, VH.gone) :: H) z = getH ((r, _) :: (R, VH.gone) :: (r, _) :: H) z
    rw [List.set_set, List.map_set]
    simp only [hget_put]
    by_cases e0 : r = z
    · simp [e0]
    · simp [e0]
  exact rgI (irg_h rfl h2 (rgO h))
theorem v_tcl {m j : Int} {v : β} (r q : Nat) (hH : getH H r = .tbl e e1 (xs.map (List.map f)) (some (m.toNat, q))) (inst : Inhabited β) (hq : getH H q = .arr e1 1 (((gt xs m).set j.toNat v).map f)) (hb : ∀ y, ∃ b, f y = [.bool b]) (hF : killK q F (fun a => some a) = some F') (hc : 0 ≤ m ∧ m < (xs.length : Int)) (h : rg k w0 ops l Q ⟨F', (r, .tbl e e1 ((xs.set m.toNat ((gt xs m).set j.toNat v)).map (List.map f)) none) :: (q, .gone) :: H⟩) : rg k w0 ops l Q ⟨F, H⟩ := by
  rw [killK_eq] at hF
  injection hF with hF
  subst hF
  refine rgI ?_
  intro g a w hs
  obtain ⟨g2, hs2⟩ := hs.tclose hH hq (fun row0 h0 => by
    rw [List.getElem?_map, List.getElem?_eq_getElem (by omega : m.toNat < xs.length)] at h0
    simp at h0
    rw [← h0, gt_eq (by omega)]
    simp) (fun cs hcs => by obtain ⟨y, _, rfl⟩ := List.mem_map.1 hcs; exact hb y)
  rw [← List.map_set] at hs2
  exact rgO h g2 a w (hs2.less (fun x => by
    show getF (killF q F) x = getF F x ∨ getF (killF q F) x = .u
    rw [killF_get]
    split
    · exact .inr rfl
    · exact .inl rfl) fun _ => .inl rfl)
theorem n_topen {n bt : Nat} {cs : List CV} {listed : Array Bool} {m : Int} (r q br j : Nat) (hb : getH H br = .blk bt cs) (hm : cs[j]? = some (.d (.int .i64 m))) (hH : getH H r = .tbl e e1 (xs.map (List.map f)) none) (inst : Inhabited β) (hfr : (St.mk F H).fresh q = true) (hot : oneTb r H = true) (hc : 0 ≤ m ∧ m < (xs.length : Int)) (hne : 0 < (gt xs m).length) (h : rn k w0 ops n listed Q ⟨F, (q, .arr e1 1 ((gt xs m).map f)) :: (r, .tbl e e1 (xs.map (List.map f)) (some (m.toNat, q))) :: H⟩) : rn k w0 ops n listed Q ⟨F, H⟩ := by
  unfold rn at h ⊢
  intro g a w hs
  obtain ⟨g2, hs2⟩ := hs.topen (s := ⟨F, H⟩) (q := q) hH (i := m.toNat) (row := (gt xs m).map f) (by rw [List.getElem?_map, List.getElem?_eq_getElem (by omega : m.toNat < xs.length), gt_eq (by omega)]; rfl) (fun e => by
    have := congrArg List.length e
    simp at this
    rw [this] at hne; simp at hne) hfr hot
  exact h g2 a w hs2
theorem e_ld_t {s : St} {m : Int} {d t t' : Nat} {x : Operand} {p : String} {af : Array Edge} {gd : Option (Nat × Bool)} (hx : s.ev x = .one (.el r m.toNat 0 1)) (hH : getH s.H r = .tbl e e1 (xs.map (List.map f)) (some (m.toNat, q))) (inst : Inhabited β) (ht : (tyAt k.τ t').isOne = true) (hc : 0 ≤ m ∧ m < (xs.length : Int)) : OpE k.P k.T k.N w0 s ⟨some d, .load t' x, t, p, af, gd⟩ (.one (.sl q (gt xs m).length 1)) := by
  have h := ope_load_t (P := k.P) (T := k.T) (N := k.N) (w0 := w0) (s := s) (o := ⟨some d, .load t' x, t, p, af, gd⟩) rfl hx hH (row := (gt xs m).map f) (by rw [List.getElem?_map, List.getElem?_eq_getElem (by omega : m.toNat < xs.length), gt_eq (by omega)]; rfl) (tab_one k.ok ht)
  rwa [List.length_map] at h
theorem v_tfr (r : Nat) (hH : getH H r = .tbl e e1 (xs.map (List.map f)) none) (hot : oneTb r H = true) (hF : TzF r (xs.map (List.map f)) F F') (h : rg k w0 ops l Q ⟨F', (r, .gone) :: H⟩) : rg k w0 ops l Q ⟨F, H⟩ := by
  refine rgI ?_
  intro g a w hs
  obtain ⟨g2, hs2⟩ := hs.tfr (s := ⟨F, H⟩) hH hot hF
  exact rgO h g2 a w hs2
theorem tz_sl {n x : Nat} {l l' : List (Nat × SV)} (hn : n = xs.length) (h : TzF r (xs.map (List.map f)) l l') : TzF r (xs.map (List.map f)) ((x, .one (.sl r n 1)) :: l) ((x, .one (.d (.list (xs.map (lrow f))))) :: l') := by
  have := TzF.sl (x := x) (r := r) (rows := xs.map (List.map f)) (n := n) (by rw [List.length_map]; exact hn) h
  rw [List.map_map] at this
  exact this
theorem v_tfrl {o : Oper} (r : Nat) (hH : getH H r = .tbl e e1 (xs.map (List.map f)) none) (hot : oneTb r H = true) (hF : TzF r (xs.map (List.map f)) F F') (h : rg k w0 ops (o :: l) Q ⟨F', (r, .gone) :: H⟩) : rg k w0 ops (o :: l) Q ⟨F, H⟩ := v_tfr r hH hot hF h
end
end Go.Proofs.Ytcbppkfnfbdkhaa
/- A queue: the part of a list of the call's own that is left, and that grows. -/
set_option linter.all false
set_option maxRecDepth 20000
namespace Go.Proofs.Ytcbppkfnfbdkhaa
open Go.RowKit Go.Shelf
section
variable {P : Program} {T : TypeId} {N : Nat} {w0 : Org} {s : St} {o : Oper} {τ : List TyI} {g : Gh} {a : Act} {w : World}
theorem slp_inv {v : Value} {r off n sz : Nat} (h : RepCV P g w v (.slp r off n sz)) : (v = .slice none 0 0 ∧ n = 0) ∨ ∃ b o c, g.β r = some b ∧ v = .slice (some ⟨b, o, none⟩) n c ∧ (n = 0 ∨ o = off * sz) ∧ n ≤ c ∧ (c = 0 ∨ (o = off * sz ∧ off + c ≤ g.κ r ∧ g.κ r ≤ maxLen)) := by
  cases h with
  | slpv => exact .inl ⟨rfl, rfl⟩
  | slp _ _ _ o c hb ho hle hc => exact .inr ⟨_, o, c, hb, rfl, ho, hle, hc⟩
theorem ope_len_slp {x : Operand} {t e n r off m sz : Nat} (ho : o.op = .call { callee := .builtin .len, args := #[x], argTypes := #[t] }) (hx : s.ev x = .one (.slp r off m sz)) (ht : sliceT P t e n = true) (hm : m ≤ maxLen) : OpE P T N w0 s o (.one (.d (.int .i64 (m : Int)))) :=
  ope_val fun g a w hs => by
    have h := hs.ev x; rw [hx] at h
    rcases slp_inv h.one_inv with ⟨he, h0⟩ | ⟨b, oo, c, hb, he, _⟩
    · subst h0
      exact ⟨.int .i64 0, by simp [execOp, ho, resolve, invoke, he, run_len (sliceT_spec ht).1], .one (.d (.int _ _ rfl))⟩
    · exact ⟨.int .i64 m, by simp [execOp, ho, resolve, invoke, he, run_len (sliceT_spec ht).1], .one (.d (.int _ _ (len_wf (by omega))))⟩
theorem ope_ia_slp {x y : Operand} {t r off n sz e : Nat} {k : IntKind} {m : Int} (ho : o.op = .indexAddr t x y) (hx : s.ev x = .one (.slp r off n sz)) (hy : s.ev y = .one (.d (.int k m)))
    (ht : sliceT P t e sz = true) (h0 : 0 ≤ m) (hi : m < n) : OpE P T N w0 s o (.one (.el r (off + m.toNat) 0 sz)) :=
  ope_val fun g a w hs => by
    have h1 := hs.ev x; rw [hx] at h1
    have h2 := hs.ev y; rw [hy] at h2
    rcases slp_inv h1.one_inv with ⟨_, e2⟩ | ⟨b, oo, c, hb, e1, h3, h4, _⟩
    · omega
    · have e0 : oo = off * sz := by omega
      subst e0
      refine ⟨.pointer (some ⟨b, off * sz + m.toNat * sz, none⟩), by simp [execOp, ho, e1, h2.int_inv.1, run_indexAt ht h0 hi], .one ?_⟩
      have := RepCV.el (P := P) (g := g) (w := w) (r := r) (b := b) (off + m.toNat) 0 sz hb
      rw [Nat.add_zero, Nat.add_mul] at this
      exact this
theorem ope_slp_l {t r off n e sz : Nat} {x y : Operand} {k1 : IntKind} {m : Int} (ho : o.op = .slice t x (some y) none none) (hx : s.ev x = .one (.slp r off n sz)) (hy : s.ev y = .one (.d (.int k1 m))) (ht : sliceT P t e sz = true) (h0 : 0 ≤ m) (h2 : m ≤ (n : Int)) : OpE P T N w0 s o (.one (.slp r (off + m.toNat) (n - m.toNat) sz)) :=
  ope_val fun g a w hs => by
    have q1 := hs.ev x; rw [hx] at q1
    have q2 := hs.ev y; rw [hy] at q2
    obtain ⟨hu, inf, hi, hsz⟩ := sliceT_spec ht
    have he : P.elem t = e := by simp [Program.elem, hu]
    have run : ∀ A c, a.eval x = .slice A n c → (execOp a.eval o).run P w = .ok (.value (Go.sliced A m.toNat n c sz)) w := fun A c hv => by
      have := run_slice_l (P := P) w t A n c (by rw [he]; exact hu) k1 m h0 h2
      simp [execOp, ho, hv, q2.int_inv.1, run_sliceAt_slice w t _ _ _ _ (by rw [he]; exact hu), this, he, sizeOf, typeInfo, hi, hsz, Result.andThen]
    rcases slp_inv q1.one_inv with ⟨e1, e2⟩ | ⟨b, oo, c, hb, e1, h3, h4, h5⟩
    · subst e2
      refine ⟨_, run none 0 e1, .one ?_⟩
      have : m.toNat = 0 := by omega
      rw [this]
      exact .slpv _ sz
    · refine ⟨_, run _ _ e1, .one ?_⟩
      unfold Go.sliced
      by_cases hm : c = m.toNat
      · rw [if_pos hm]
        exact .slp _ _ _ _ _ hb (.inl (by omega)) (by omega) (.inl (by omega))
      · rw [if_neg hm]
        show RepCV P g w (.slice (some ((⟨b, oo, none⟩ : Addr).add (m.toNat * sz))) _ _) _
        rw [Addr.add_lit]
        rcases h5 with h5 | ⟨h5, h6, h7⟩
        · omega
        · subst h5
          exact .slp _ _ _ _ _ hb (.inr (by rw [Nat.add_mul])) (by omega) (.inr ⟨by rw [Nat.add_mul], by omega, h7⟩)
theorem run_app_room {t ty e : TypeId} {i : TypeInfo} (ht : P.underlying t = some (.slice e)) (hi : P.info? e = some i) {g off n c : Nat} {cur : Array Value} (hg : w.heap[g]? = some (.cells cur e (0, 0))) {ad : Addr} {m c2 : Nat} {news : List Value} (hl : news.length = m * i.size) (hnews : ∀ j u, news[j]? = some u → w.cell? (ad.add j) = some u) (h1 : ∀ u ∈ news, u.oneCell' = true) (hroom : n + m ≤ c) (hfit : off + n * i.size + news.length ≤ cur.size) :
    (Builtin.append_ #[t, t] ty #[.slice (some ⟨g, off, none⟩) n c, .slice (some ad) m c2]).run P w = .ok (.slice (some ⟨g, off, none⟩) (n + m) c) (w.setRow g (cur.toList.take (off + n * i.size) ++ news ++ cur.toList.drop (off + n * i.size + news.length)).toArray) := by
  have hf := run_firstCells_some (P := P) w i.size m ad m c2 news hl hnews
  have hst := run_storeCells_at P g (off + n * i.size) e news 0 cur w hg (by simpa using hfit) h1
  simp only [Nat.add_zero] at hst
  simp [Builtin.append_, run_underlying ht, sizeOf, typeInfo, hi, Builtin.lenOf, hroom, hf, Addr.add_lit, hst]
theorem opr_append_q (hτ : tabB P 0 τ = true) {t d e sz by_ r off n : Nat} {zs : List Z} {x y : Operand} {rows rows' : List (List Cell)} (ho : o.op = .call { callee := .builtin .append, args := #[x, y], argTypes := #[t, t] }) (hd : o.dst = some d) (hN : d < N)
    (ht : tyAt τ t = .sl e sz by_) (hz : (tyAt τ e).zs = some zs) (hzl : zs.length = sz) (h0 : 0 < sz) (hx : s.ev x = .one (.slp r off n sz)) (hr : getH s.H r = .arr e sz rows) (hon : off + n = rows.length) (hy : Src s sz (s.ev y) rows') (hne : 0 < rows'.length) (hfr : allH r s.H = true)
    (hbd : (rows.length + rows'.length) * by_ ≤ 140737488355328) (hb0 : 0 < by_) :
    OpR P T N w0 s o (fun s' => ∃ rows2 off2, (rows2 = rows ++ rows' ∧ off2 = off ∨ rows2 = rows.drop off ++ rows' ∧ off2 = 0) ∧ s' = ⟨(d, .one (.slp r off2 (n + rows'.length) sz)) :: killF r s.F, (r, .arr e sz rows2) :: s.H⟩) := by
  intro g a w hs K Q hK
  obtain ⟨hu, inf, hi, hsz⟩ := sliceT_spec (tab_sl hτ ht)
  have hby : inf.bytes = by_ := by
    have := tab_by hτ ht
    unfold bytesB at this
    rw [hi] at this
    exact Nat.eq_of_beq_eq_true this
  obtain ⟨i, z, hi2, hz1, hz2, hz3⟩ := zeroB_spec (tab_zs hτ hz)
  obtain rfl : i = inf := by rw [hi] at hi2; injection hi2 with h; exact h.symm
  have hzs : z.cells.size = sz := by rw [hz2]; simp [hzl]
  obtain ⟨A, c2, news, ey, hC, hnl, hn1, hnr⟩ := hy.vals h0 hs (hs.ev y)
  have hrl' := rows_of_src hy hs
  have hh := hs.hH r; rw [hr] at hh
  obtain ⟨hrl, hh⟩ := hh
  have hle : rows.length + rows'.length ≤ (rows.length + rows'.length) * by_ := Nat.le_mul_of_pos_right _ hb0
  have hsum : rows.length + rows'.length ≤ maxLen := by unfold maxLen; omega
  have h63 : rows.length + rows'.length ≤ 9223372036854775807 := by omega
  have hnb : (n + rows'.length) * by_ ≤ 140737488355328 := Nat.le_trans (Nat.mul_le_mul_right _ (by omega)) hbd
  have hn0 : news ≠ [] := fun e => by
    have h9 := Nat.mul_pos hne h0
    rw [← hnl, e] at h9
    exact absurd h9 (by simp)
  obtain ⟨ad, rfl⟩ : ∃ ad, A = some ad := by
    cases news with
    | nil => exact absurd rfl hn0
    | cons u news => obtain ⟨ad, h, _⟩ := hC 0 u rfl; exact ⟨ad, h⟩
  have hcells : ∀ j u, news[j]? = some u → w.cell? (ad.add j) = some u := by
    intro j u hu
    obtain ⟨ad', h, _, hc⟩ := hC j u hu
    injection h with h
    subst h
    exact hc
  have hl : live s.H r := by unfold live; rw [hr]; rfl
  have ex := hs.ev x
  rw [hx] at ex
  have hsk : Sim P T N w0 g ⟨killF r s.F, s.H⟩ a w := hs.less (fun y => by
    show getF (killF r s.F) y = getF s.F y ∨ getF (killF r s.F) y = .u
    rw [killF_get]
    split
    · exact .inr rfl
    · exact .inl rfl) fun _ => .inl rfl
  have hkill : ∀ y, (getF (killF r s.F) y).has r = false := fun y => by
    rw [killF_get]
    split
    · rfl
    · simp_all
  have hrl2 : ∀ row ∈ rows.drop off ++ rows', row.length = sz := fun row hr => by
    rcases List.mem_append.1 hr with h | h
    · exact hrl _ (List.mem_of_mem_drop h)
    · exact hrl' _ h
  have hdl : (rows.drop off).length = n := by rw [List.length_drop]; omega
  -- the end of whatever lays a new row
  have grow : ∀ (w' : World) (cap : Nat) (vals : Array Value) (olds : List Value), olds.length = n * sz → (∀ (i j : Nat) (row : List Cell) (x : Cell), (rows.drop off)[i]? = some row → row[j]? = some x → ∃ u, olds[i * sz + j]? = some u ∧ RepCell g.Rd w u x) →
      w.grownBy w' none → Blk w' w.heap.size e vals → vals.size = cap * sz → vals.toList.take ((n + rows'.length) * sz) = olds ++ news → n + rows'.length ≤ cap → cap ≤ maxLen → w.heap.size < w'.heap.size →
      K (a.put (some d) (.slice (some ⟨w.heap.size, 0, none⟩) (n + rows'.length) cap)) w' := by
    intro w' cap vals olds hol hor hg hbl hvs htk hc1 hc2 hlt
    have hln : (rows.drop off ++ rows').length = n + rows'.length := by rw [List.length_append, hdl]
    have hown : w'.ownsRow 0 e sz (.slice (some ⟨w.heap.size, 0, none⟩) (n + rows'.length) cap) (rows.drop off ++ rows').length (olds ++ news) :=
      ⟨by rw [List.length_append, hol, hnl, hln, Nat.add_mul], .inr ⟨w.heap.size, cap, vals, by rw [hln], Nat.zero_le _, hbl, by rw [hln]; exact hc1, hc2, hvs, by rw [hln]; exact htk⟩⟩
    have hfut : Fut g.Rd g.Rd w w' := ⟨fun _ _ h => h, fun b o' hb => World.cell?_of_block (w := w) (a := ⟨b, o', none⟩) (hg.block b (hs.gi.rd b o' hb).1 (fun e => by cases e))⟩
    have key : ∀ (i j : Nat) (row : List Cell) (x : Cell), (rows.drop off ++ rows')[i]? = some row → row[j]? = some x → ∃ u, (olds ++ news)[i * sz + j]? = some u ∧ RepCell g.Rd w' u x := fun i j row x hi hj => by
      by_cases hlt : i < n
      · rw [List.getElem?_append_left (by omega)] at hi
        obtain ⟨u, hu, hr⟩ := hor i j row x hi hj
        refine ⟨u, ?_, hr.mono hfut.rd hfut.cell⟩
        rw [List.getElem?_append_left (List.getElem?_eq_some_iff.1 hu).1]
        exact hu
      · rw [List.getElem?_append_right (by omega)] at hi
        obtain ⟨hj', u, hu, hr⟩ := hnr _ j row x hi hj
        refine ⟨u, ?_, hr.mono hfut.rd hfut.cell⟩
        have e1 : i * sz = n * sz + (i - n) * sz := by rw [← Nat.add_mul]; congr 1; omega
        rw [hdl] at hu
        rw [List.getElem?_append_right (by omega), ← hu]
        congr 1
        omega
    obtain ⟨k, q1, q2, q3⟩ := own_arr (P := P) (g := g) (d := r) hown rfl hrl2 key
    have h1 := hsk.newG (d := r) hkill (fun q => allH_get hfr q) (r0 := some r) (ob := none) (nb := some w.heap.size) (k := k) (vh := .arr e sz (rows.drop off ++ rows')) (fun b hb => by cases hb) hg (fun b hb => by injection hb with hb; subst hb; exact ⟨.inr (Nat.le_refl _), hlt⟩) rfl (fun _ => q1)
    have q2' : RepCV P (g.new r (some w.heap.size) k) w' (.slice (some ⟨w.heap.size, 0, none⟩) (n + rows'.length) cap) (.slp r 0 (n + rows'.length) sz) := by
      rw [hln] at q2
      rcases q2.sl_inv with ⟨e1, _⟩ | ⟨b, k1, k2, k3, e1⟩
      · cases e1
      · injection e1 with e1 e2 e3
        have e4 : (g.new r (some w.heap.size) k).κ r = cap := e3.symm
        exact .slp 0 _ sz 0 cap (by simp [Gh.new, updO]) (.inr (by omega)) hc1 (.inr ⟨by omega, by rw [e4]; omega, by rw [e4]; exact hc2⟩)
    have h2 := h1.put hN (.one q2')
    refine hK _ _ _ _ ⟨rows.drop off ++ rows', 0, .inr ⟨rfl, rfl⟩, rfl⟩ (h2.alike (fun _ => .inl rfl) fun q => ?_)
    show getH ((r, _) :: s.H) q = getH ((r, _) :: goneH (some r) s.H) q
    simp only [hget_put, goneH_get]
    by_cases e9 : r = q <;> simp [e9]
  have hge := grownCap_ge w (n + rows'.length)
  rcases slp_inv ex.one_inv with ⟨ev, hnz⟩ | ⟨b, oo, c, hb, ev, h3, h4, h5⟩
  · subst hnz
    have hrun := run_append_nil (P := P) w t o.type e i z hu hi hz1 ad rows'.length c2 news (by rw [hsz]; exact hnl) hcells hne (by omega) (by
      rw [hby]; rw [Nat.zero_add] at hnb; omega)
    refine wp_append_run ho ev ey hrun ?_
    obtain ⟨g1, g2, g3⟩ := drew_alloc w (news.toArray ++ Builtin.zeroCells z.cells (grownCap w rows'.length 0 e - rows'.length)) e
    have hge := grownCap_ge w rows'.length 0 e
    have hcm := grownCap_le_maxLen w rows'.length 0 e (by omega)
    rw [hd]
    have := grow _ (grownCap w rows'.length 0 e) _ [] (by simp) (fun i j row x hi hj => by
      have := (List.getElem?_eq_some_iff.1 hi).1
      omega) g1 g2 (by
      rw [Array.size_append, List.size_toArray, hnl, size_zeroCells, hzs, ← Nat.add_mul]; congr 1; omega) (by
      rw [Nat.zero_add, ← hnl]
      simp) (by omega) hcm g3
    rw [Nat.zero_add] at this
    exact this
  · rcases hh with ⟨hbn, _⟩ | ⟨b2, vals, hb2, hbl, k1, k2, k3, k4⟩
    · rw [hb] at hbn; cases hbn
    obtain rfl : b = b2 := by rw [hb] at hb2; injection hb2
    by_cases hroom : n + rows'.length ≤ c
    · obtain ⟨e0, h6, h7⟩ : oo = off * sz ∧ off + c ≤ g.κ r ∧ g.κ r ≤ maxLen := by
        rcases h5 with h5 | h5
        · omega
        · exact h5
      subst e0
      have hkk : rows.length + rows'.length ≤ g.κ r := by omega
      have hat : off * sz + n * sz = rows.length * sz := by rw [← Nat.add_mul, hon]
      have hvs : rows.length * sz + news.length ≤ vals.size := by rw [hnl, k1, ← Nat.add_mul]; exact Nat.mul_le_mul_right _ hkk
      have hrun := run_app_room (P := P) (ty := o.type) hu hi (off := off * sz) (n := n) (c := c) hbl (c2 := c2) (by rw [hsz]; exact hnl) hcells hn1 hroom (by rw [hsz, hat]; exact hvs)
      rw [hsz, hat] at hrun
      refine wp_append_run ho ev ey hrun ?_
      generalize hv2 : (vals.toList.take (rows.length * sz) ++ news ++ vals.toList.drop (rows.length * sz + news.length)).toArray = vals2
      have hsz2 : vals2.size = vals.size := by
        rw [← hv2]
        simp only [List.size_toArray, List.length_append, List.length_take, List.length_drop, Array.length_toList]
        omega
      have hold : ∀ k, k < rows.length * sz → vals2[k]? = vals[k]? := fun k hk => by
        rw [← hv2]
        simp only [List.getElem?_toArray]
        rw [List.append_assoc, List.getElem?_append_left (by simp; omega), List.getElem?_take_of_lt hk, Array.getElem?_toList]
      have hnew : ∀ k, k < news.length → vals2[rows.length * sz + k]? = news[k]? := fun k hk => by
        have hlt : (vals.toList.take (rows.length * sz)).length = rows.length * sz := by simp; omega
        rw [← hv2]
        simp only [List.getElem?_toArray]
        rw [List.append_assoc, List.getElem?_append_right (by rw [hlt]; omega), hlt, List.getElem?_append_left (by omega)]
        congr 1; omega
      have hblk2 : Blk (w.setRow b vals2) b e vals2 := setRow_heap w b vals vals2 e _ hbl
      have c1 := hsk.change (vals := vals2) (vh := .arr e sz (rows ++ rows')) hl hb hbl rfl (fun hf => ⟨fun row hr => by
        rcases List.mem_append.1 hr with h | h
        · exact hrl _ h
        · exact hrl' _ h, .inr ⟨b, vals2, hb, hblk2, by rw [hsz2]; exact k1, by rw [List.length_append]; exact hkk, h7, fun i j row x hi hj => by
        by_cases hlt : i < rows.length
        · rw [List.getElem?_append_left hlt] at hi
          obtain ⟨u, hu, hr⟩ := k4 i j row x hi hj
          have hjl := (List.getElem?_eq_some_iff.1 hj).1
          have e1 := hrl _ (List.mem_of_getElem? hi)
          have hin : i * sz + j < rows.length * sz := by
            have : (i + 1) * sz ≤ rows.length * sz := Nat.mul_le_mul_right _ hlt
            rw [Nat.add_mul] at this
            omega
          exact ⟨u, by rw [hold _ hin]; exact hu, hr.mono hf.rd hf.cell⟩
        · rw [List.getElem?_append_right (by omega)] at hi
          obtain ⟨hj', u, hu, hr⟩ := hnr _ j row x hi hj
          have e1 : i * sz = rows.length * sz + (i - rows.length) * sz := by rw [← Nat.add_mul]; congr 1; omega
          refine ⟨u, ?_, hr.mono hf.rd hf.cell⟩
          rw [show i * sz + j = rows.length * sz + ((i - rows.length) * sz + j) by omega, hnew _ (List.getElem?_eq_some_iff.1 hu).1]
          exact hu⟩⟩)
      have q2 : RepCV P g (w.setRow b vals2) (.slice (some ⟨b, off * sz, none⟩) (n + rows'.length) c) (.slp r off (n + rows'.length) sz) := .slp off _ sz _ c hb (.inr rfl) hroom (.inr ⟨rfl, h6, h7⟩)
      have c2 := c1.put hN (.one q2)
      rw [hd]
      exact hK _ _ _ _ ⟨rows ++ rows', off, .inl ⟨rfl, rfl⟩, rfl⟩ c2
    · have hvs : rows.length * sz ≤ vals.size := by rw [k1]; exact Nat.mul_le_mul_right _ k2
      have hat : off * sz + n * sz = rows.length * sz := by rw [← Nat.add_mul, hon]
      have holds : ∀ j u, ((vals.toList.drop (off * sz)).take (n * sz))[j]? = some u → w.cell? ((⟨b, oo, none⟩ : Addr).add j) = some u := fun j u hj => by
        have hk : j < n * sz := by have := (List.getElem?_eq_some_iff.1 hj).1; simp at this; omega
        have e0 : oo = off * sz := by
          rcases h3 with h3 | h3
          · subst h3; simp at hk
          · exact h3
        rw [List.getElem?_take_of_lt hk, List.getElem?_drop, Array.getElem?_toList] at hj
        rw [Addr.add_lit, hbl.cell, e0]; exact hj
      have hol : ((vals.toList.drop (off * sz)).take (n * sz)).length = n * sz := by simp; omega
      have hrun := run_append_grow (P := P) w t o.type e i z hu hi hz1 ⟨b, oo, none⟩ n c ((vals.toList.drop (off * sz)).take (n * sz)) (by rw [hsz]; exact hol) holds ad rows'.length c2 news (by rw [hsz]; exact hnl) hcells (by omega) (by omega) (growslice_fits (by omega) (by rw [hby]; exact hnb))
      refine wp_append_run ho ev ey hrun ?_
      obtain ⟨g1, g2, g3⟩ := drew_alloc w (((vals.toList.drop (off * sz)).take (n * sz)).toArray ++ news.toArray ++ Builtin.zeroCells z.cells (grownCap w (n + rows'.length) c e - (n + rows'.length))) e
      have hge := grownCap_ge w (n + rows'.length) c e
      have hcm := grownCap_le_maxLen w (n + rows'.length) c e (by omega)
      rw [hd]
      refine grow _ _ _ ((vals.toList.drop (off * sz)).take (n * sz)) hol (fun i j row x hi hj => ?_) g1 g2 ?_ ?_ hge hcm g3
      · rw [List.getElem?_drop] at hi
        obtain ⟨u, hu, hr⟩ := k4 (off + i) j row x hi hj
        have hil := (List.getElem?_eq_some_iff.1 hi).1
        have hjl := (List.getElem?_eq_some_iff.1 hj).1
        have e1 := hrl _ (List.mem_of_getElem? hi)
        have hk : i * sz + j < n * sz := by
          have : (i + 1) * sz ≤ n * sz := Nat.mul_le_mul_right _ (by omega)
          rw [Nat.add_mul] at this
          omega
        refine ⟨u, ?_, hr⟩
        rw [List.getElem?_take_of_lt hk, List.getElem?_drop, Array.getElem?_toList, ← hu]
        congr 1
        rw [Nat.add_mul]; omega
      · rw [Array.size_append, Array.size_append, List.size_toArray, List.size_toArray, hol, hnl, size_zeroCells, hzs, ← Nat.add_mul, ← Nat.add_mul]; congr 1; omega
      · have hlen : ((vals.toList.drop (off * sz)).take (n * sz) ++ news).length = (n + rows'.length) * sz := by rw [List.length_append, hol, hnl, Nat.add_mul]
        simp only [Array.toList_append, List.append_assoc]
        rw [← List.append_assoc, ← hlen]
        exact List.take_left
end
section
variable {k : Wk} {w0 : Org} {ops : Array Oper} {l : List Oper} {Q : St → Prop} {F F' : List (Nat × SV)} {H : List (Nat × VH)} {d t t' : Nat} {x y : Operand} {p : String} {af : Array Edge}
theorem v_lenslp {r off n sz e sz2 by_ : Nat} (hN : Nat.blt d k.N = true) (hx : (St.mk F H).ev x = .one (.slp r off n sz)) (ht : tyAt k.τ t' = .sl e sz2 by_) (hc : n ≤ 1000000000) (h : rg k w0 ops l Q ⟨(d, .one (.d (.int .i64 (n : Int)))) :: F, H⟩) : rg k w0 ops (⟨some d, .call { callee := .builtin .len, args := #[x], argTypes := #[t'] }, t, p, af, none⟩ :: l) Q ⟨F, H⟩ :=
  rgI (irg_e rfl rfl (nlt hN) (ope_len_slp rfl hx (tab_sl k.ok ht) (by unfold maxLen; omega)) (rgO h))
theorem v_iaslp {α : Type} {f : α → List Cell} {xs : List α} {r off n sz e e' by_ : Nat} {kk : IntKind} {m : Int} (hN : Nat.blt d k.N = true) (hx : (St.mk F H).ev x = .one (.slp r off n sz)) (hy : (St.mk F H).ev y = .one (.d (.int kk m))) (ht : tyAt k.τ t' = .sl e sz by_) (hH : getH H r = .arr e' sz (xs.map f)) (hc : 0 ≤ m ∧ m < (n : Int) ∧ (off : Int) + m < (xs.length : Int)) (h : rg k w0 ops l Q ⟨(d, .one (.el r ((off : Int) + m).toNat 0 sz)) :: F, H⟩) : rg k w0 ops (⟨some d, .indexAddr t' x y, t, p, af, none⟩ :: l) Q ⟨F, H⟩ := by
  have e0 : ((off : Int) + m).toNat = off + m.toNat := by omega
  rw [e0] at h
  exact rgI (irg_e rfl rfl (nlt hN) (ope_ia_slp rfl hx hy (tab_sl k.ok ht) hc.1 hc.2.1) (rgO h))
theorem v_slslp {r off n e sz by_ : Nat} {k1 : IntKind} {m : Int} (hN : Nat.blt d k.N = true) (hx : (St.mk F H).ev x = .one (.slp r off n sz)) (hy : (St.mk F H).ev y = .one (.d (.int k1 m))) (ht : tyAt k.τ t' = .sl e sz by_) (hc : 0 ≤ m ∧ m ≤ (n : Int)) (h : rg k w0 ops l Q ⟨(d, .one (.slp r (off + m.toNat) (n - m.toNat) sz)) :: F, H⟩) : rg k w0 ops (⟨some d, .slice t' x (some y) none none, t, p, af, none⟩ :: l) Q ⟨F, H⟩ :=
  rgI (irg_e rfl rfl (nlt hN) (ope_slp_l rfl hx hy (tab_sl k.ok ht) hc.1 hc.2) (rgO h))
def QueA {α : Type} (xs ys zs : List α) (off n o2 : Nat) : Prop := zs.drop o2 = xs.drop off ++ ys ∧ o2 + (n + ys.length) = zs.length ∧ zs.length ≤ xs.length + ys.length
theorem v_apq {α : Type} (f : α → List Cell) {xs ys : List α} {A : List α → Nat → Prop} {e sz by_ r off n : Nat} {zs : List Z} {rows' : List (List Cell)} (hN : Nat.blt d k.N = true) (ht : tyAt k.τ t' = .sl e sz by_) (hz : (tyAt k.τ e).zs = some zs) (hzl : zs.length = sz) (h0 : Nat.blt 0 sz = true) (hx : (St.mk F H).ev x = .one (.slp r off n sz)) (hr : getH H r = .arr e sz (xs.map f)) (hy : Src (St.mk F H) sz ((St.mk F H).ev y) rows') (hrow : rows' = ys.map f) (hne : Nat.blt 0 ys.length = true) (hfr : allH r H = true) (hF : killK r F (fun a => some a) = some F') (hb0 : Nat.blt 0 by_ = true) (hb1 : Nat.ble by_ 140000 = true)
    (hbd : off + n = xs.length ∧ xs.length + ys.length ≤ 1000000000) (hP : Hld (∀ ws o2, QueA xs ys ws off n o2 → A ws o2)) (h : ∀ ws o2, QueA xs ys ws off n o2 → Hld (A ws o2) → rg k w0 ops l Q ⟨(d, .one (.slp r o2 (n + ys.length) sz)) :: F', (r, .arr e sz (ws.map f)) :: H⟩) :
    rg k w0 ops (⟨some d, .call { callee := .builtin .append, args := #[x, y], argTypes := #[t', t'] }, t, p, af, none⟩ :: l) Q ⟨F, H⟩ := by
  subst hrow
  rw [killK_eq] at hF
  injection hF with hF
  subst hF
  have h1 := opr_append_q (P := k.P) (T := k.T) (N := k.N) (w0 := w0) (s := ⟨F, H⟩) (o := ⟨some d, .call { callee := .builtin .append, args := #[x, y], argTypes := #[t', t'] }, t, p, af, none⟩) k.ok rfl rfl (nlt hN) ht hz hzl (nlt h0) hx hr (by rw [List.length_map]; exact hbd.1) hy (by rw [List.length_map]; exact nlt hne) hfr (by
    rw [List.length_map, List.length_map]
    have := Nat.le_of_ble_eq_true hb1
    have h9 : (xs.length + ys.length) * by_ ≤ 1000000000 * 140000 := Nat.mul_le_mul hbd.2 this
    omega) (nlt hb0)
  have h2 : OpR k.P k.T k.N w0 ⟨F, H⟩ ⟨some d, .call { callee := .builtin .append, args := #[x, y], argTypes := #[t', t'] }, t, p, af, none⟩ (fun s' => ∃ ws o2, QueA xs ys ws off n o2 ∧ s' = ⟨(d, .one (.slp r o2 (n + ys.length) sz)) :: killF r F, (r, .arr e sz (ws.map f)) :: H⟩) := by
    intro g a w hs K Q' hK
    refine h1 g a w hs K Q' fun g' s' a' w' ⟨rows2, o2, hc, e0⟩ hs' => ?_
    rw [List.length_map] at e0
    rcases hc with ⟨e1, e2⟩ | ⟨e1, e2⟩
    · subst e2
      rw [← List.map_append] at e1
      subst e1
      refine hK g' s' a' w' ⟨xs ++ ys, o2, ⟨?_, ?_, ?_⟩, e0⟩ hs'
      · rw [List.drop_append_of_le_length (by omega)]
      · rw [List.length_append]; omega
      · rw [List.length_append]; omega
    · subst e2
      rw [← List.map_drop, ← List.map_append] at e1
      subst e1
      refine hK g' s' a' w' ⟨xs.drop off ++ ys, 0, ⟨by simp, ?_, ?_⟩, e0⟩ hs'
      · rw [List.length_append, List.length_drop]; omega
      · rw [List.length_append, List.length_drop]; omega
  exact rgI (irg_op rfl h2 fun s' ⟨ws, o2, hq, e0⟩ => by subst e0; exact rgO (h ws o2 hq ⟨hP.out ws o2 hq⟩))
end
end Go.Proofs.Ytcbppkfnfbdkhaa
