/- Code, on ideal states: regions, tests, loops. -/
import Derived.Test.YtbnmcdnkeipdhaaIvh
set_option linter.all false
namespace Go.Proofs.Ytbnmcdnkeipdhaa
open Go.RowKit

/-- A list of operations, in this order. -/
def irg (P : Program) (T : TypeId) (N : Nat) (w0 : Org) (ops : Array Oper) (l : List Oper) (Q : St → Prop) (s : St) : Prop :=
  ∀ g a w, Sim P T N w0 g s a w → ∀ Q' : Exit → Act → World → Prop, (∀ g' s' a' w', Q s' → Sim P T N w0 g' s' a' w' → Q' .normal a' w') → wpList P ops Q' l a w
/-- Code. -/
def iwp (P : Program) (T : TypeId) (N : Nat) (w0 : Org) (c : Code) (Q : Exit → St → Prop) (s : St) : Prop :=
  ∀ g a w, Sim P T N w0 g s a w → c.wp P (fun e a' w' => ∃ g' s', Q e s' ∧ Sim P T N w0 g' s' a' w') a w

section
variable {P : Program} {T : TypeId} {N : Nat} {w0 : Org} {g g' : Gh} {s : St} {a : Act} {w w' : World} {o : Oper} {ops : Array Oper} {rest : List Oper} {Q : St → Prop}
theorem irg_nil (h : Q s) : irg P T N w0 ops [] Q s := fun g a w hs Q' hQ => wpList_nil (hQ g s a w h hs)
theorem irg_op {R : St → Prop} (hg : o.guard = none) (h : OpR P T N w0 s o R) (k : ∀ s', R s' → irg P T N w0 ops rest Q s') : irg P T N w0 ops (o :: rest) Q s :=
  fun g a w hs Q' hQ => wpList_plain hg fun K hK => h g a w hs K Q' fun g' s' a' w' hR hs' => hK _ _ (k s' hR g' a' w' hs' Q' hQ)
theorem irg_h {s' : St} (hg : o.guard = none) (h : OpR P T N w0 s o (fun x => x = s')) (k : irg P T N w0 ops rest Q s') : irg P T N w0 ops (o :: rest) Q s :=
  irg_op hg h fun _ e => e ▸ k
theorem irg_q {post : SV → Prop} {d : Nat} (hg : o.guard = none) (hd : o.dst = some d) (hN : d < N) (h : OpQ P T N w0 s o post) (k : ∀ v, post v → irg P T N w0 ops rest Q (s.put d v)) : irg P T N w0 ops (o :: rest) Q s :=
  irg_op hg (h.r fun x hx => by rw [hd] at hx; cases hx; exact hN) fun s' ⟨v, hv, e⟩ => by subst e; rw [hd]; exact k v hv
theorem irg_e {v : SV} {d : Nat} (hg : o.guard = none) (hd : o.dst = some d) (hN : d < N) (h : OpE P T N w0 s o v) (k : irg P T N w0 ops rest Q (s.put d v)) : irg P T N w0 ops (o :: rest) Q s :=
  irg_q hg hd hN h fun _ e => e ▸ k
/-! guards -/
theorem yielded_of (hs : Sim P T N w0 g s a w) {j t : Nat} {c : Bool} (hj : (ops[j]?).bind (·.dst) = some t) (hv : getF s.F t = .one (.d (.bool c))) : yielded ops a.tmps j = some c := by
  have h := hs.hF t
  rw [hv] at h
  have e := h.bool_inv
  unfold yielded
  rw [hj]
  rw [Array.getD_eq_getD_getElem?] at e
  cases ht : a.tmps[t]? with
  | none => rw [ht] at e; simp [undef] at e
  | some v => rw [ht] at e; simp at e; subst e; simp [ht]
theorem irg_gop {R : St → Prop} {j t : Nat} {want c : Bool} (hg : o.guard = some (j, want)) (hj : (ops[j]?).bind (·.dst) = some t) (hv : getF s.F t = .one (.d (.bool c))) (hc : c = want)
    (h : OpR P T N w0 s o R) (k : ∀ s', R s' → irg P T N w0 ops rest Q s') : irg P T N w0 ops (o :: rest) Q s :=
  fun g a w hs Q' hQ => wpList_step fun K hK => by
    have hy := yielded_of hs hj hv
    rw [if_pos (by simp [Region.wanted, hg, hy, hc])]
    exact h g a w hs K Q' fun g' s' a' w' hR hs' => hK _ _ (k s' hR g' a' w' hs' Q' hQ)
theorem irg_gq {post : SV → Prop} {d j t : Nat} {want c : Bool} (hg : o.guard = some (j, want)) (hj : (ops[j]?).bind (·.dst) = some t) (hv : getF s.F t = .one (.d (.bool c))) (hc : c = want)
    (hd : o.dst = some d) (hN : d < N) (h : OpQ P T N w0 s o post) (k : ∀ v, post v → irg P T N w0 ops rest Q (s.put d v)) : irg P T N w0 ops (o :: rest) Q s :=
  irg_gop hg hj hv hc (h.r fun x hx => by rw [hd] at hx; cases hx; exact hN) fun s' ⟨v, hv, e⟩ => by subst e; rw [hd]; exact k v hv
theorem irg_ge {v : SV} {d j t : Nat} {want c : Bool} (hg : o.guard = some (j, want)) (hj : (ops[j]?).bind (·.dst) = some t) (hv : getF s.F t = .one (.d (.bool c))) (hc : c = want)
    (hd : o.dst = some d) (hN : d < N) (h : OpE P T N w0 s o v) (k : irg P T N w0 ops rest Q (s.put d v)) : irg P T N w0 ops (o :: rest) Q s :=
  irg_gq hg hj hv hc hd hN h fun _ e => e ▸ k
theorem irg_gno {d j t : Nat} {want c : Bool} (hg : o.guard = some (j, want)) (hj : (ops[j]?).bind (·.dst) = some t) (hv : getF s.F t = .one (.d (.bool c))) (hc : c = !want)
    (hd : o.dst = some d) (hN : d < N) (k : irg P T N w0 ops rest Q (s.put d (.tup []))) : irg P T N w0 ops (o :: rest) Q s :=
  fun g a w hs Q' hQ => wpList_step fun K hK => by
    have hy := yielded_of hs hj hv
    rw [if_neg (by subst hc; cases want <;> simp [Region.wanted, hg, hy])]
    rw [hd]
    exact hK _ _ (k g _ w (hs.putZ hN) Q' hQ)
theorem yielded_z (hs : Sim P T N w0 g s a w) {j t : Nat} (hj : (ops[j]?).bind (·.dst) = some t) (hv : getF s.F t = .tup []) : yielded ops a.tmps j = none := by
  have h := hs.hF t
  rw [hv] at h
  unfold yielded
  rw [hj]
  rw [Array.getD_eq_getD_getElem?] at h
  cases ht : a.tmps[t]? with
  | none => simp [ht]
  | some v =>
    rw [ht] at h
    simp only [Option.getD_some] at h
    cases h with
    | tup vs ss hs h => simp [ht]
theorem irg_gz {d j t : Nat} {want : Bool} (hg : o.guard = some (j, want)) (hj : (ops[j]?).bind (·.dst) = some t) (hv : getF s.F t = .tup [])
    (hd : o.dst = some d) (hN : d < N) (k : irg P T N w0 ops rest Q (s.put d (.tup []))) : irg P T N w0 ops (o :: rest) Q s :=
  fun g a w hs Q' hQ => wpList_step fun K hK => by
    have hy := yielded_z hs hj hv
    rw [if_neg (by simp [Region.wanted, hg, hy])]
    rw [hd]
    exact hK _ _ (k g _ w (hs.putZ hN) Q' hQ)
theorem irg_split (c : Bool) (h1 : c = true → irg P T N w0 ops rest Q s) (h2 : c = false → irg P T N w0 ops rest Q s) : irg P T N w0 ops rest Q s := by
  cases h : c
  · exact h2 h
  · exact h1 h
end

/-- Behind x comes y. -/
def IThen (P : Program) (T : TypeId) (N : Nat) (w0 : Org) (y : Code) (Q : Exit → St → Prop) : Exit → St → Prop
  | .normal, s => iwp P T N w0 y Q s
  | e, s => Q e s
def IBlock (id : Nat) (Q : Exit → St → Prop) : Exit → St → Prop
  | .exit i, s => if i = id then Q .normal s else Q (.exit i) s
  | e, s => Q e s
/-- A round of a loop is over. -/
def IRound (Q : Exit → St → Prop) (R : St → Prop) : Exit → St → Prop
  | .normal, s => R s
  | e, s => Q e s

section
variable {P : Program} {T : TypeId} {N : Nat} {w0 : Org} {g g' : Gh} {s : St} {a : Act} {w w' : World} {Q : Exit → St → Prop}
theorem iwp_skip (h : Q .normal s) : iwp P T N w0 .skip Q s := fun g a w hs => wp_skip ⟨g, s, h, hs⟩
theorem iwp_exit {id : Nat} (h : Q (.exit id) s) : iwp P T N w0 (.exit id) Q s := fun g a w hs => wp_exit ⟨g, s, h, hs⟩
theorem iwp_ret (h : Q .ret s) : iwp P T N w0 .ret Q s := fun g a w hs => wp_ret ⟨g, s, h, hs⟩
theorem iwp_seq {x y : Code} (h : iwp P T N w0 x (IThen P T N w0 y Q) s) : iwp P T N w0 (.seq x y) Q s := fun g a w hs =>
  wp_seq (wp_mono (h g a w hs) fun e a' w' ⟨g', s', hq, hs'⟩ => by
    cases e <;> first | exact hq g' a' w' hs' | exact ⟨g', s', hq, hs'⟩)
theorem ithen_n {y : Code} (h : iwp P T N w0 y Q s) : IThen P T N w0 y Q .normal s := h
theorem ithen_r {y : Code} (h : Q .ret s) : IThen P T N w0 y Q .ret s := h
theorem ithen_e {y : Code} {i : Nat} (h : Q (.exit i) s) : IThen P T N w0 y Q (.exit i) s := h
theorem iblock_n {id : Nat} (h : Q .normal s) : IBlock id Q .normal s := h
theorem iblock_r {id : Nat} (h : Q .ret s) : IBlock id Q .ret s := h
theorem iblock_e {id : Nat} (h : Q .normal s) : IBlock id Q (.exit id) s := by simp [IBlock, h]
theorem iblock_o {id i : Nat} (hn : Nat.beq i id = false) (h : Q (.exit i) s) : IBlock id Q (.exit i) s := by
  have : i ≠ id := fun e => by subst e; simp at hn
  simp [IBlock, this, h]
theorem iround_n {R : St → Prop} (h : R s) : IRound Q R .normal s := h
theorem iround_r {R : St → Prop} (h : Q .ret s) : IRound Q R .ret s := h
theorem iround_e {R : St → Prop} {i : Nat} (h : Q (.exit i) s) : IRound Q R (.exit i) s := h
theorem iwp_cond_t {c : Operand} {x y : Code} (hc : s.ev c = .one (.d (.bool true))) (h : iwp P T N w0 x Q s) : iwp P T N w0 (.cond c x y) Q s := fun g a w hs =>
  wp_cond (t := true) (by have := hs.ev c; rw [hc] at this; exact this.bool_inv) (h g a w hs)
theorem iwp_cond_f {c : Operand} {x y : Code} (hc : s.ev c = .one (.d (.bool false))) (h : iwp P T N w0 y Q s) : iwp P T N w0 (.cond c x y) Q s := fun g a w hs =>
  wp_cond (t := false) (by have := hs.ev c; rw [hc] at this; exact this.bool_inv) (h g a w hs)
theorem iwp_cond {c : Operand} {x y : Code} {b : Bool} (hc : s.ev c = .one (.d (.bool b))) (h1 : b = true → iwp P T N w0 x Q s) (h2 : b = false → iwp P T N w0 y Q s) : iwp P T N w0 (.cond c x y) Q s := by
  cases hb : b
  · subst hb; exact iwp_cond_f hc (h2 rfl)
  · subst hb; exact iwp_cond_t hc (h1 rfl)
theorem iwp_block {id : Nat} {c : Code} (h : iwp P T N w0 c (IBlock id Q) s) : iwp P T N w0 (.block id c) Q s := fun g a w hs =>
  wp_block (wp_mono (h g a w hs) fun e a' w' ⟨g', s', hq, hs'⟩ => by
    cases e with
    | exit i =>
      simp only [IBlock] at hq
      simp only [Exit.inBlock]
      split
      · rename_i he; rw [if_pos he] at hq; exact ⟨g', s', hq, hs'⟩
      · rename_i he; rw [if_neg he] at hq; exact ⟨g', s', hq, hs'⟩
    | _ => exact ⟨g', s', hq, hs'⟩)
theorem iwp_region {id : Nat} {l : List Oper} (h : irg P T N w0 l.toArray l (Q .normal) s) : iwp P T N w0 (.region id l.toArray false) Q s := fun g a w hs =>
  wp_region_lit (h g a w hs _ fun g' s' a' w' hq hs' => ⟨g', s', hq, hs'⟩)
theorem iwp_mono {c : Code} {Q' : Exit → St → Prop} (h : iwp P T N w0 c Q s) (hq : ∀ e s, Q e s → Q' e s) : iwp P T N w0 c Q' s := fun g a w hs =>
  wp_mono (h g a w hs) fun e a' w' ⟨g', s', h1, h2⟩ => ⟨g', s', hq e s' h1, h2⟩
end

/-! what may be forgotten -/
inductive CVle (vs : List Nat) : CV → CV → Prop where
  | u (c : CV) : CVle vs c .u
  | d {x y : Cell} (h : x = y) : CVle vs (.d x) (.d y)
  | nil : CVle vs .nil .nil
  | nild : CVle vs .nil (.d (.list []))
  | nils {r sz : Nat} (h : vs.contains r = true) : CVle vs .nil (.sl r 0 sz)
  | ref {r o o' : Nat} (h : vs.contains r = false) (ho : o = o') : CVle vs (.ref r o) (.ref r o')
  | sl {r n n' sz : Nat} (h : vs.contains r = false) (hn : n = n') : CVle vs (.sl r n sz) (.sl r n' sz)
  | el {r i i' j j' sz : Nat} (h : vs.contains r = false) (hi : i = i') (hj : j = j') : CVle vs (.el r i j sz) (.el r i' j' sz)
  | slp {r o n sz : Nat} (h : vs.contains r = false) : CVle vs (.slp r o n sz) (.slp r o n sz)
  | rp {cs : List CV} (h : ∀ r, vs.contains r = true → CV.hasL r cs = false) : CVle vs (.rp cs) (.rp cs)
  | clo {f : FuncId} {cs : List CV} (h : ∀ r, vs.contains r = true → CV.hasL r cs = false) : CVle vs (.clo f cs) (.clo f cs)
  | fn (p : List DV → Option Cell) : CVle vs (.fn p) (.fn p)
  | tape : CVle vs .tape .tape
inductive CVleL (vs : List Nat) : List CV → List CV → Prop where
  | nil : CVleL vs [] []
  | cons {c c' : CV} {l l' : List CV} (h : CVle vs c c') (hl : CVleL vs l l') : CVleL vs (c :: l) (c' :: l')
inductive SVle (vs : List Nat) : SV → SV → Prop where
  | u (v : SV) : SVle vs v .u
  | one {c c' : CV} (h : CVle vs c c') : SVle vs (.one c) (.one c')
  | agg {l l' : List CV} (h : CVleL vs l l') : SVle vs (.agg l) (.agg l')
inductive VHle (vs : List Nat) (r : Nat) : VH → VH → Prop where
  | gone (h : VH) : VHle vs r h .gone
  | blk {t : TypeId} {cs cs' : List CV} (h : vs.contains r = false) (hl : CVleL vs cs cs') : VHle vs r (.blk t cs) (.blk t cs')
  | arr {e : TypeId} {sz : Nat} {rows rows' : List (List Cell)} (h : vs.contains r = false) (hr : rows = rows') : VHle vs r (.arr e sz rows) (.arr e sz rows')
  | virt {e : TypeId} {sz : Nat} {h0 : VH} (h : vs.contains r = true) : VHle vs r h0 (.arr e sz [])
inductive FitF (vs : List Nat) (s : St) : List (Nat × SV) → Prop where
  | nil : FitF vs s []
  | cons {x : Nat} {v : SV} {l : List (Nat × SV)} (h : SVle vs (getF s.F x) v) (hl : FitF vs s l) : FitF vs s ((x, v) :: l)
inductive FitH (vs : List Nat) (s : St) : List (Nat × VH) → Prop where
  | nil : FitH vs s []
  | cons {x : Nat} {v : VH} {l : List (Nat × VH)} (h : VHle vs x (getH s.H x) v) (hl : FitH vs s l) : FitH vs s ((x, v) :: l)
/-- The state s is one of s'. -/
structure Fits (vs : List Nat) (s s' : St) : Prop where
  F : FitF vs s s'.F
  H : FitH vs s s'.H

section
variable {P : Program} {T : TypeId} {N : Nat} {w0 : Org} {g g' : Gh} {s s' : St} {a : Act} {w w' : World} {Q : Exit → St → Prop} {vs : List Nat}
def Gh.virt (g : Gh) (vs : List Nat) : Gh := ⟨fun r => if vs.contains r = true then none else g.β r, g.κ, g.Rd, g.tp, g.tl⟩
theorem CVle.rep {v : Value} {c c' : CV} (h : CVle vs c c') (hv : RepCV P g w v c) : RepCV P (g.virt vs) w v c' := by
  have hno : ∀ r, vs.contains r = false → (g.virt vs).β r = g.β r := fun r hr => by simp only [Gh.virt, hr]; simp
  cases h with
  | u c => exact .u hv.one
  | d h => subst h; cases hv; rename_i h; exact .d h
  | nil => cases hv; exact .nil
  | nild => cases hv; exact .d (RepCV.unD (g := g) (P := P) (c := .nil) .nil rfl)
  | nils h => cases hv; exact .slv _ (by simp only [Gh.virt, h]; simp)
  | ref h ho => subst ho; obtain ⟨b, hb, rfl⟩ := hv.ref_inv; exact .ref _ ((hno _ h).trans hb)
  | @sl r n n' sz h hn =>
    subst hn
    rcases hv.sl_inv with ⟨rfl, rfl, hb⟩ | ⟨b, hb, h1, h2, rfl⟩
    · exact .slv _ ((hno _ h).trans hb)
    · exact RepCV.sl (g := g.virt vs) _ _ ((hno _ h).trans hb) h1 h2
  | @slp r o n sz h => exact hv.move (g' := g.virt vs) (Fut.refl _ _) (fun _ h => h) fun r' hr => (by
      have e : r = r' := Nat.eq_of_beq_eq_true (by simpa only [CV.has] using hr)
      subst e
      exact ⟨hno r h, rfl⟩)
  | el h hi hj => subst hi hj; obtain ⟨b, hb, rfl⟩ := hv.el_inv; exact .el _ _ _ ((hno _ h).trans hb)
  | rp h => exact hv.move (g' := g.virt vs) (Fut.refl _ _) (fun _ h => h) fun r hr => ⟨(by
      cases hc : vs.contains r with
      | false => exact hno r hc
      | true => simp only [CV.has] at hr; rw [h r hc] at hr; cases hr), rfl⟩
  | clo h => exact hv.move (g' := g.virt vs) (Fut.refl _ _) (fun _ h => h) fun r hr => ⟨(by
      cases hc : vs.contains r with
      | false => exact hno r hc
      | true => simp only [CV.has] at hr; rw [h r hc] at hr; cases hr), rfl⟩
  | fn p => cases hv; rename_i h; exact .fn h
  | tape => cases hv; rename_i h; exact .tape h
theorem CVleL.rep {cs cs' : List CV} (h : CVleL vs cs cs') : cs.length = cs'.length ∧ ∀ (j : Nat) (c' : CV), cs'[j]? = some c' → ∃ c, cs[j]? = some c ∧ CVle vs c c' := by
  induction h with
  | nil => simp
  | cons h hl ih =>
    refine ⟨by simp [ih.1], fun j c' hj => ?_⟩
    cases j with
    | zero => simp at hj; subst hj; exact ⟨_, rfl, h⟩
    | succ j => simpa using ih.2 j c' (by simpa using hj)
theorem SVle.rep {v : Value} {c c' : SV} (h : SVle vs c c') (hv : RepSV P g w v c) : RepSV P (g.virt vs) w v c' := by
  cases h with
  | u v => exact .u _
  | one h => exact .one (h.rep hv.one_inv)
  | agg h =>
    obtain ⟨arr, rfl, hsz, hr⟩ := hv.agg_inv
    obtain ⟨k1, k2⟩ := h.rep
    refine .agg arr _ (by omega) fun j v c' h1 h2 => ?_
    obtain ⟨c, hc, hle⟩ := k2 j c' h2
    exact hle.rep (hr j v c h1 hc)
theorem FitF.get {l : List (Nat × SV)} (h : FitF vs s l) (x : Nat) : SVle vs (getF s.F x) (getF l x) := by
  induction h with
  | nil => exact .u _
  | @cons y v l h hl ih =>
    simp only [getF, beq_eq]
    by_cases e : y = x
    · subst e; simpa using h
    · simpa [e] using ih
theorem FitH.get {l : List (Nat × VH)} (h : FitH vs s l) (x : Nat) : VHle vs x (getH s.H x) (getH l x) := by
  induction h with
  | nil => exact .gone _
  | @cons y v l h hl ih =>
    simp only [getH, beq_eq]
    by_cases e : y = x
    · subst e; simpa using h
    · simpa [e] using ih
theorem Sim.fits (hs : Sim P T N w0 g s a w) (h : Fits vs s s') : Sim P T N w0 (g.virt vs) s' a w := by
  have key : ∀ r b, live s'.H r → (g.virt vs).β r = some b → live s.H r ∧ g.β r = some b := fun r b hl hb => by
    have hk := h.H.get r
    unfold live at hl ⊢
    cases hc : vs.contains r with
    | true => simp only [Gh.virt, hc] at hb; simp at hb
    | false =>
      simp only [Gh.virt, hc] at hb
      refine ⟨?_, by simpa using hb⟩
      generalize getH s'.H r = h1 at hk hl
      generalize getH s.H r = h0 at hk
      cases hk with
      | gone => cases hl
      | blk h1 h2 => rfl
      | arr h1 h2 => rfl
      | virt h1 => rw [hc] at h1; cases h1
  refine ⟨⟨fun r r' b h1 h2 h3 h4 => ?_, fun r b h1 h2 => ?_, fun b o hr => ?_, hs.gi.keep, hs.gi.tape, ⟨hs.gi.org.rd0, hs.gi.org.new0, hs.gi.org.tp0, hs.gi.org.tpo⟩⟩, hs.dn, hs.nt, fun x => (h.F.get x).rep (hs.hF x), fun r => ?_⟩
  · obtain ⟨a1, a2⟩ := key r b h1 h3
    obtain ⟨b1, b2⟩ := key r' b h2 h4
    exact hs.gi.inj r r' b a1 b1 a2 b2
  · obtain ⟨a1, a2⟩ := key r b h1 h2
    exact hs.gi.bd r b a1 a2
  · obtain ⟨a1, a2, a3⟩ := hs.gi.rd b o hr
    exact ⟨a1, a2, fun r hl hb => by
      obtain ⟨q1, q2⟩ := key r b hl hb
      exact a3 r q1 q2⟩
  · have hk := h.H.get r
    have hh := hs.hH r
    generalize getH s'.H r = h1 at hk
    generalize getH s.H r = h0 at hk hh
    cases hk with
    | gone => trivial
    | blk h1 h2 =>
      obtain ⟨b, vals, q1, q2, q3, q4⟩ := hh
      obtain ⟨k1, k2⟩ := h2.rep
      refine ⟨b, vals, by simp only [Gh.virt, h1]; simpa using q1, q2, by omega, fun j v c' hv hc => ?_⟩
      obtain ⟨c, hc2, hle⟩ := k2 j c' hc
      exact hle.rep (q4 j v c hv hc2)
    | arr h1 h2 =>
      subst h2
      obtain ⟨q0, q⟩ := hh
      refine ⟨q0, ?_⟩
      rcases q with ⟨q1, q2⟩ | ⟨b, vals, q1, q2⟩
      · exact .inl ⟨by simp only [Gh.virt, h1]; simpa using q1, q2⟩
      · exact .inr ⟨b, vals, by simp only [Gh.virt, h1]; simpa using q1, q2⟩
    | virt h1 => exact ⟨by simp, .inl ⟨by simp only [Gh.virt, h1]; simp, rfl⟩⟩
theorem iwp_fits {c : Code} (h : Fits vs s s') (hq : iwp P T N w0 c Q s') : iwp P T N w0 c Q s := fun g a w hs => hq _ a w (hs.fits h)
theorem iwp_loop {ι : Type} {c : Code} (I : ι → St) (p : ι → Prop) (μ : ι → Nat) (vs : List Nat) (i0 : ι) (hp : p i0) (h0 : Fits vs s (I i0))
    (round : ∀ i, p i → iwp P T N w0 c (IRound Q (fun s' => ∃ i', p i' ∧ μ i' < μ i ∧ ∃ vs', Fits vs' s' (I i'))) (I i)) : iwp P T N w0 (.loop c) Q s := by
  intro g a w hs b k cs
  have key : ∀ n i g a w, p i → Sim P T N w0 g (I i) a w → μ i = n →
      ∃ e a' w', (∃ g' s', Q e s' ∧ Sim P T N w0 g' s' a' w') ∧ Arrives P (lone (b.at a (.code c :: .inLoop c :: k)) cs w) b k cs e a' w' := by
    intro n
    induction n using Nat.strongRecOn with
    | _ n ih =>
      intro i g a w hp hs hn
      obtain ⟨e, a₁, w₁, ⟨g', s', hq, hs'⟩, harr⟩ := round i hp g a w hs b (.inLoop c :: k) cs
      cases e with
      | normal =>
        obtain ⟨i', hp', hlt, vs', hfit⟩ := hq
        obtain ⟨e₂, a₂, w₂, hq₂, harr₂⟩ := ih (μ i') (hn ▸ hlt) i' _ a₁ w₁ hp' (hs'.fits hfit) rfl
        exact ⟨e₂, a₂, w₂, hq₂, .of_steps (Steps.trans harr (.one step_inLoop)) harr₂⟩
      | exit id => exact ⟨_, a₁, w₁, ⟨g', s', hq, hs'⟩, .pass (x := .inLoop c) rfl (fun _ _ => .inl (by simp)) harr⟩
      | goto l => exact ⟨_, a₁, w₁, ⟨g', s', hq, hs'⟩, .pass (x := .inLoop c) rfl (fun _ _ => .inl (by simp)) harr⟩
      | ret => exact ⟨_, a₁, w₁, ⟨g', s', hq, hs'⟩, .pass (x := .inLoop c) rfl (fun _ _ => .inl (by simp)) harr⟩
      | panic ch => exact ⟨_, a₁, w₁, ⟨g', s', hq, hs'⟩, .pass (x := .inLoop c) rfl (fun _ _ => .inl (by simp)) harr⟩
      | outgrown => exact ⟨_, a₁, w₁, ⟨g', s', hq, hs'⟩, .pass (x := .inLoop c) rfl (fun _ _ => .inl (by simp)) harr⟩
  obtain ⟨e, a', w', hq, harr⟩ := key _ i0 _ a w hp (hs.fits h0) rfl
  exact ⟨e, a', w', hq, .of_steps (.one step_loop) harr⟩
/-- Ways meet again: what comes behind is shown once. -/
theorem iwp_meet {ι : Type} {x y : Code} (J : ι → St) (p : ι → Prop) (h : iwp P T N w0 x (IRound Q (fun s' => ∃ i, p i ∧ ∃ vs', Fits vs' s' (J i))) s) (hy : ∀ i, p i → iwp P T N w0 y Q (J i)) : iwp P T N w0 (.seq x y) Q s :=
  iwp_seq (iwp_mono h fun e s' hq => by
    cases e <;> first | exact hq | (obtain ⟨i, hp, vs', hf⟩ := hq; exact iwp_fits hf (hy i hp)))
end
end Go.Proofs.Ytbnmcdnkeipdhaa
