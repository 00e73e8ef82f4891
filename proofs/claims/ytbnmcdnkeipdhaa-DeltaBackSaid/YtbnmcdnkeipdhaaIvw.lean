/- Conditions: walks that gather what is to be shown. -/
import Derived.Test.YtbnmcdnkeipdhaaWy
set_option linter.all false
namespace Go.Proofs.Ytbnmcdnkeipdhaa
open Go.RowKit Go.Shelf
/-- A check, and what is left to show. -/
structure Chk (C P : Prop) : Prop where
  c : C
  p : P
/-- Two ways. -/
structure Brn (b : Bool) (P Q : Prop) : Prop where
  t : b = true → P
  f : b = false → Q
/-- What is still to show. -/
structure Hld (P : Prop) : Prop where
  out : P
theorem chk_c {C P : Prop} (h : Hld (Chk C P)) : C := h.out.c
theorem chk_p {C P : Prop} (h : Hld (Chk C P)) : Hld P := ⟨h.out.p⟩
def mkV {X : Prop} {P : Prop} (h : Hld P → X) : Σ' P : Prop, (P → X) := ⟨P, fun p => h ⟨p⟩⟩
/-- One of many. -/
def ND {α : Type} (φ : α → Prop) (g : α → SV) (v : SV) : Prop := ∃ x, φ x ∧ v = g x
def ICp (pre : Prop) (f : Nat) (args : List SV) (post : SV → Prop) : Prop := pre → ICt f args post
theorem ICp.of {pre : Prop} {f : Nat} {args : List SV} {post : SV → Prop} (h : pre → ICt f args post) : ICp pre f args post := h
/-- The element at a number. -/
def gt {α : Type} [Inhabited α] (xs : List α) (i : Int) : α := xs.getD i.toNat default
theorem gt_eq {α : Type} [Inhabited α] {xs : List α} {i : Int} (h : i.toNat < xs.length) : gt xs i = xs[i.toNat] := by
  unfold gt; simp [h]
theorem gt_nat {α : Type} [Inhabited α] {xs : List α} {i : Nat} (h : i < xs.length) : gt xs (i : Int) = xs[i] := by
  unfold gt; simp [h]
theorem gt_mem {α : Type} [Inhabited α] {xs : List α} {i : Int} (h0 : 0 ≤ i) (h : i < xs.length) : gt xs i ∈ xs := by
  rw [gt_eq (by omega)]; exact List.getElem_mem _
theorem gt_row {α : Type} [Inhabited α] {f : α → List Cell} {xs : List α} {m : Int} (h0 : 0 ≤ m) (h : m < xs.length) : (xs.map f)[m.toNat]? = some (f (gt xs m)) := by
  rw [List.getElem?_map, List.getElem?_eq_getElem (by omega), gt_eq (by omega)]; rfl
abbrev InI (z : Int) : Prop := -9223372036854775808 ≤ z ∧ z ≤ 9223372036854775807
theorem wr_i64 {z : Int} (h : InI z) : IntKind.i64.wrap z = z := Go.IntWalk.i64_in _ h
abbrev Below1 (n : Nat) : Prop := n ≤ 1000000000
theorem row_one {α : Type} {f : α → List Cell} {row : List Cell} {x : α} (h : row = f x) : [row] = [x].map f := by subst h; rfl
theorem row_cons {α : Type} {f : α → List Cell} {row : List Cell} {rows : List (List Cell)} {x : α} {xs : List α} (h : row = f x) (hs : rows = xs.map f) : row :: rows = (x :: xs).map f := by subst h hs; rfl
theorem irow_mk (a : Int) : [Cell.int .i64 a] = irow a := rfl
theorem row_nil {α : Type} {f : α → List Cell} : ([] : List (List Cell)) = ([] : List α).map f := rfl
section
variable {k : Wk} {w0 : Org} {s : St} {Q : Exit → St → Prop} {P1 P2 : Prop}
theorem v_if {c : Operand} {x y : Code} {b : Bool} (hc : s.ev c = .one (.d (.bool b))) (hP : Hld (Brn b P1 P2)) (h1 : b = true → Hld P1 → wk k w0 x Q s) (h2 : b = false → Hld P2 → wk k w0 y Q s) : wk k w0 (.cond c x y) Q s :=
  c_if hc (fun e => h1 e ⟨hP.out.t e⟩) (fun e => h2 e ⟨hP.out.f e⟩)
theorem v_loopat {c : Code} (h : wk k w0 (.loop c) Q s) : wk k w0 (.loop c) Q s := h
theorem v_rgat {i : Nat} {l : List Oper} (h : wk k w0 (.region i l.toArray true) Q s) : wk k w0 (.region i l.toArray true) Q s := h
end
section
variable {k : Wk} {w0 : Org} {ops : Array Oper} {l : List Oper} {Q : St → Prop} {F F' : List (Nat × SV)} {H H' : List (Nat × VH)} {d t t' ty : Nat} {x y : Operand} {p : String} {af : Array Edge} {P1 P2 : Prop} {s : St} {gd : Option (Nat × Bool)}
theorem v_gs {o : Op} {dst : Option Nat} {j q : Nat} {w : Bool} (c : Bool) (hj : (ops[j]?).bind (·.dst) = some q) (hv : getF F q = .one (.d (.bool c))) (hP : Hld (Brn c P1 P2)) (h1 : c = true → Hld P1 → rg k w0 ops (⟨dst, o, t, p, af, some (j, w)⟩ :: l) Q ⟨F, H⟩) (h2 : c = false → Hld P2 → rg k w0 ops (⟨dst, o, t, p, af, some (j, w)⟩ :: l) Q ⟨F, H⟩) : rg k w0 ops (⟨dst, o, t, p, af, some (j, w)⟩ :: l) Q ⟨F, H⟩ :=
  j_gs c hj hv (fun e => h1 e ⟨hP.out.t e⟩) (fun e => h2 e ⟨hP.out.f e⟩)
theorem v_pk {c : Operand} {b : Bool} (hc : (St.mk F H).ev c = .one (.d (.bool b))) (hP : Hld (Brn b P1 P2)) (h1 : b = true → Hld P1 → rg k w0 ops (⟨some d, .pick c x y, t, p, af, none⟩ :: l) Q ⟨F, H⟩) (h2 : b = false → Hld P2 → rg k w0 ops (⟨some d, .pick c x y, t, p, af, none⟩ :: l) Q ⟨F, H⟩) : rg k w0 ops (⟨some d, .pick c x y, t, p, af, none⟩ :: l) Q ⟨F, H⟩ := by
  cases b
  · exact h2 rfl ⟨hP.out.f rfl⟩
  · exact h1 rfl ⟨hP.out.t rfl⟩
/-! one element -/
theorem v_ia {α : Type} {f : α → List Cell} {xs : List α} {e sz by_ : Nat} {kk : IntKind} {m : Int} (hN : Nat.blt d k.N = true) (hx : (St.mk F H).ev x = .one (.d (.list (xs.map f)))) (hy : (St.mk F H).ev y = .one (.d (.int kk m))) (ht : tyAt k.τ t' = .sl e sz by_) (inst : Inhabited α) (hl : (f (gt xs m)).length = sz) (hz : Nat.blt 0 sz = true) (hc : 0 ≤ m ∧ m < (xs.length : Int)) (h : rg k w0 ops l Q ⟨(d, (.one (.rp ((f (gt xs m)).map .d)))) :: F, H⟩) : rg k w0 ops (⟨some d, .indexAddr t' x y, t, p, af, none⟩ :: l) Q ⟨F, H⟩ :=
  j_ia hN hx hy ht hc.1 rfl (gt_row hc.1 hc.2) hl hz h
theorem v_iasl {r n e sz by_ : Nat} {kk : IntKind} {m : Int} (hN : Nat.blt d k.N = true) (hx : (St.mk F H).ev x = .one (.sl r n sz)) (hy : (St.mk F H).ev y = .one (.d (.int kk m))) (ht : tyAt k.τ t' = .sl e sz by_) (hc : 0 ≤ m ∧ m < (n : Int)) (h : rg k w0 ops l Q ⟨(d, (.one (.el r m.toNat 0 sz))) :: F, H⟩) : rg k w0 ops (⟨some d, .indexAddr t' x y, t, p, af, none⟩ :: l) Q ⟨F, H⟩ :=
  j_ia_sl hN hx hy ht hc.1 hc.2 rfl h
theorem f_ia {α : Type} {f : α → List Cell} {xs : List α} {e sz by_ : Nat} {kk : IntKind} {m : Int} (hx : s.ev x = .one (.d (.list (xs.map f)))) (hy : s.ev y = .one (.d (.int kk m))) (ht : tyAt k.τ t' = .sl e sz by_) (inst : Inhabited α) (hl : (f (gt xs m)).length = sz) (hz : Nat.blt 0 sz = true) (hc : 0 ≤ m ∧ m < (xs.length : Int)) : OpE k.P k.T k.N w0 s ⟨some d, .indexAddr t' x y, t, p, af, gd⟩ (.one (.rp ((f (gt xs m)).map .d))) :=
  e_ia hx hy ht hc.1 rfl (gt_row hc.1 hc.2) hl hz
theorem f_iasl {r n e sz by_ : Nat} {kk : IntKind} {m : Int} (hx : s.ev x = .one (.sl r n sz)) (hy : s.ev y = .one (.d (.int kk m))) (ht : tyAt k.τ t' = .sl e sz by_) (hc : 0 ≤ m ∧ m < (n : Int)) : OpE k.P k.T k.N w0 s ⟨some d, .indexAddr t' x y, t, p, af, gd⟩ (.one (.el r m.toNat 0 sz)) :=
  e_ia_sl hx hy ht hc.1 hc.2 rfl
/-! lists of the call's own -/
theorem v_ste {α : Type} {f : α → List Cell} {xs : List α} {x' : α} {r j sz n e : Nat} {m : Int} {vs : List CV} {ds : List Cell} (hx : (St.mk F H).ev x = .one (.el r m.toNat j sz)) (hH : getH H r = .arr e sz (xs.map f)) (inst : Inhabited α) (hn : (tyAt k.τ t').size = some n) (hy : ((St.mk F H).ev y).cells = some vs) (hds : unDL vs = some ds) (hl : ds.length = n) (hle : Nat.ble (j + n) (f (gt xs m)).length = true) (hr : listK (setSegC (f (gt xs m)) j ds) some = some (f x')) (hc : 0 ≤ m ∧ m < (xs.length : Int))
    (h : rg k w0 ops l Q ⟨F, (r, .arr e sz ((xs.set m.toNat x').map f)) :: H⟩) : rg k w0 ops (⟨none, .store t' x y, t, p, af, none⟩ :: l) Q ⟨F, H⟩ := by
  refine j_ste hx hH hn hy hds hl (gt_row hc.1 hc.2) (Nat.le_of_ble_eq_true hle) hr ?_
  rw [List.map_set] at h
  exact h
theorem v_ap0 {α : Type} (f : α → List Cell) {ys : List α} {e sz by_ : Nat} {zs : List Z} {rows' : List (List Cell)} (hN : Nat.blt d k.N = true) (ht : tyAt k.τ t' = .sl e sz by_) (hz : (tyAt k.τ e).zs = some zs) (hzl : zs.length = sz) (h0 : Nat.blt 0 sz = true) (hx : (St.mk F H).ev x = .one .nil) (hy : Src ⟨F, H⟩ sz ((St.mk F H).ev y) rows') (hrow : rows' = ys.map f) (hf : (St.mk F H).fresh d = true) (hb0 : Nat.blt 0 by_ = true) (hb1 : Nat.ble by_ 140000 = true)
    (hbd : ys.length ≤ 1000000000) (h : rg k w0 ops l Q ⟨(d, .one (.sl d ys.length sz)) :: F, (d, .arr e sz (ys.map f)) :: H⟩) : rg k w0 ops (⟨some d, .call { callee := .builtin .append, args := #[x, y], argTypes := #[t', t'] }, t, p, af, none⟩ :: l) Q ⟨F, H⟩ := by
  subst hrow
  refine j_ap0 hN ht hz hzl h0 hx hy hf ?_ hb0 (by rw [List.length_map]; exact h)
  rw [List.length_map]
  have := Nat.le_of_ble_eq_true hb1
  exact Nat.le_trans (Nat.mul_le_mul hbd this) (by decide)
theorem v_ap {α : Type} (f : α → List Cell) {xs ys : List α} {e sz by_ r n : Nat} {zs : List Z} {rows rows' : List (List Cell)} (hN : Nat.blt d k.N = true) (ht : tyAt k.τ t' = .sl e sz by_) (hz : (tyAt k.τ e).zs = some zs) (hzl : zs.length = sz) (h0 : Nat.blt 0 sz = true) (hx : (St.mk F H).ev x = .one (.sl r n sz)) (hr : getH H r = .arr e sz rows) (hrw : rows = xs.map f)
    (hk : killK r F (fun a => killHK H r (H.map (·.1)) fun b => some (a, b)) = some (F', H')) (hr2 : getH H' r = .arr e sz rows) (hn : n = xs.length) (hy : Src ⟨F, H'⟩ sz ((St.mk F H).ev y) rows') (hrow : rows' = ys.map f) (hf : allH r H' = true)
    (hb0 : Nat.blt 0 by_ = true) (hb1 : Nat.ble by_ 140000 = true) (hbd : xs.length + ys.length ≤ 1000000000) (h : rg k w0 ops l Q ⟨(d, .one (.sl r (xs ++ ys).length sz)) :: F', (r, .arr e sz ((xs ++ ys).map f)) :: H'⟩) : rg k w0 ops (⟨some d, .call { callee := .builtin .append, args := #[x, y], argTypes := #[t', t'] }, t, p, af, none⟩ :: l) Q ⟨F, H⟩ := by
  subst hrow hrw hn
  refine j_ap hN ht hz hzl h0 hx hr hk hr2 (List.length_map _).symm hy hf ?_ hb0 ?_
  · rw [List.length_map, List.length_map]
    have := Nat.le_of_ble_eq_true hb1
    exact Nat.le_trans (Nat.mul_le_mul hbd this) (by decide)
  · rw [← List.map_append, List.length_map]
    exact h
theorem v_bs {α : Type} (f : α → List Cell) {xs : List α} {o : Op} {e sz n : Nat} {rows : List (List Cell)} (hN : Nat.blt d k.N = true) (hv : opH k.τ F H d o = some ((d, .one (.sl d n sz)) :: F', (d, .arr e sz rows) :: H')) (hrow : rows = xs.map f) (hn : n = xs.length) (h : rg k w0 ops l Q ⟨(d, .one (.sl d xs.length sz)) :: F', (d, .arr e sz (xs.map f)) :: H'⟩) : rg k w0 ops (⟨some d, o, t, p, af, none⟩ :: l) Q ⟨F, H⟩ := by
  subst hrow hn
  exact j_h hN hv h
/-! calls -/
theorem v_call {pre : Prop} {pu : Bool} {f : FuncId} {xs : Array Operand} {ts : Array TypeId} {args : List SV} {v : SV} (hN : Nat.blt d k.N = true) (hk : k.P = Try.prog ∧ k.T = 26) (hic : ICp pre f args (fun x => x = v)) (ha : PsSL k.P k.T ⟨F, H⟩ pu xs.toList args) (hsc : pu = true ∨ v.sc = true) (hpre : pre)
    (h : rg k w0 ops l Q ⟨(d, v) :: F, H⟩) : rg k w0 ops (⟨some d, .call { callee := .value (.func f), args := xs, argTypes := ts }, t, p, af, none⟩ :: l) Q ⟨F, H⟩ :=
  j_call hN (by rw [hk.1, hk.2]; exact hic hpre) ha hsc h
theorem v_nd {pu : Bool} {f : FuncId} {xs : Array Operand} {ts : Array TypeId} {args : List SV} {α : Type} {φ : α → Prop} {g : α → SV} {R : α → Prop} (hN : Nat.blt d k.N = true) (hic : IC k.P k.T f args (ND φ g)) (ha : PsSL k.P k.T ⟨F, H⟩ pu xs.toList args) (hsc : pu = true ∨ ∀ x, (g x).sc = true) (hP : Hld (∀ x, φ x → R x))
    (h : ∀ x, φ x → Hld (R x) → rg k w0 ops l Q ⟨(d, g x) :: F, H⟩) : rg k w0 ops (⟨some d, .call { callee := .value (.func f), args := xs, argTypes := ts }, t, p, af, none⟩ :: l) Q ⟨F, H⟩ :=
  j_callp hN hic ha (hsc.imp id fun h v ⟨x, _, e⟩ => by rw [e]; exact h x) fun v ⟨x, hx, e⟩ => by rw [e]; exact h x hx ⟨hP.out x hx⟩
theorem v_ndp {pre : Prop} {pu : Bool} {f : FuncId} {xs : Array Operand} {ts : Array TypeId} {args : List SV} {α : Type} {φ : α → Prop} {g : α → SV} {R : α → Prop} (hN : Nat.blt d k.N = true) (hk : k.P = Try.prog ∧ k.T = 26) (hic : ICp pre f args (ND φ g)) (ha : PsSL k.P k.T ⟨F, H⟩ pu xs.toList args) (hsc : pu = true ∨ ∀ x, (g x).sc = true) (hP : Hld (Chk pre (∀ x, φ x → R x)))
    (h : ∀ x, φ x → Hld (R x) → rg k w0 ops l Q ⟨(d, g x) :: F, H⟩) : rg k w0 ops (⟨some d, .call { callee := .value (.func f), args := xs, argTypes := ts }, t, p, af, none⟩ :: l) Q ⟨F, H⟩ :=
  v_nd hN (by rw [hk.1, hk.2]; exact hic (chk_c hP)) ha hsc (chk_p hP) h
end
theorem psc_nilm {P : Program} {T : TypeId} {H : List (Nat × VH)} {pu : Bool} {α : Type} {f : α → List Cell} : PsC P T H pu .nil (.d (.list (([] : List α).map f))) := .nil pu
/-! a variable that is read from now on -/
def fzrK {β : Type} (r : Nat) (cs : List CV) : List (Nat × SV) → (List (Nat × SV) → β) → β
  | [], k => k []
  | (x, v) :: l, k => match v with
    | .one (.ref q off) => bif Nat.beq q r then fzrK r cs l (fun a => match dropO off cs with | some c => forceL c fun c' => k ((x, .one (.rp c')) :: a) | none => k ((x, .u) :: a)) else fzrK r cs l (fun a => k ((x, .one (.ref q off)) :: a))
    | .one c => fzrK r cs l fun a => k ((x, .one c) :: a)
    | .agg c => fzrK r cs l fun a => k ((x, .agg c) :: a)
    | .tup c => fzrK r cs l fun a => k ((x, .tup c) :: a)
    | .u => fzrK r cs l fun a => k ((x, .u) :: a)
def goneK {β : Type} (r : Nat) : List (Nat × VH) → (List (Nat × VH) → β) → β
  | [], k => k []
  | (x, v) :: l, k => bif Nat.beq x r then goneK r l (fun a => k ((x, .gone) :: a)) else goneK r l (fun a => k ((x, v) :: a))
theorem goneK_ok {β : Type} {H : List (Nat × VH)} (r : Nat) (l : List (Nat × VH)) (k : List (Nat × VH) → β) : ∃ l', goneK r l k = k l' ∧ FrH H [r] l l' := by
  induction l generalizing k with
  | nil => exact ⟨[], rfl, .nil⟩
  | cons q l ih =>
    obtain ⟨x, v⟩ := q
    unfold goneK
    cases hx : Nat.beq x r with
    | true =>
      have := Nat.eq_of_beq_eq_true hx
      subst this
      obtain ⟨l', h1, h2⟩ := ih fun a => k ((x, .gone) :: a)
      exact ⟨_, h1, .cons (.gone _ (by simp)) h2⟩
    | false =>
      obtain ⟨l', h1, h2⟩ := ih fun a => k ((x, v) :: a)
      refine ⟨_, h1, .cons (.same _ ?_) h2⟩
      have : ¬ x = r := fun e => by subst e; simp at hx
      simp [this]
theorem fzrK_ok {β : Type} {H : List (Nat × VH)} {r t : Nat} {cs : List CV} (hr : getH H r = .blk t cs) (hd : plL cs = true) (l : List (Nat × SV)) (k : List (Nat × SV) → β) : ∃ l', fzrK r cs l k = k l' ∧ FrF H [r] l l' := by
  induction l generalizing k with
  | nil => exact ⟨[], rfl, .nil⟩
  | cons q l ih =>
    obtain ⟨x, v⟩ := q
    unfold fzrK
    split
    · rename_i q off
      cases hx : Nat.beq q r with
      | true =>
        have := Nat.eq_of_beq_eq_true hx
        subst this
        simp only [cond_true]
        cases hq : dropO off cs with
        | none =>
          obtain ⟨l', h1, h2⟩ := ih fun a => k ((x, .u) :: a)
          exact ⟨_, h1, .cons (.u _) h2⟩
        | some c =>
          obtain ⟨rfl, _⟩ := dropO_eq hq
          simp only [forceL_eq]
          obtain ⟨l', h1, h2⟩ := ih fun a => k ((x, .one (.rp (cs.drop off))) :: a)
          exact ⟨_, h1, .cons (.one (.fzr (by simp) hr hd)) h2⟩
      | false =>
        simp only [cond_false]
        obtain ⟨l', h1, h2⟩ := ih fun a => k ((x, .one (.ref q off)) :: a)
        exact ⟨_, h1, .cons (.same _) h2⟩
    · rename_i c _
      obtain ⟨l', h1, h2⟩ := ih fun a => k ((x, .one c) :: a)
      exact ⟨_, h1, .cons (.same _) h2⟩
    · rename_i c
      obtain ⟨l', h1, h2⟩ := ih fun a => k ((x, .agg c) :: a)
      exact ⟨_, h1, .cons (.same _) h2⟩
    · rename_i c
      obtain ⟨l', h1, h2⟩ := ih fun a => k ((x, .tup c) :: a)
      exact ⟨_, h1, .cons (.same _) h2⟩
    · obtain ⟨l', h1, h2⟩ := ih fun a => k ((x, .u) :: a)
      exact ⟨_, h1, .cons (.same _) h2⟩
theorem v_fzr {k : Wk} {w0 : Org} {ops : Array Oper} {o : Oper} {l : List Oper} {Q : St → Prop} {F F' : List (Nat × SV)} {H H' : List (Nat × VH)} (r : Nat) {t : Nat} {cs : List CV} (hr : getH H r = .blk t cs) (hd : plL cs = true) (hF : fzrK r cs F some = some F') (hH : goneK r H some = some H') (h : rg k w0 ops (o :: l) Q ⟨F', H'⟩) : rg k w0 ops (o :: l) Q ⟨F, H⟩ := by
  obtain ⟨l1, h1, h2⟩ := fzrK_ok hr hd F some
  obtain ⟨l2, h3, h4⟩ := goneK_ok (H := H) r H some
  rw [h1] at hF
  rw [h3] at hH
  injection hF with e1
  injection hH with e2
  subst e1 e2
  exact i_frz (s := ⟨F, H⟩) [r] h4 h2 h
theorem v_fzl {k : Wk} {w0 : Org} {ops : Array Oper} {o : Oper} {l : List Oper} {Q : St → Prop} {F F' : List (Nat × SV)} {H H' : List (Nat × VH)} {e sz : Nat} {rows : List (List Cell)} {p q : Prop} (r : Nat) (hr : getH H r = .arr e sz rows) (hF : fzK r sz rows F (fun a p => some (a, p)) = some (F', p)) (hH : fzHK r sz rows H (fun a p => some (a, p)) = some (H', q)) (hp : p ∧ q) (h : rg k w0 ops (o :: l) Q ⟨F', H'⟩) : rg k w0 ops (o :: l) Q ⟨F, H⟩ := j_fz r hr hF hH hp h
theorem j_lst {k : Wk} {w0 : Org} {ops : Array Oper} {a b l' : List Oper} {Q : St → Prop} {s : St} (hl : listK (List.append a b) some = some l') (h : rg k w0 ops l' Q s) : rg k w0 ops (List.append a b) Q s := by
  rw [listK_eq] at hl
  injection hl with hl
  subst hl
  exact h
theorem frF_same {H : List (Nat × VH)} {rs : List Nat} (F : List (Nat × SV)) : FrF H rs F F := by
  induction F with
  | nil => exact .nil
  | cons q l ih => exact .cons (.same _) ih
/-- A list that is only read from now on. -/
theorem v_bsf {α : Type} (f : α → List Cell) {k : Wk} {w0 : Org} {ops : Array Oper} {l : List Oper} {Q : St → Prop} {F F' : List (Nat × SV)} {H H' H2 : List (Nat × VH)} {d t : Nat} {p : String} {af : Array Edge} {xs : List α} {o : Op} {e sz n : Nat} {rows : List (List Cell)} (hN : Nat.blt d k.N = true) (hv : opH k.τ F H d o = some ((d, .one (.sl d n sz)) :: F', (d, .arr e sz rows) :: H')) (hrow : rows = xs.map f) (hn : n = xs.length) (hH : goneK d H' some = some H2) (h : rg k w0 ops l Q ⟨(d, .one (.d (.list (xs.map f)))) :: F', (d, .gone) :: H2⟩) : rg k w0 ops (⟨some d, o, t, p, af, none⟩ :: l) Q ⟨F, H⟩ := by
  subst hrow hn
  refine j_h hN hv ?_
  obtain ⟨l2, h3, h4⟩ := goneK_ok (H := (d, VH.arr e sz (xs.map f)) :: H') d H' some
  rw [h3] at hH
  injection hH with e2
  subst e2
  refine i_frz (s := ⟨_, _⟩) [d] (.cons (.gone _ (by simp)) h4) (.cons (.one (.fz (e := e) (by simp) ?_ (List.length_map _).symm)) (frF_same _)) h
  simp [getH]
/-! arrays -/
inductive CvD : List CV → List Cell → Prop where
  | nil : CvD [] []
  | d {c : Cell} {cs : List CV} {ds : List Cell} (h : CvD cs ds) : CvD (.d c :: cs) (c :: ds)
  | n {cs : List CV} {ds : List Cell} (h : CvD cs ds) : CvD (.nil :: cs) (.list [] :: ds)
theorem CvD.get {cs : List CV} {ds : List Cell} (h : CvD cs ds) {j : Nat} {d : Cell} (hd : ds[j]? = some d) : ∃ c, cs[j]? = some c ∧ (c = .d d ∨ c = .nil ∧ d = .list []) := by
  induction h generalizing j with
  | nil => simp at hd
  | d h ih =>
    cases j with
    | zero => simp at hd; subst hd; exact ⟨_, rfl, .inl rfl⟩
    | succ j => exact ih (by simpa using hd)
  | n h ih =>
    cases j with
    | zero => simp at hd; subst hd; exact ⟨_, rfl, .inr ⟨rfl, rfl⟩⟩
    | succ j => exact ih (by simpa using hd)
theorem CvD.len {cs : List CV} {ds : List Cell} (h : CvD cs ds) : cs.length = ds.length := by induction h <;> simp [*]
theorem nild_rep {P : Program} {g : Gh} {w : World} {v : Value} (h : RepCV P g w v .nil) : RepCV P g w v (.d (.list [])) := by
  cases h
  exact .d (RepCell.list none 0 [] 0 (fun _ _ => undef) (fun _ => rfl) (Nat.le_refl _) (Nat.zero_le _) (fun _ h => by cases h) (fun i j hi => by cases hi) (fun i j row x hr => by simp at hr))
theorem cvd_rep {P : Program} {g : Gh} {w : World} {v : Value} {c : CV} {d : Cell} (h : RepCV P g w v c) (hc : c = .d d ∨ c = .nil ∧ d = .list []) : RepCV P g w v (.d d) := by
  rcases hc with rfl | ⟨rfl, rfl⟩
  · exact h
  · exact nild_rep h
theorem agg_weak {P : Program} {g : Gh} {w : World} {u : Value} {cs : List CV} {ds : List Cell} (h : RepSV P g w u (.agg cs)) (hc : CvD cs ds) : RepSV P g w u (.agg (ds.map .d)) := by
  obtain ⟨vs, rfl, hsz, hr⟩ := h.agg_inv
  refine .agg vs _ (by simp [hsz, hc.len]) fun j v c h1 h2 => ?_
  rw [List.getElem?_map] at h2
  cases hd : ds[j]? with
  | none => rw [hd] at h2; cases h2
  | some d =>
    rw [hd] at h2
    injection h2 with h2
    subst h2
    obtain ⟨c', e1, e2⟩ := hc.get hd
    exact cvd_rep (hr j v c' h1 e1) e2
theorem ope_weak {P : Program} {T : TypeId} {N : Nat} {w0 : Org} {s : St} {o : Oper} {v v' : SV} (h : OpE P T N w0 s o v) (hw : ∀ g w u, RepSV P g w u v → RepSV P g w u v') : OpE P T N w0 s o v' := by
  intro g a w hs K Q hK
  refine h g a w hs K Q fun u w' hR => hK u w' ?_
  obtain ⟨g', sv, rfl, h1, h2⟩ := hR
  exact ⟨g', v', rfl, h1, hw _ _ _ h2⟩
theorem CvD.seg {cs : List CV} {ds : List Cell} (h : CvD cs ds) (i n : Nat) : CvD ((cs.drop i).take n) ((ds.drop i).take n) := by
  induction h generalizing i n with
  | nil => simp; exact .nil
  | d h ih =>
    cases i with
    | zero =>
      cases n with
      | zero => exact .nil
      | succ n => simpa using CvD.d (by simpa using ih 0 n)
    | succ i => simpa using ih i n
  | n h ih =>
    cases i with
    | zero =>
      cases n with
      | zero => exact .nil
      | succ n => simpa using CvD.n (by simpa using ih 0 n)
    | succ i => simpa using ih i n
theorem flat_seg {α : Type} {f : α → List Cell} {sz : Nat} (hf : ∀ x, (f x).length = sz) (xs : List α) {i : Nat} (h : i < xs.length) : ((xs.flatMap f).drop (i * sz)).take sz = f xs[i] := by
  induction xs generalizing i with
  | nil => simp at h
  | cons x xs ih =>
    cases i with
    | zero => rw [List.flatMap_cons]; simp [hf x]
    | succ i =>
      rw [List.flatMap_cons, Nat.succ_mul, List.drop_append, List.drop_eq_nil_of_le (by rw [hf]; exact Nat.le_add_left _ _), hf, Nat.add_sub_cancel]
      simpa using ih (i := i) (by simpa using h)
theorem flat_len {α : Type} {f : α → List Cell} {sz : Nat} (hf : ∀ x, (f x).length = sz) (xs : List α) : (xs.flatMap f).length = xs.length * sz := by
  induction xs with
  | nil => simp
  | cons x xs ih => rw [List.flatMap_cons, List.length_append, hf, ih, List.length_cons, Nat.succ_mul, Nat.add_comm]
section
variable {k : Wk} {w0 : Org} {ops : Array Oper} {l : List Oper} {Q : St → Prop} {F F' : List (Nat × SV)} {H H' : List (Nat × VH)} {d t t' ty : Nat} {x y : Operand} {p : String} {af : Array Edge} {s : St} {gd : Option (Nat × Bool)}
theorem f_ixan {α : Type} {f : α → List Cell} {xs : List α} {n len e sz : Nat} {zs fs2 zs2} {cs : List CV} {kk : IntKind} {m : Int} (hx : s.ev x = .agg cs) (hy : s.ev y = .one (.d (.int kk m))) (ht : tyAt k.τ t' = .ar n len e sz zs) (he : tyAt k.τ e = .st sz fs2 zs2) (hcs : CvD cs (xs.flatMap f)) (hn : xs.length = len) (hf : ∀ x, (f x).length = sz) (inst : Inhabited α) (hc : 0 ≤ m ∧ m < (xs.length : Int)) : OpE k.P k.T k.N w0 s ⟨some d, .index t' x y, t, p, af, gd⟩ (.agg ((f (gt xs m)).map .d)) := by
  have hi : m.toNat < xs.length := by omega
  have hl : m.toNat * sz + sz ≤ cs.length := by
    rw [hcs.len, flat_len hf, ← Nat.succ_mul]
    exact Nat.mul_le_mul_right _ hi
  refine ope_weak (e_ixn hx hy ht he hc.1 (by omega) rfl hl) fun g w u hu => ?_
  have := agg_weak hu (hcs.seg (m.toNat * sz) sz)
  rw [flat_seg hf xs hi, ← gt_eq hi] at this
  exact this
theorem f_ixa1 {α : Type} {f : α → List Cell} {xs : List α} {n len e : Nat} {zs} {cs : List CV} {kk : IntKind} {m : Int} {c : Cell} (hx : s.ev x = .agg cs) (hy : s.ev y = .one (.d (.int kk m))) (ht : tyAt k.τ t' = .ar n len e 1 zs) (he : (tyAt k.τ e).isOne = true) (hcs : CvD cs (xs.flatMap f)) (hn : xs.length = len) (hf : ∀ x, (f x).length = 1) (inst : Inhabited α) (hv : f (gt xs m) = [c]) (hc : 0 ≤ m ∧ m < (xs.length : Int)) : OpE k.P k.T k.N w0 s ⟨some d, .index t' x y, t, p, af, gd⟩ (.one (.d c)) := by
  have hi : m.toNat < xs.length := by omega
  have h1 := flat_seg hf xs hi
  rw [← gt_eq hi, hv] at h1
  have h2 : (xs.flatMap f)[m.toNat]? = some c := by
    have := congrArg (fun l => l[0]?) h1
    simpa using this
  obtain ⟨c', e1, e2⟩ := hcs.get h2
  exact ope_weak (e_ix1 hx hy ht he hc.1 (by omega) rfl e1) fun g w u hu => .one (cvd_rep hu.one_inv e2)
theorem f_ixaa {α : Type} {f : α → List Cell} {xs : List α} {n len e sz len2 e2 sz2 : Nat} {zs zs2} {cs : List CV} {kk : IntKind} {m : Int} (hx : s.ev x = .agg cs) (hy : s.ev y = .one (.d (.int kk m))) (ht : tyAt k.τ t' = .ar n len e sz zs) (he : tyAt k.τ e = .ar sz len2 e2 sz2 zs2) (hcs : CvD cs (xs.flatMap f)) (hn : xs.length = len) (hf : ∀ x, (f x).length = sz) (inst : Inhabited α) (hc : 0 ≤ m ∧ m < (xs.length : Int)) : OpE k.P k.T k.N w0 s ⟨some d, .index t' x y, t, p, af, gd⟩ (.agg ((f (gt xs m)).map .d)) := by
  have hi : m.toNat < xs.length := by omega
  have hl : m.toNat * sz + sz ≤ cs.length := by
    rw [hcs.len, flat_len hf, ← Nat.succ_mul]
    exact Nat.mul_le_mul_right _ hi
  refine ope_weak (ope_indexn (o := ⟨some d, .index t' x y, t, p, af, gd⟩) rfl hx hy (tab_ar k.ok ht) (tab_agga k.ok he) hc.1 (by omega) hl) fun g w u hu => ?_
  have := agg_weak hu (hcs.seg (m.toNat * sz) sz)
  rw [flat_seg hf xs hi, ← gt_eq hi] at this
  exact this
theorem v_ixaa {α : Type} {f : α → List Cell} {R : α → Prop} {xs : List α} {n len e sz len2 e2 sz2 : Nat} {zs zs2} {cs : List CV} {kk : IntKind} {m : Int} (hN : Nat.blt d k.N = true) (hx : (St.mk F H).ev x = .agg cs) (hy : (St.mk F H).ev y = .one (.d (.int kk m))) (ht : tyAt k.τ t' = .ar n len e sz zs) (he : tyAt k.τ e = .ar sz len2 e2 sz2 zs2) (hcs : CvD cs (xs.flatMap f)) (hn : xs.length = len) (hf : ∀ x, (f x).length = sz) (inst : Inhabited α) (hP : Hld (Chk (0 ≤ m ∧ m < (xs.length : Int)) (∀ z, z = gt xs m → R z))) (h : ∀ z, z = gt xs m → Hld (R z) → rg k w0 ops l Q ⟨(d, .agg ((f z).map .d)) :: F, H⟩) : rg k w0 ops (⟨some d, .index t' x y, t, p, af, none⟩ :: l) Q ⟨F, H⟩ :=
  rgI (irg_e rfl rfl (nlt hN) (f_ixaa hx hy ht he hcs hn hf inst hP.out.c) (rgO (h _ rfl ⟨hP.out.p _ rfl⟩)))
theorem v_ixan {α : Type} {f : α → List Cell} {R : α → Prop} {xs : List α} {n len e sz : Nat} {zs fs2 zs2} {cs : List CV} {kk : IntKind} {m : Int} (hN : Nat.blt d k.N = true) (hx : (St.mk F H).ev x = .agg cs) (hy : (St.mk F H).ev y = .one (.d (.int kk m))) (ht : tyAt k.τ t' = .ar n len e sz zs) (he : tyAt k.τ e = .st sz fs2 zs2) (hcs : CvD cs (xs.flatMap f)) (hn : xs.length = len) (hf : ∀ x, (f x).length = sz) (inst : Inhabited α) (hP : Hld (Chk (0 ≤ m ∧ m < (xs.length : Int)) (∀ z, z = gt xs m → R z))) (h : ∀ z, z = gt xs m → Hld (R z) → rg k w0 ops l Q ⟨(d, .agg ((f z).map .d)) :: F, H⟩) : rg k w0 ops (⟨some d, .index t' x y, t, p, af, none⟩ :: l) Q ⟨F, H⟩ :=
  rgI (irg_e rfl rfl (nlt hN) (f_ixan hx hy ht he hcs hn hf inst hP.out.c) (rgO (h _ rfl ⟨hP.out.p _ rfl⟩)))
theorem v_ixa1 {α : Type} {f : α → List Cell} {R : α → Prop} {xs : List α} {n len e : Nat} {zs} {cs : List CV} {kk : IntKind} {m : Int} {c : α → Cell} (hN : Nat.blt d k.N = true) (hx : (St.mk F H).ev x = .agg cs) (hy : (St.mk F H).ev y = .one (.d (.int kk m))) (ht : tyAt k.τ t' = .ar n len e 1 zs) (he : (tyAt k.τ e).isOne = true) (hcs : CvD cs (xs.flatMap f)) (hn : xs.length = len) (hf : ∀ x, (f x).length = 1) (inst : Inhabited α) (hv : ∀ z, f z = [c z]) (hP : Hld (Chk (0 ≤ m ∧ m < (xs.length : Int)) (∀ z, z = gt xs m → R z))) (h : ∀ z, z = gt xs m → Hld (R z) → rg k w0 ops l Q ⟨(d, .one (.d (c z))) :: F, H⟩) : rg k w0 ops (⟨some d, .index t' x y, t, p, af, none⟩ :: l) Q ⟨F, H⟩ :=
  rgI (irg_e rfl rfl (nlt hN) (f_ixa1 hx hy ht he hcs hn hf inst (hv _) hP.out.c) (rgO (h _ rfl ⟨hP.out.p _ rfl⟩)))
end
theorem ar_nil {α : Type} {f : α → List Cell} : CvD [] (([] : List α).flatMap f) := .nil
def lrow {α : Type} (f : α → List Cell) (l : List α) : List Cell := [.list (l.map f)]
def prow2 (p : Int × Int) : List Cell := [.int .i64 p.1, .int .i64 p.2]
def prow3 (p : Int × Int × Int) : List Cell := [.int .i64 p.1, .int .i64 p.2.1, .int .i64 p.2.2]
theorem ar_p2 {a b : Int} {xs : List (Int × Int)} {cs : List CV} (h : CvD cs (xs.flatMap prow2)) : CvD (.d (.int .i64 a) :: .d (.int .i64 b) :: cs) (((a, b) :: xs).flatMap prow2) := by rw [List.flatMap_cons]; exact .d (.d h)
theorem ar_p3 {a b c : Int} {xs : List (Int × Int × Int)} {cs : List CV} (h : CvD cs (xs.flatMap prow3)) : CvD (.d (.int .i64 a) :: .d (.int .i64 b) :: .d (.int .i64 c) :: cs) (((a, b, c) :: xs).flatMap prow3) := by rw [List.flatMap_cons]; exact .d (.d (.d h))
def brow (b : Bool) : List Cell := [.bool b]
def srow (b : ByteArray) : List Cell := [.str b]
theorem brow_mk (a : Bool) : [Cell.bool a] = brow a := rfl
theorem srow_mk (a : ByteArray) : [Cell.str a] = srow a := rfl
theorem lrow_mk {α : Type} (f : α → List Cell) (a : List α) : [Cell.list (a.map f)] = lrow f a := rfl
theorem ar_i {a : Int} {xs : List Int} {cs : List CV} (h : CvD cs (xs.flatMap irow)) : CvD (.d (.int .i64 a) :: cs) ((a :: xs).flatMap irow) := by rw [List.flatMap_cons]; exact .d h
theorem ar_b {a : Bool} {xs : List Bool} {cs : List CV} (h : CvD cs (xs.flatMap brow)) : CvD (.d (.bool a) :: cs) ((a :: xs).flatMap brow) := by rw [List.flatMap_cons]; exact .d h
theorem ar_l {α : Type} {f : α → List Cell} {a : List α} {xs : List (List α)} {cs : List CV} (h : CvD cs (xs.flatMap (lrow f))) : CvD (.d (.list (a.map f)) :: cs) ((a :: xs).flatMap (lrow f)) := by rw [List.flatMap_cons]; exact .d h
theorem ar_ln {α : Type} {f : α → List Cell} {xs : List (List α)} {cs : List CV} (h : CvD cs (xs.flatMap (lrow f))) : CvD (.nil :: cs) (([] :: xs).flatMap (lrow f)) := by rw [List.flatMap_cons]; exact .n h
/-- A fact that may be used. -/
structure Fct (A P : Prop) : Prop where
  h : A → P
theorem brn_d {p P Q : Prop} [Decidable p] (h1 : p → P) (h2 : ¬ p → Q) : Brn (decide p) P Q := ⟨fun h => h1 (by simpa using h), fun h => h2 (by simpa using h)⟩
theorem brn_nd {p P Q : Prop} [Decidable p] (h1 : ¬ p → P) (h2 : p → Q) : Brn (!decide p) P Q := ⟨fun h => h1 (by simpa using h), fun h => h2 (by simpa using h)⟩
theorem brn_nb {b : Bool} {P Q : Prop} (h1 : b = false → P) (h2 : b = true → Q) : Brn (!b) P Q := ⟨fun h => h1 (by simpa using h), fun h => h2 (by simpa using h)⟩
theorem brn_nn {b : Bool} {P Q : Prop} (h1 : b = true → P) (h2 : b = false → Q) : Brn (!(!b)) P Q := ⟨fun h => h1 (by simpa using h), fun h => h2 (by simpa using h)⟩
/-- A loop that counts up to n. -/
theorem up0 {n : Int} {A E : (Int → Prop) → (Int → Nat) → Int → Prop} (h0 : 0 ≤ n) (hn : n ≤ 9223372036854775807) (step : ∀ I μ z, 0 ≤ z → z < n → (I (z + 1) ∧ μ (z + 1) < μ z) → A I μ z) (ex : ∀ I μ, E I μ n) : ∃ (I : Int → Prop) (μ : Int → Nat), I 0 ∧ ∀ x, I x → Brn (decide (x < n)) (A I μ x) (E I μ x) :=
  ⟨fun z => 0 ≤ z ∧ z ≤ n, fun z => (n - z).toNat, ⟨by omega, h0⟩, fun x hx => brn_d (fun h => step _ _ x hx.1 h ⟨⟨by omega, by omega⟩, by omega⟩) (fun h => by
    obtain rfl : x = n := by omega
    exact ex _ _)⟩
/-- Likewise, where J holds behind each round. -/
theorem up1 {n : Int} (J : Int → Prop) {A E : (Int → Prop) → (Int → Nat) → Int → Prop} (h0 : 0 ≤ n) (hj : J 0) (step : ∀ I μ z, 0 ≤ z → z < n → J z → (J (z + 1) → I (z + 1) ∧ μ (z + 1) < μ z) → A I μ z) (ex : ∀ I μ, J n → E I μ n) : ∃ (I : Int → Prop) (μ : Int → Nat), I 0 ∧ ∀ x, I x → Brn (decide (x < n)) (A I μ x) (E I μ x) :=
  ⟨fun z => 0 ≤ z ∧ z ≤ n ∧ J z, fun z => (n - z).toNat, ⟨by omega, h0, hj⟩, fun x hx => brn_d (fun h => step _ _ x hx.1 h hx.2.2 fun hj => ⟨⟨by omega, by omega, hj⟩, by omega⟩) (fun h => by
    obtain rfl : x = n := by omega
    exact ex _ _ hx.2.2)⟩
theorem up2 {α1 : Type} {n : Int} {o1 : α1} (J : α1 → Int → Prop) {A E : (α1 → Int → Prop) → (α1 → Int → Nat) → α1 → Int → Prop} (h0 : 0 ≤ n) (hj : J o1 0) (step : ∀ (I : α1 → Int → Prop) (μ : α1 → Int → Nat) (a1 : α1) (z : Int), 0 ≤ z → z < n → J a1 z → (∀ (b1 : α1), J b1 (z + 1) → I b1 (z + 1) ∧ μ b1 (z + 1) < μ a1 z) → A I μ a1 z) (ex : ∀ (I : α1 → Int → Prop) (μ : α1 → Int → Nat) (a1 : α1), J a1 n → E I μ a1 n) : ∃ (I : α1 → Int → Prop) (μ : α1 → Int → Nat), I o1 0 ∧ ∀ (a1 : α1) (x : Int), I a1 x → Brn (decide (x < n)) (A I μ a1 x) (E I μ a1 x) :=
  ⟨fun a1 z => 0 ≤ z ∧ z ≤ n ∧ J a1 z, fun _ z => (n - z).toNat, ⟨by omega, h0, hj⟩, fun a1 x hx => brn_d (fun h => step _ _ a1 x hx.1 h hx.2.2 fun b1 hj => ⟨⟨by omega, by omega, hj⟩, by omega⟩) (fun h => by
    obtain rfl : x = n := by omega
    exact ex _ _ a1 hx.2.2)⟩
theorem up3 {α1 α2 : Type} {n : Int} {o1 : α1} {o2 : α2} (J : α1 → α2 → Int → Prop) {A E : (α1 → α2 → Int → Prop) → (α1 → α2 → Int → Nat) → α1 → α2 → Int → Prop} (h0 : 0 ≤ n) (hj : J o1 o2 0) (step : ∀ (I : α1 → α2 → Int → Prop) (μ : α1 → α2 → Int → Nat) (a1 : α1) (a2 : α2) (z : Int), 0 ≤ z → z < n → J a1 a2 z → (∀ (b1 : α1) (b2 : α2), J b1 b2 (z + 1) → I b1 b2 (z + 1) ∧ μ b1 b2 (z + 1) < μ a1 a2 z) → A I μ a1 a2 z) (ex : ∀ (I : α1 → α2 → Int → Prop) (μ : α1 → α2 → Int → Nat) (a1 : α1) (a2 : α2), J a1 a2 n → E I μ a1 a2 n) : ∃ (I : α1 → α2 → Int → Prop) (μ : α1 → α2 → Int → Nat), I o1 o2 0 ∧ ∀ (a1 : α1) (a2 : α2) (x : Int), I a1 a2 x → Brn (decide (x < n)) (A I μ a1 a2 x) (E I μ a1 a2 x) :=
  ⟨fun a1 a2 z => 0 ≤ z ∧ z ≤ n ∧ J a1 a2 z, fun _ _ z => (n - z).toNat, ⟨by omega, h0, hj⟩, fun a1 a2 x hx => brn_d (fun h => step _ _ a1 a2 x hx.1 h hx.2.2 fun b1 b2 hj => ⟨⟨by omega, by omega, hj⟩, by omega⟩) (fun h => by
    obtain rfl : x = n := by omega
    exact ex _ _ a1 a2 hx.2.2)⟩
theorem up4 {α1 α2 α3 : Type} {n : Int} {o1 : α1} {o2 : α2} {o3 : α3} (J : α1 → α2 → α3 → Int → Prop) {A E : (α1 → α2 → α3 → Int → Prop) → (α1 → α2 → α3 → Int → Nat) → α1 → α2 → α3 → Int → Prop} (h0 : 0 ≤ n) (hj : J o1 o2 o3 0) (step : ∀ (I : α1 → α2 → α3 → Int → Prop) (μ : α1 → α2 → α3 → Int → Nat) (a1 : α1) (a2 : α2) (a3 : α3) (z : Int), 0 ≤ z → z < n → J a1 a2 a3 z → (∀ (b1 : α1) (b2 : α2) (b3 : α3), J b1 b2 b3 (z + 1) → I b1 b2 b3 (z + 1) ∧ μ b1 b2 b3 (z + 1) < μ a1 a2 a3 z) → A I μ a1 a2 a3 z) (ex : ∀ (I : α1 → α2 → α3 → Int → Prop) (μ : α1 → α2 → α3 → Int → Nat) (a1 : α1) (a2 : α2) (a3 : α3), J a1 a2 a3 n → E I μ a1 a2 a3 n) : ∃ (I : α1 → α2 → α3 → Int → Prop) (μ : α1 → α2 → α3 → Int → Nat), I o1 o2 o3 0 ∧ ∀ (a1 : α1) (a2 : α2) (a3 : α3) (x : Int), I a1 a2 a3 x → Brn (decide (x < n)) (A I μ a1 a2 a3 x) (E I μ a1 a2 a3 x) :=
  ⟨fun a1 a2 a3 z => 0 ≤ z ∧ z ≤ n ∧ J a1 a2 a3 z, fun _ _ _ z => (n - z).toNat, ⟨by omega, h0, hj⟩, fun a1 a2 a3 x hx => brn_d (fun h => step _ _ a1 a2 a3 x hx.1 h hx.2.2 fun b1 b2 b3 hj => ⟨⟨by omega, by omega, hj⟩, by omega⟩) (fun h => by
    obtain rfl : x = n := by omega
    exact ex _ _ a1 a2 a3 hx.2.2)⟩
def allN (n : Nat) (p : Nat → Bool) : Bool := (List.range n).all p
theorem allN_iff {n : Nat} {p : Nat → Bool} : allN n p = true ↔ ∀ i, i < n → p i = true := by unfold allN; simp
theorem allN_no {n i : Nat} {p : Nat → Bool} (h : i < n) (hp : p i = false) : allN n p = false := by
  rw [Bool.eq_false_iff]; intro hh; rw [allN_iff.1 hh i h] at hp; cases hp
theorem natz {z n : Int} (h0 : 0 ≤ z) (h : z < n) : ∃ i : Nat, z = i ∧ (i : Int) < n := ⟨z.toNat, by omega, by omega⟩
/-! loops, shown -/
theorem lp1 {α1 : Type} {R : (α1 → Prop) → (α1 → Nat) → α1 → Prop} {a1 : α1} (J : α1 → Prop) (m : α1 → Nat) (h0 : J a1) (step : ∀ (I : α1 → Prop) (μ : α1 → Nat), (∀ (y1 : α1) (a1 : α1), J a1 → J y1 → m y1 < m a1 → I y1 ∧ μ y1 < μ a1) → ∀ (a1 : α1), J a1 → R I μ a1) : ∃ (I : α1 → Prop) (μ : α1 → Nat), I a1 ∧ ∀ (a1 : α1), I a1 → R I μ a1 :=
  ⟨J, m, h0, step J m (fun y1 a1 _ h1 h2 => ⟨h1, h2⟩)⟩
theorem lp2 {α1 α2 : Type} {R : (α1 → α2 → Prop) → (α1 → α2 → Nat) → α1 → α2 → Prop} {a1 : α1} {a2 : α2} (J : α1 → α2 → Prop) (m : α1 → α2 → Nat) (h0 : J a1 a2) (step : ∀ (I : α1 → α2 → Prop) (μ : α1 → α2 → Nat), (∀ (y1 : α1) (y2 : α2) (a1 : α1) (a2 : α2), J a1 a2 → J y1 y2 → m y1 y2 < m a1 a2 → I y1 y2 ∧ μ y1 y2 < μ a1 a2) → ∀ (a1 : α1) (a2 : α2), J a1 a2 → R I μ a1 a2) : ∃ (I : α1 → α2 → Prop) (μ : α1 → α2 → Nat), I a1 a2 ∧ ∀ (a1 : α1) (a2 : α2), I a1 a2 → R I μ a1 a2 :=
  ⟨J, m, h0, step J m (fun y1 y2 a1 a2 _ h1 h2 => ⟨h1, h2⟩)⟩
theorem lp3 {α1 α2 α3 : Type} {R : (α1 → α2 → α3 → Prop) → (α1 → α2 → α3 → Nat) → α1 → α2 → α3 → Prop} {a1 : α1} {a2 : α2} {a3 : α3} (J : α1 → α2 → α3 → Prop) (m : α1 → α2 → α3 → Nat) (h0 : J a1 a2 a3) (step : ∀ (I : α1 → α2 → α3 → Prop) (μ : α1 → α2 → α3 → Nat), (∀ (y1 : α1) (y2 : α2) (y3 : α3) (a1 : α1) (a2 : α2) (a3 : α3), J a1 a2 a3 → J y1 y2 y3 → m y1 y2 y3 < m a1 a2 a3 → I y1 y2 y3 ∧ μ y1 y2 y3 < μ a1 a2 a3) → ∀ (a1 : α1) (a2 : α2) (a3 : α3), J a1 a2 a3 → R I μ a1 a2 a3) : ∃ (I : α1 → α2 → α3 → Prop) (μ : α1 → α2 → α3 → Nat), I a1 a2 a3 ∧ ∀ (a1 : α1) (a2 : α2) (a3 : α3), I a1 a2 a3 → R I μ a1 a2 a3 :=
  ⟨J, m, h0, step J m (fun y1 y2 y3 a1 a2 a3 _ h1 h2 => ⟨h1, h2⟩)⟩
theorem lp4 {α1 α2 α3 α4 : Type} {R : (α1 → α2 → α3 → α4 → Prop) → (α1 → α2 → α3 → α4 → Nat) → α1 → α2 → α3 → α4 → Prop} {a1 : α1} {a2 : α2} {a3 : α3} {a4 : α4} (J : α1 → α2 → α3 → α4 → Prop) (m : α1 → α2 → α3 → α4 → Nat) (h0 : J a1 a2 a3 a4) (step : ∀ (I : α1 → α2 → α3 → α4 → Prop) (μ : α1 → α2 → α3 → α4 → Nat), (∀ (y1 : α1) (y2 : α2) (y3 : α3) (y4 : α4) (a1 : α1) (a2 : α2) (a3 : α3) (a4 : α4), J a1 a2 a3 a4 → J y1 y2 y3 y4 → m y1 y2 y3 y4 < m a1 a2 a3 a4 → I y1 y2 y3 y4 ∧ μ y1 y2 y3 y4 < μ a1 a2 a3 a4) → ∀ (a1 : α1) (a2 : α2) (a3 : α3) (a4 : α4), J a1 a2 a3 a4 → R I μ a1 a2 a3 a4) : ∃ (I : α1 → α2 → α3 → α4 → Prop) (μ : α1 → α2 → α3 → α4 → Nat), I a1 a2 a3 a4 ∧ ∀ (a1 : α1) (a2 : α2) (a3 : α3) (a4 : α4), I a1 a2 a3 a4 → R I μ a1 a2 a3 a4 :=
  ⟨J, m, h0, step J m (fun y1 y2 y3 y4 a1 a2 a3 a4 _ h1 h2 => ⟨h1, h2⟩)⟩
theorem lp5 {α1 α2 α3 α4 α5 : Type} {R : (α1 → α2 → α3 → α4 → α5 → Prop) → (α1 → α2 → α3 → α4 → α5 → Nat) → α1 → α2 → α3 → α4 → α5 → Prop} {a1 : α1} {a2 : α2} {a3 : α3} {a4 : α4} {a5 : α5} (J : α1 → α2 → α3 → α4 → α5 → Prop) (m : α1 → α2 → α3 → α4 → α5 → Nat) (h0 : J a1 a2 a3 a4 a5) (step : ∀ (I : α1 → α2 → α3 → α4 → α5 → Prop) (μ : α1 → α2 → α3 → α4 → α5 → Nat), (∀ (y1 : α1) (y2 : α2) (y3 : α3) (y4 : α4) (y5 : α5) (a1 : α1) (a2 : α2) (a3 : α3) (a4 : α4) (a5 : α5), J a1 a2 a3 a4 a5 → J y1 y2 y3 y4 y5 → m y1 y2 y3 y4 y5 < m a1 a2 a3 a4 a5 → I y1 y2 y3 y4 y5 ∧ μ y1 y2 y3 y4 y5 < μ a1 a2 a3 a4 a5) → ∀ (a1 : α1) (a2 : α2) (a3 : α3) (a4 : α4) (a5 : α5), J a1 a2 a3 a4 a5 → R I μ a1 a2 a3 a4 a5) : ∃ (I : α1 → α2 → α3 → α4 → α5 → Prop) (μ : α1 → α2 → α3 → α4 → α5 → Nat), I a1 a2 a3 a4 a5 ∧ ∀ (a1 : α1) (a2 : α2) (a3 : α3) (a4 : α4) (a5 : α5), I a1 a2 a3 a4 a5 → R I μ a1 a2 a3 a4 a5 :=
  ⟨J, m, h0, step J m (fun y1 y2 y3 y4 y5 a1 a2 a3 a4 a5 _ h1 h2 => ⟨h1, h2⟩)⟩
theorem lp6 {α1 α2 α3 α4 α5 α6 : Type} {R : (α1 → α2 → α3 → α4 → α5 → α6 → Prop) → (α1 → α2 → α3 → α4 → α5 → α6 → Nat) → α1 → α2 → α3 → α4 → α5 → α6 → Prop} {a1 : α1} {a2 : α2} {a3 : α3} {a4 : α4} {a5 : α5} {a6 : α6} (J : α1 → α2 → α3 → α4 → α5 → α6 → Prop) (m : α1 → α2 → α3 → α4 → α5 → α6 → Nat) (h0 : J a1 a2 a3 a4 a5 a6) (step : ∀ (I : α1 → α2 → α3 → α4 → α5 → α6 → Prop) (μ : α1 → α2 → α3 → α4 → α5 → α6 → Nat), (∀ (y1 : α1) (y2 : α2) (y3 : α3) (y4 : α4) (y5 : α5) (y6 : α6) (a1 : α1) (a2 : α2) (a3 : α3) (a4 : α4) (a5 : α5) (a6 : α6), J a1 a2 a3 a4 a5 a6 → J y1 y2 y3 y4 y5 y6 → m y1 y2 y3 y4 y5 y6 < m a1 a2 a3 a4 a5 a6 → I y1 y2 y3 y4 y5 y6 ∧ μ y1 y2 y3 y4 y5 y6 < μ a1 a2 a3 a4 a5 a6) → ∀ (a1 : α1) (a2 : α2) (a3 : α3) (a4 : α4) (a5 : α5) (a6 : α6), J a1 a2 a3 a4 a5 a6 → R I μ a1 a2 a3 a4 a5 a6) : ∃ (I : α1 → α2 → α3 → α4 → α5 → α6 → Prop) (μ : α1 → α2 → α3 → α4 → α5 → α6 → Nat), I a1 a2 a3 a4 a5 a6 ∧ ∀ (a1 : α1) (a2 : α2) (a3 : α3) (a4 : α4) (a5 : α5) (a6 : α6), I a1 a2 a3 a4 a5 a6 → R I μ a1 a2 a3 a4 a5 a6 :=
  ⟨J, m, h0, step J m (fun y1 y2 y3 y4 y5 y6 a1 a2 a3 a4 a5 a6 _ h1 h2 => ⟨h1, h2⟩)⟩
theorem lp7 {α1 α2 α3 α4 α5 α6 α7 : Type} {R : (α1 → α2 → α3 → α4 → α5 → α6 → α7 → Prop) → (α1 → α2 → α3 → α4 → α5 → α6 → α7 → Nat) → α1 → α2 → α3 → α4 → α5 → α6 → α7 → Prop} {a1 : α1} {a2 : α2} {a3 : α3} {a4 : α4} {a5 : α5} {a6 : α6} {a7 : α7} (J : α1 → α2 → α3 → α4 → α5 → α6 → α7 → Prop) (m : α1 → α2 → α3 → α4 → α5 → α6 → α7 → Nat) (h0 : J a1 a2 a3 a4 a5 a6 a7) (step : ∀ (I : α1 → α2 → α3 → α4 → α5 → α6 → α7 → Prop) (μ : α1 → α2 → α3 → α4 → α5 → α6 → α7 → Nat), (∀ (y1 : α1) (y2 : α2) (y3 : α3) (y4 : α4) (y5 : α5) (y6 : α6) (y7 : α7) (a1 : α1) (a2 : α2) (a3 : α3) (a4 : α4) (a5 : α5) (a6 : α6) (a7 : α7), J a1 a2 a3 a4 a5 a6 a7 → J y1 y2 y3 y4 y5 y6 y7 → m y1 y2 y3 y4 y5 y6 y7 < m a1 a2 a3 a4 a5 a6 a7 → I y1 y2 y3 y4 y5 y6 y7 ∧ μ y1 y2 y3 y4 y5 y6 y7 < μ a1 a2 a3 a4 a5 a6 a7) → ∀ (a1 : α1) (a2 : α2) (a3 : α3) (a4 : α4) (a5 : α5) (a6 : α6) (a7 : α7), J a1 a2 a3 a4 a5 a6 a7 → R I μ a1 a2 a3 a4 a5 a6 a7) : ∃ (I : α1 → α2 → α3 → α4 → α5 → α6 → α7 → Prop) (μ : α1 → α2 → α3 → α4 → α5 → α6 → α7 → Nat), I a1 a2 a3 a4 a5 a6 a7 ∧ ∀ (a1 : α1) (a2 : α2) (a3 : α3) (a4 : α4) (a5 : α5) (a6 : α6) (a7 : α7), I a1 a2 a3 a4 a5 a6 a7 → R I μ a1 a2 a3 a4 a5 a6 a7 :=
  ⟨J, m, h0, step J m (fun y1 y2 y3 y4 y5 y6 y7 a1 a2 a3 a4 a5 a6 a7 _ h1 h2 => ⟨h1, h2⟩)⟩
theorem lp8 {α1 α2 α3 α4 α5 α6 α7 α8 : Type} {R : (α1 → α2 → α3 → α4 → α5 → α6 → α7 → α8 → Prop) → (α1 → α2 → α3 → α4 → α5 → α6 → α7 → α8 → Nat) → α1 → α2 → α3 → α4 → α5 → α6 → α7 → α8 → Prop} {a1 : α1} {a2 : α2} {a3 : α3} {a4 : α4} {a5 : α5} {a6 : α6} {a7 : α7} {a8 : α8} (J : α1 → α2 → α3 → α4 → α5 → α6 → α7 → α8 → Prop) (m : α1 → α2 → α3 → α4 → α5 → α6 → α7 → α8 → Nat) (h0 : J a1 a2 a3 a4 a5 a6 a7 a8) (step : ∀ (I : α1 → α2 → α3 → α4 → α5 → α6 → α7 → α8 → Prop) (μ : α1 → α2 → α3 → α4 → α5 → α6 → α7 → α8 → Nat), (∀ (y1 : α1) (y2 : α2) (y3 : α3) (y4 : α4) (y5 : α5) (y6 : α6) (y7 : α7) (y8 : α8) (a1 : α1) (a2 : α2) (a3 : α3) (a4 : α4) (a5 : α5) (a6 : α6) (a7 : α7) (a8 : α8), J a1 a2 a3 a4 a5 a6 a7 a8 → J y1 y2 y3 y4 y5 y6 y7 y8 → m y1 y2 y3 y4 y5 y6 y7 y8 < m a1 a2 a3 a4 a5 a6 a7 a8 → I y1 y2 y3 y4 y5 y6 y7 y8 ∧ μ y1 y2 y3 y4 y5 y6 y7 y8 < μ a1 a2 a3 a4 a5 a6 a7 a8) → ∀ (a1 : α1) (a2 : α2) (a3 : α3) (a4 : α4) (a5 : α5) (a6 : α6) (a7 : α7) (a8 : α8), J a1 a2 a3 a4 a5 a6 a7 a8 → R I μ a1 a2 a3 a4 a5 a6 a7 a8) : ∃ (I : α1 → α2 → α3 → α4 → α5 → α6 → α7 → α8 → Prop) (μ : α1 → α2 → α3 → α4 → α5 → α6 → α7 → α8 → Nat), I a1 a2 a3 a4 a5 a6 a7 a8 ∧ ∀ (a1 : α1) (a2 : α2) (a3 : α3) (a4 : α4) (a5 : α5) (a6 : α6) (a7 : α7) (a8 : α8), I a1 a2 a3 a4 a5 a6 a7 a8 → R I μ a1 a2 a3 a4 a5 a6 a7 a8 :=
  ⟨J, m, h0, step J m (fun y1 y2 y3 y4 y5 y6 y7 y8 a1 a2 a3 a4 a5 a6 a7 a8 _ h1 h2 => ⟨h1, h2⟩)⟩
theorem lp9 {α1 α2 α3 α4 α5 α6 α7 α8 α9 : Type} {R : (α1 → α2 → α3 → α4 → α5 → α6 → α7 → α8 → α9 → Prop) → (α1 → α2 → α3 → α4 → α5 → α6 → α7 → α8 → α9 → Nat) → α1 → α2 → α3 → α4 → α5 → α6 → α7 → α8 → α9 → Prop} {a1 : α1} {a2 : α2} {a3 : α3} {a4 : α4} {a5 : α5} {a6 : α6} {a7 : α7} {a8 : α8} {a9 : α9} (J : α1 → α2 → α3 → α4 → α5 → α6 → α7 → α8 → α9 → Prop) (m : α1 → α2 → α3 → α4 → α5 → α6 → α7 → α8 → α9 → Nat) (h0 : J a1 a2 a3 a4 a5 a6 a7 a8 a9) (step : ∀ (I : α1 → α2 → α3 → α4 → α5 → α6 → α7 → α8 → α9 → Prop) (μ : α1 → α2 → α3 → α4 → α5 → α6 → α7 → α8 → α9 → Nat), (∀ (y1 : α1) (y2 : α2) (y3 : α3) (y4 : α4) (y5 : α5) (y6 : α6) (y7 : α7) (y8 : α8) (y9 : α9) (a1 : α1) (a2 : α2) (a3 : α3) (a4 : α4) (a5 : α5) (a6 : α6) (a7 : α7) (a8 : α8) (a9 : α9), J a1 a2 a3 a4 a5 a6 a7 a8 a9 → J y1 y2 y3 y4 y5 y6 y7 y8 y9 → m y1 y2 y3 y4 y5 y6 y7 y8 y9 < m a1 a2 a3 a4 a5 a6 a7 a8 a9 → I y1 y2 y3 y4 y5 y6 y7 y8 y9 ∧ μ y1 y2 y3 y4 y5 y6 y7 y8 y9 < μ a1 a2 a3 a4 a5 a6 a7 a8 a9) → ∀ (a1 : α1) (a2 : α2) (a3 : α3) (a4 : α4) (a5 : α5) (a6 : α6) (a7 : α7) (a8 : α8) (a9 : α9), J a1 a2 a3 a4 a5 a6 a7 a8 a9 → R I μ a1 a2 a3 a4 a5 a6 a7 a8 a9) : ∃ (I : α1 → α2 → α3 → α4 → α5 → α6 → α7 → α8 → α9 → Prop) (μ : α1 → α2 → α3 → α4 → α5 → α6 → α7 → α8 → α9 → Nat), I a1 a2 a3 a4 a5 a6 a7 a8 a9 ∧ ∀ (a1 : α1) (a2 : α2) (a3 : α3) (a4 : α4) (a5 : α5) (a6 : α6) (a7 : α7) (a8 : α8) (a9 : α9), I a1 a2 a3 a4 a5 a6 a7 a8 a9 → R I μ a1 a2 a3 a4 a5 a6 a7 a8 a9 :=
  ⟨J, m, h0, step J m (fun y1 y2 y3 y4 y5 y6 y7 y8 y9 a1 a2 a3 a4 a5 a6 a7 a8 a9 _ h1 h2 => ⟨h1, h2⟩)⟩
theorem lp10 {α1 α2 α3 α4 α5 α6 α7 α8 α9 α10 : Type} {R : (α1 → α2 → α3 → α4 → α5 → α6 → α7 → α8 → α9 → α10 → Prop) → (α1 → α2 → α3 → α4 → α5 → α6 → α7 → α8 → α9 → α10 → Nat) → α1 → α2 → α3 → α4 → α5 → α6 → α7 → α8 → α9 → α10 → Prop} {a1 : α1} {a2 : α2} {a3 : α3} {a4 : α4} {a5 : α5} {a6 : α6} {a7 : α7} {a8 : α8} {a9 : α9} {a10 : α10} (J : α1 → α2 → α3 → α4 → α5 → α6 → α7 → α8 → α9 → α10 → Prop) (m : α1 → α2 → α3 → α4 → α5 → α6 → α7 → α8 → α9 → α10 → Nat) (h0 : J a1 a2 a3 a4 a5 a6 a7 a8 a9 a10) (step : ∀ (I : α1 → α2 → α3 → α4 → α5 → α6 → α7 → α8 → α9 → α10 → Prop) (μ : α1 → α2 → α3 → α4 → α5 → α6 → α7 → α8 → α9 → α10 → Nat), (∀ (y1 : α1) (y2 : α2) (y3 : α3) (y4 : α4) (y5 : α5) (y6 : α6) (y7 : α7) (y8 : α8) (y9 : α9) (y10 : α10) (a1 : α1) (a2 : α2) (a3 : α3) (a4 : α4) (a5 : α5) (a6 : α6) (a7 : α7) (a8 : α8) (a9 : α9) (a10 : α10), J a1 a2 a3 a4 a5 a6 a7 a8 a9 a10 → J y1 y2 y3 y4 y5 y6 y7 y8 y9 y10 → m y1 y2 y3 y4 y5 y6 y7 y8 y9 y10 < m a1 a2 a3 a4 a5 a6 a7 a8 a9 a10 → I y1 y2 y3 y4 y5 y6 y7 y8 y9 y10 ∧ μ y1 y2 y3 y4 y5 y6 y7 y8 y9 y10 < μ a1 a2 a3 a4 a5 a6 a7 a8 a9 a10) → ∀ (a1 : α1) (a2 : α2) (a3 : α3) (a4 : α4) (a5 : α5) (a6 : α6) (a7 : α7) (a8 : α8) (a9 : α9) (a10 : α10), J a1 a2 a3 a4 a5 a6 a7 a8 a9 a10 → R I μ a1 a2 a3 a4 a5 a6 a7 a8 a9 a10) : ∃ (I : α1 → α2 → α3 → α4 → α5 → α6 → α7 → α8 → α9 → α10 → Prop) (μ : α1 → α2 → α3 → α4 → α5 → α6 → α7 → α8 → α9 → α10 → Nat), I a1 a2 a3 a4 a5 a6 a7 a8 a9 a10 ∧ ∀ (a1 : α1) (a2 : α2) (a3 : α3) (a4 : α4) (a5 : α5) (a6 : α6) (a7 : α7) (a8 : α8) (a9 : α9) (a10 : α10), I a1 a2 a3 a4 a5 a6 a7 a8 a9 a10 → R I μ a1 a2 a3 a4 a5 a6 a7 a8 a9 a10 :=
  ⟨J, m, h0, step J m (fun y1 y2 y3 y4 y5 y6 y7 y8 y9 y10 a1 a2 a3 a4 a5 a6 a7 a8 a9 a10 _ h1 h2 => ⟨h1, h2⟩)⟩
theorem lp11 {α1 α2 α3 α4 α5 α6 α7 α8 α9 α10 α11 : Type} {R : (α1 → α2 → α3 → α4 → α5 → α6 → α7 → α8 → α9 → α10 → α11 → Prop) → (α1 → α2 → α3 → α4 → α5 → α6 → α7 → α8 → α9 → α10 → α11 → Nat) → α1 → α2 → α3 → α4 → α5 → α6 → α7 → α8 → α9 → α10 → α11 → Prop} {a1 : α1} {a2 : α2} {a3 : α3} {a4 : α4} {a5 : α5} {a6 : α6} {a7 : α7} {a8 : α8} {a9 : α9} {a10 : α10} {a11 : α11} (J : α1 → α2 → α3 → α4 → α5 → α6 → α7 → α8 → α9 → α10 → α11 → Prop) (m : α1 → α2 → α3 → α4 → α5 → α6 → α7 → α8 → α9 → α10 → α11 → Nat) (h0 : J a1 a2 a3 a4 a5 a6 a7 a8 a9 a10 a11) (step : ∀ (I : α1 → α2 → α3 → α4 → α5 → α6 → α7 → α8 → α9 → α10 → α11 → Prop) (μ : α1 → α2 → α3 → α4 → α5 → α6 → α7 → α8 → α9 → α10 → α11 → Nat), (∀ (y1 : α1) (y2 : α2) (y3 : α3) (y4 : α4) (y5 : α5) (y6 : α6) (y7 : α7) (y8 : α8) (y9 : α9) (y10 : α10) (y11 : α11) (a1 : α1) (a2 : α2) (a3 : α3) (a4 : α4) (a5 : α5) (a6 : α6) (a7 : α7) (a8 : α8) (a9 : α9) (a10 : α10) (a11 : α11), J a1 a2 a3 a4 a5 a6 a7 a8 a9 a10 a11 → J y1 y2 y3 y4 y5 y6 y7 y8 y9 y10 y11 → m y1 y2 y3 y4 y5 y6 y7 y8 y9 y10 y11 < m a1 a2 a3 a4 a5 a6 a7 a8 a9 a10 a11 → I y1 y2 y3 y4 y5 y6 y7 y8 y9 y10 y11 ∧ μ y1 y2 y3 y4 y5 y6 y7 y8 y9 y10 y11 < μ a1 a2 a3 a4 a5 a6 a7 a8 a9 a10 a11) → ∀ (a1 : α1) (a2 : α2) (a3 : α3) (a4 : α4) (a5 : α5) (a6 : α6) (a7 : α7) (a8 : α8) (a9 : α9) (a10 : α10) (a11 : α11), J a1 a2 a3 a4 a5 a6 a7 a8 a9 a10 a11 → R I μ a1 a2 a3 a4 a5 a6 a7 a8 a9 a10 a11) : ∃ (I : α1 → α2 → α3 → α4 → α5 → α6 → α7 → α8 → α9 → α10 → α11 → Prop) (μ : α1 → α2 → α3 → α4 → α5 → α6 → α7 → α8 → α9 → α10 → α11 → Nat), I a1 a2 a3 a4 a5 a6 a7 a8 a9 a10 a11 ∧ ∀ (a1 : α1) (a2 : α2) (a3 : α3) (a4 : α4) (a5 : α5) (a6 : α6) (a7 : α7) (a8 : α8) (a9 : α9) (a10 : α10) (a11 : α11), I a1 a2 a3 a4 a5 a6 a7 a8 a9 a10 a11 → R I μ a1 a2 a3 a4 a5 a6 a7 a8 a9 a10 a11 :=
  ⟨J, m, h0, step J m (fun y1 y2 y3 y4 y5 y6 y7 y8 y9 y10 y11 a1 a2 a3 a4 a5 a6 a7 a8 a9 a10 a11 _ h1 h2 => ⟨h1, h2⟩)⟩
theorem lp12 {α1 α2 α3 α4 α5 α6 α7 α8 α9 α10 α11 α12 : Type} {R : (α1 → α2 → α3 → α4 → α5 → α6 → α7 → α8 → α9 → α10 → α11 → α12 → Prop) → (α1 → α2 → α3 → α4 → α5 → α6 → α7 → α8 → α9 → α10 → α11 → α12 → Nat) → α1 → α2 → α3 → α4 → α5 → α6 → α7 → α8 → α9 → α10 → α11 → α12 → Prop} {a1 : α1} {a2 : α2} {a3 : α3} {a4 : α4} {a5 : α5} {a6 : α6} {a7 : α7} {a8 : α8} {a9 : α9} {a10 : α10} {a11 : α11} {a12 : α12} (J : α1 → α2 → α3 → α4 → α5 → α6 → α7 → α8 → α9 → α10 → α11 → α12 → Prop) (m : α1 → α2 → α3 → α4 → α5 → α6 → α7 → α8 → α9 → α10 → α11 → α12 → Nat) (h0 : J a1 a2 a3 a4 a5 a6 a7 a8 a9 a10 a11 a12) (step : ∀ (I : α1 → α2 → α3 → α4 → α5 → α6 → α7 → α8 → α9 → α10 → α11 → α12 → Prop) (μ : α1 → α2 → α3 → α4 → α5 → α6 → α7 → α8 → α9 → α10 → α11 → α12 → Nat), (∀ (y1 : α1) (y2 : α2) (y3 : α3) (y4 : α4) (y5 : α5) (y6 : α6) (y7 : α7) (y8 : α8) (y9 : α9) (y10 : α10) (y11 : α11) (y12 : α12) (a1 : α1) (a2 : α2) (a3 : α3) (a4 : α4) (a5 : α5) (a6 : α6) (a7 : α7) (a8 : α8) (a9 : α9) (a10 : α10) (a11 : α11) (a12 : α12), J a1 a2 a3 a4 a5 a6 a7 a8 a9 a10 a11 a12 → J y1 y2 y3 y4 y5 y6 y7 y8 y9 y10 y11 y12 → m y1 y2 y3 y4 y5 y6 y7 y8 y9 y10 y11 y12 < m a1 a2 a3 a4 a5 a6 a7 a8 a9 a10 a11 a12 → I y1 y2 y3 y4 y5 y6 y7 y8 y9 y10 y11 y12 ∧ μ y1 y2 y3 y4 y5 y6 y7 y8 y9 y10 y11 y12 < μ a1 a2 a3 a4 a5 a6 a7 a8 a9 a10 a11 a12) → ∀ (a1 : α1) (a2 : α2) (a3 : α3) (a4 : α4) (a5 : α5) (a6 : α6) (a7 : α7) (a8 : α8) (a9 : α9) (a10 : α10) (a11 : α11) (a12 : α12), J a1 a2 a3 a4 a5 a6 a7 a8 a9 a10 a11 a12 → R I μ a1 a2 a3 a4 a5 a6 a7 a8 a9 a10 a11 a12) : ∃ (I : α1 → α2 → α3 → α4 → α5 → α6 → α7 → α8 → α9 → α10 → α11 → α12 → Prop) (μ : α1 → α2 → α3 → α4 → α5 → α6 → α7 → α8 → α9 → α10 → α11 → α12 → Nat), I a1 a2 a3 a4 a5 a6 a7 a8 a9 a10 a11 a12 ∧ ∀ (a1 : α1) (a2 : α2) (a3 : α3) (a4 : α4) (a5 : α5) (a6 : α6) (a7 : α7) (a8 : α8) (a9 : α9) (a10 : α10) (a11 : α11) (a12 : α12), I a1 a2 a3 a4 a5 a6 a7 a8 a9 a10 a11 a12 → R I μ a1 a2 a3 a4 a5 a6 a7 a8 a9 a10 a11 a12 :=
  ⟨J, m, h0, step J m (fun y1 y2 y3 y4 y5 y6 y7 y8 y9 y10 y11 y12 a1 a2 a3 a4 a5 a6 a7 a8 a9 a10 a11 a12 _ h1 h2 => ⟨h1, h2⟩)⟩
abbrev BigLen (n : Nat) : Prop := n ≤ 9223372036854775807
theorem r_one {k : Wk} {w0 : Org} {ops : Array Oper} {l : List Oper} {Q : St → Prop} {s : St} {x : Nat} {d : Cell} (hx : getF s.F x = .one (.d d)) (h : d.Ok → rg k w0 ops l Q s) : rg k w0 ops l Q s :=
  rgI fun g a w hs => rgO (h (by have := hs.hF x; rw [hx] at this; exact (this.one_inv.unD rfl).okk)) g a w hs
section
variable {k : Wk} {w0 : Org} {s : St} {Q : Exit → St → Prop} {c : Code} {P1 : Prop}
theorem v_kint {x : Nat} {n : Int} (hx : getF s.F x = .one (.d (.int .i64 n))) (hP : Hld (Fct (InI n) P1)) (h : Hld P1 → wk k w0 c Q s) : wk k w0 c Q s :=
  k_one hx fun ho => h ⟨hP.out.h ho.i64⟩
theorem v_klist {x : Nat} {α : Type} {f : α → List Cell} {xs : List α} (hx : getF s.F x = .one (.d (.list (xs.map f)))) (hP : Hld (Fct (xs.length ≤ 9223372036854775807 ∧ ∀ x ∈ xs, ∀ c ∈ f x, c.Ok) P1)) (h : Hld P1 → wk k w0 c Q s) : wk k w0 c Q s :=
  k_one hx fun ho => h ⟨hP.out.h ho.map⟩
theorem v_kany {x : Nat} {d : Cell} (hx : getF s.F x = .one (.d d)) (hP : Hld (Fct d.Ok P1)) (h : Hld P1 → wk k w0 c Q s) : wk k w0 c Q s :=
  k_one hx fun ho => h ⟨hP.out.h ho⟩
theorem v_kagg {x : Nat} {cs : List CV} (j : Nat) {d : Cell} (hx : getF s.F x = .agg cs) (hj : cs[j]? = some (.d d)) (hP : Hld (Fct d.Ok P1)) (h : Hld P1 → wk k w0 c Q s) : wk k w0 c Q s :=
  k_agg j hx hj fun ho => h ⟨hP.out.h ho⟩
theorem v_krp {x : Nat} {cs : List CV} (j : Nat) {d : Cell} (hx : getF s.F x = .one (.rp cs)) (hj : cs[j]? = some (.d d)) (hP : Hld (Fct d.Ok P1)) (h : Hld P1 → wk k w0 c Q s) : wk k w0 c Q s :=
  k_rp j hx hj fun ho => h ⟨hP.out.h ho⟩
end
section
variable {k : Wk} {w0 : Org} {ops : Array Oper} {l : List Oper} {Q : St → Prop} {F F' : List (Nat × SV)} {H H' : List (Nat × VH)} {d t t' ty : Nat} {x y : Operand} {p : String} {af : Array Edge} {P1 : Prop}
theorem v_lenm {α : Type} {f : α → List Cell} {xs : List α} {e n b : Nat} (hN : Nat.blt d k.N = true) (hx : (St.mk F H).ev x = .one (.d (.list (xs.map f)))) (ht : tyAt k.τ t' = .sl e n b) (hP : Hld (Fct (xs.length ≤ 9223372036854775807) P1)) (h : Hld P1 → rg k w0 ops l Q ⟨(d, (.one (.d (.int .i64 (xs.length : Int))))) :: F, H⟩) : rg k w0 ops (⟨some d, .call { callee := .builtin .len, args := #[x], argTypes := #[t'] }, t, p, af, none⟩ :: l) Q ⟨F, H⟩ :=
  j_lenm hN hx ht (r_one (x := d) (d := .int .i64 (xs.length : Int)) (by simp [getF]) fun ho => h ⟨hP.out.h (by have := ho.i64; omega)⟩)
theorem v_lens {r m sz e n b : Nat} (hN : Nat.blt d k.N = true) (hx : (St.mk F H).ev x = .one (.sl r m sz)) (ht : tyAt k.τ t' = .sl e n b) (hP : Hld (Fct (m ≤ 9223372036854775807) P1)) (h : Hld P1 → rg k w0 ops l Q ⟨(d, (.one (.d (.int .i64 (m : Int))))) :: F, H⟩) : rg k w0 ops (⟨some d, .call { callee := .builtin .len, args := #[x], argTypes := #[t'] }, t, p, af, none⟩ :: l) Q ⟨F, H⟩ :=
  j_lens hN hx ht (r_one (x := d) (d := .int .i64 (m : Int)) (by simp [getF]) fun ho => h ⟨hP.out.h (by have := ho.i64; omega)⟩)
end
/-! regions that draw their order -/
structure Bth (P Q : Prop) : Prop where
  a : P
  b : Q
theorem bth_a {P Q : Prop} (h : Hld (Bth P Q)) : Hld P := ⟨h.out.a⟩
theorem bth_b {P Q : Prop} (h : Hld (Bth P Q)) : Hld Q := ⟨h.out.b⟩
theorem nd_intro {α : Type} {φ : α → Prop} {g : α → SV} {R : α → Prop} {G : SV → Prop} (hP : Hld (∀ x, φ x → R x)) (h : ∀ x, φ x → Hld (R x) → G (g x)) : ∀ v, ND φ g v → G v :=
  fun v ⟨x, hx, e⟩ => by rw [e]; exact h x hx ⟨hP.out x hx⟩
section
variable {k : Wk} {w0 : Org} {ops : Array Oper} {W : Option (List Nat)} {S listed : Array Bool} {nq m n : Nat} {Q : St → Prop} {s : St} {l : List Nat} {op : Op} {ty : TypeId} {pp : String} {af : Array Edge} {d i : Nat} {P1 P2 : Prop}
theorem v_dgs {dst : Option Nat} {j q : Nat} {w : Bool} (c : Bool) (hi : ops[i]? = some ⟨dst, op, ty, pp, af, some (j, w)⟩) (hj : (ops[j]?).bind (·.dst) = some q) (hv : getF s.F q = .one (.d (.bool c))) (hP : Hld (Brn c P1 P2)) (h1 : c = true → Hld P1 → qn k w0 ops W S m Q (i :: l) listed s) (h2 : c = false → Hld P2 → qn k w0 ops W S m Q (i :: l) listed s) : qn k w0 ops W S m Q (i :: l) listed s :=
  d_gs c hi hj hv (fun e => h1 e ⟨hP.out.t e⟩) (fun e => h2 e ⟨hP.out.f e⟩)
theorem v_dtwo {x : Nat} (i j : Nat) (hr : Region.ready .any ops listed = [i, j]) (hP : Hld (Bth P1 P2)) (h1 : Hld P1 → qst k w0 ops W S m Q l.length i listed s) (h2 : Hld P2 → qst k w0 ops W S m Q l.length j listed s) : qn k w0 ops W S m Q (x :: l) listed s :=
  d_two i j hr (h1 (bth_a hP)) (h2 (bth_b hP))
theorem v_dthree {P3 : Prop} {x : Nat} (i j r : Nat) (hr : Region.ready .any ops listed = [i, j, r]) (hP : Hld (Bth P1 (Bth P2 P3))) (h1 : Hld P1 → qst k w0 ops W S m Q l.length i listed s) (h2 : Hld P2 → qst k w0 ops W S m Q l.length j listed s) (h3 : Hld P3 → qst k w0 ops W S m Q l.length r listed s) : qn k w0 ops W S m Q (x :: l) listed s :=
  d_three i j r hr (h1 (bth_a hP)) (h2 (bth_a (bth_b hP))) (h3 (bth_b (bth_b hP)))
theorem v_sste {α : Type} {f : α → List Cell} {xs : List α} {x' : α} {t : Nat} {x y : Operand} {r j2 sz n e : Nat} {mm : Int} {vs : List CV} {ds : List Cell} (hi : ops[i]? = some ⟨none, .store t x y, ty, pp, af, none⟩) (hx : s.ev x = .one (.el r mm.toNat j2 sz)) (hW : inW W r = true) (hH : getH s.H r = .arr e sz (xs.map f)) (inst : Inhabited α) (hn : (tyAt k.τ t).size = some n) (hy : (s.ev y).cells = some vs) (hds : unDL vs = some ds) (hl : ds.length = n) (hle : Nat.ble (j2 + n) (f (gt xs mm)).length = true) (hr : setSegC (f (gt xs mm)) j2 ds = f x') (hc : 0 ≤ mm ∧ mm < (xs.length : Int))
    (hq : l.length = nq) (h : qn k w0 ops W S m Q l (listed.setIfInBounds i true) (s.hput r (.arr e sz ((xs.set mm.toNat x').map f)))) : qst k w0 ops W S m Q nq i listed s :=
  s_ste hi hx hW hH hn hy hds hl (gt_row hc.1 hc.2) (Nat.le_of_ble_eq_true hle) hq (by rw [hr, ← List.map_set]; exact h)
theorem v_dste {α : Type} {f : α → List Cell} {xs : List α} {x' : α} {t : Nat} {x y : Operand} {r j2 sz n e : Nat} {mm : Int} {vs : List CV} {ds : List Cell} (hi : ops[i]? = some ⟨none, .store t x y, ty, pp, af, none⟩) (hr0 : Region.ready .any ops listed = [i]) (hx : s.ev x = .one (.el r mm.toNat j2 sz)) (hW : inW W r = true) (hH : getH s.H r = .arr e sz (xs.map f)) (inst : Inhabited α) (hn : (tyAt k.τ t).size = some n) (hy : (s.ev y).cells = some vs) (hds : unDL vs = some ds) (hl : ds.length = n) (hle : Nat.ble (j2 + n) (f (gt xs mm)).length = true) (hr : setSegC (f (gt xs mm)) j2 ds = f x') (hc : 0 ≤ mm ∧ mm < (xs.length : Int))
    (h : qn k w0 ops W S m Q l (listed.setIfInBounds i true) (s.hput r (.arr e sz ((xs.set mm.toNat x').map f)))) : qn k w0 ops W S m Q (i :: l) listed s :=
  d_one hr0 (v_sste hi hx hW hH inst hn hy hds hl hle hr hc rfl h)
theorem v_sap0 {α : Type} (f : α → List Cell) {ys : List α} {t e sz by_ : Nat} {zs : List Z} {x y : Operand} {rows' : List (List Cell)} (hi : ops[i]? = some ⟨some d, .call { callee := .builtin .append, args := #[x, y], argTypes := #[t, t] }, ty, pp, af, none⟩) (hN : Nat.blt d k.N = true)
    (ht : tyAt k.τ t = .sl e sz by_) (hz : (tyAt k.τ e).zs = some zs) (hzl : zs.length = sz) (h0 : Nat.blt 0 sz = true) (hx : s.ev x = .one .nil) (hy : Src s sz (s.ev y) rows') (hrow : rows' = ys.map f) (hfr : s.fresh d = true) (hb0 : Nat.blt 0 by_ = true) (hb1 : Nat.ble by_ 140000 = true) (hbd : ys.length ≤ 1000000000)
    (hl : l.length = nq) (h : qn k w0 ops W S m Q l (listed.setIfInBounds i true) ((s.hput d (.arr e sz (ys.map f))).put d (.one (.sl d ys.length sz)))) : qst k w0 ops W S m Q nq i listed s := by
  subst hrow
  refine s_ap0 hi hN ht hz hzl h0 hx hy hfr ?_ hb0 hl (by rw [List.length_map]; exact h)
  rw [List.length_map]
  have := Nat.le_of_ble_eq_true hb1
  exact Nat.le_trans (Nat.mul_le_mul hbd this) (by decide)
theorem v_dap0 {α : Type} (f : α → List Cell) {ys : List α} {t e sz by_ : Nat} {zs : List Z} {x y : Operand} {rows' : List (List Cell)} (hi : ops[i]? = some ⟨some d, .call { callee := .builtin .append, args := #[x, y], argTypes := #[t, t] }, ty, pp, af, none⟩) (hN : Nat.blt d k.N = true) (hr : Region.ready .any ops listed = [i])
    (ht : tyAt k.τ t = .sl e sz by_) (hz : (tyAt k.τ e).zs = some zs) (hzl : zs.length = sz) (h0 : Nat.blt 0 sz = true) (hx : s.ev x = .one .nil) (hy : Src s sz (s.ev y) rows') (hrow : rows' = ys.map f) (hfr : s.fresh d = true) (hb0 : Nat.blt 0 by_ = true) (hb1 : Nat.ble by_ 140000 = true) (hbd : ys.length ≤ 1000000000)
    (h : qn k w0 ops W S m Q l (listed.setIfInBounds i true) ((s.hput d (.arr e sz (ys.map f))).put d (.one (.sl d ys.length sz)))) : qn k w0 ops W S m Q (i :: l) listed s :=
  d_one hr (v_sap0 f hi hN ht hz hzl h0 hx hy hrow hfr hb0 hb1 hbd rfl h)
theorem v_sbs {α : Type} (f : α → List Cell) {xs : List α} {t len e sz by_ : Nat} {zs : List Z} {parts : Array (Nat × Operand)} {cp : List (Nat × List CV)} {r : List CV} {fl : List Cell} (hi : ops[i]? = some ⟨some d, .buildSlice t len parts, ty, pp, af, none⟩) (hN : Nat.blt d k.N = true)
    (ht : tyAt k.τ t = .sl e sz by_) (hz : (tyAt k.τ e).zs = some zs) (hp : partsOf s parts.toList = some cp) (hcf : cfill ((List.range len).map fun i => (i * sz, sz)) (List.replicate (len * sz) .u) cp = some r) (hfl : unDL r = some fl)
    (h0 : Nat.blt 0 (len * sz) = true) (hm : Nat.ble (len * sz) 16777216 = true) (hfr : s.fresh d = true) (hzl : zs.length = sz) (hrow : chunks sz len fl = xs.map f) (hn : len = xs.length)
    (hl : l.length = nq) (h : qn k w0 ops W S m Q l (listed.setIfInBounds i true) ((s.hput d (.arr e sz (xs.map f))).put d (.one (.sl d xs.length sz)))) : qst k w0 ops W S m Q nq i listed s :=
  s_bs hi hN ht hz hp hcf hfl h0 hm hfr hzl hl (by rw [hrow, hn]; exact h)
theorem v_dbs {α : Type} (f : α → List Cell) {xs : List α} {t len e sz by_ : Nat} {zs : List Z} {parts : Array (Nat × Operand)} {cp : List (Nat × List CV)} {r : List CV} {fl : List Cell} (hi : ops[i]? = some ⟨some d, .buildSlice t len parts, ty, pp, af, none⟩) (hN : Nat.blt d k.N = true) (hr : Region.ready .any ops listed = [i])
    (ht : tyAt k.τ t = .sl e sz by_) (hz : (tyAt k.τ e).zs = some zs) (hp : partsOf s parts.toList = some cp) (hcf : cfill ((List.range len).map fun i => (i * sz, sz)) (List.replicate (len * sz) .u) cp = some r) (hfl : unDL r = some fl)
    (h0 : Nat.blt 0 (len * sz) = true) (hm : Nat.ble (len * sz) 16777216 = true) (hfr : s.fresh d = true) (hzl : zs.length = sz) (hrow : chunks sz len fl = xs.map f) (hn : len = xs.length)
    (h : qn k w0 ops W S m Q l (listed.setIfInBounds i true) ((s.hput d (.arr e sz (xs.map f))).put d (.one (.sl d xs.length sz)))) : qn k w0 ops W S m Q (i :: l) listed s :=
  d_one hr (v_sbs f hi hN ht hz hp hcf hfl h0 hm hfr hzl hrow hn rfl h)
theorem f_call {pre : Prop} {pu : Bool} {o : Oper} {f : FuncId} {xs : Array Operand} {ts : Array TypeId} {args : List SV} {v : SV} (ho : o.op = .call { callee := .value (.func f), args := xs, argTypes := ts }) (hk : k.P = Try.prog ∧ k.T = 26) (hic : ICp pre f args (fun x => x = v)) (ha : PsSL k.P k.T s pu xs.toList args) (hsc : pu = true ∨ v.sc = true) (hpre : pre) : OpE k.P k.T k.N w0 s o v :=
  e_call ho (by rw [hk.1, hk.2]; exact hic hpre) ha hsc
theorem f_nd {pu : Bool} {o : Oper} {f : FuncId} {xs : Array Operand} {ts : Array TypeId} {args : List SV} {α : Type} {φ : α → Prop} {g : α → SV} (ho : o.op = .call { callee := .value (.func f), args := xs, argTypes := ts }) (hic : IC k.P k.T f args (ND φ g)) (ha : PsSL k.P k.T s pu xs.toList args) (hsc : pu = true ∨ ∀ x, (g x).sc = true) : OpQ k.P k.T k.N w0 s o (ND φ g) :=
  e_callp ho hic ha (hsc.imp id fun h v ⟨x, _, e⟩ => by rw [e]; exact h x)
theorem f_ndp {pre : Prop} {pu : Bool} {o : Oper} {f : FuncId} {xs : Array Operand} {ts : Array TypeId} {args : List SV} {α : Type} {φ : α → Prop} {g : α → SV} (ho : o.op = .call { callee := .value (.func f), args := xs, argTypes := ts }) (hk : k.P = Try.prog ∧ k.T = 26) (hic : ICp pre f args (ND φ g)) (ha : PsSL k.P k.T s pu xs.toList args) (hsc : pu = true ∨ ∀ x, (g x).sc = true) (hpre : pre) : OpQ k.P k.T k.N w0 s o (ND φ g) :=
  f_nd ho (by rw [hk.1, hk.2]; exact hic hpre) ha hsc
end
theorem v_rmono {k : Wk} {w0 : Org} {Q : Exit → St → Prop} {c : Code} {s : St} {R1 R2 : St → Prop} (h : wk k w0 c (kRound Q R1) s) (hR : ∀ s', R1 s' → R2 s') : wk k w0 c (kRound Q R2) s := by
  refine wkI (iwp_mono (wkO h) fun e s' hq => ?_)
  unfold kRound at hq ⊢
  cases e <;> first | exact hq | exact hR _ hq
theorem v_loop1 {k : Wk} {w0 : Org} {Q : Exit → St → Prop} {c : Code} {s : St} {F' : List (Nat × SV)} {H' : List (Nat × VH)} {α1 : Type} {R : (α1 → Prop) → (α1 → Nat) → α1 → Prop} (a1 : α1) (live lh : List Nat) (FA : α1 → List (Nat × SV)) (HA : α1 → List (Nat × VH)) (vs : List Nat) (hF : lvK s.F live some = some F') (hH : lvHK s.H lh some = some H') (h0 : Fits vs s ⟨FA a1 ++ F', HA a1 ++ H'⟩) (hP : Hld (∃ (I : α1 → Prop) (μ : α1 → Nat), I a1 ∧ ∀ (x1 : α1), I x1 → R I μ x1))
    (round : ∀ (I : α1 → Prop) (μ : α1 → Nat) (x1 : α1), Hld (R I μ x1) → wk k w0 c (kRound Q (fun s' => ∃ (y1 : α1), I y1 ∧ μ y1 < μ x1 ∧ ∃ vs', Fits vs' s' ⟨FA y1 ++ F', HA y1 ++ H'⟩)) ⟨FA x1 ++ F', HA x1 ++ H'⟩) : wk k w0 (.loop c) Q s := by
  obtain ⟨I, μ, hI, hR⟩ := hP.out
  exact c_any (ι := α1) a1 live lh (fun q => I q) (fun q => μ q) hI (fun q => FA q) (fun q => HA q) vs hF hH h0 fun q hq => v_rmono (round I μ q ⟨hR q hq⟩) fun s' ⟨y1, h1, h2, h3⟩ => ⟨y1, h1, h2, h3⟩
theorem v_nxt1 {F' : List (Nat × SV)} {H' : List (Nat × VH)} {α1 : Type} {I : α1 → Prop} {μ : α1 → Nat} {m : Nat} {FA : α1 → List (Nat × SV)} {HA : α1 → List (Nat × VH)} {s' : St} {a1 : α1} (hF : FitF [] s' (FA a1 ++ F')) (hH : FitH [] s' (HA a1 ++ H')) (hP : Hld (I a1 ∧ μ a1 < m)) : ∃ (y1 : α1), I y1 ∧ μ y1 < m ∧ ∃ vs', Fits vs' s' ⟨FA y1 ++ F', HA y1 ++ H'⟩ :=
  ⟨a1, hP.out.1, hP.out.2, [], hF, hH⟩
theorem v_loop2 {k : Wk} {w0 : Org} {Q : Exit → St → Prop} {c : Code} {s : St} {F' : List (Nat × SV)} {H' : List (Nat × VH)} {α1 α2 : Type} {R : (α1 → α2 → Prop) → (α1 → α2 → Nat) → α1 → α2 → Prop} (a1 : α1) (a2 : α2) (live lh : List Nat) (FA : α1 → α2 → List (Nat × SV)) (HA : α1 → α2 → List (Nat × VH)) (vs : List Nat) (hF : lvK s.F live some = some F') (hH : lvHK s.H lh some = some H') (h0 : Fits vs s ⟨FA a1 a2 ++ F', HA a1 a2 ++ H'⟩) (hP : Hld (∃ (I : α1 → α2 → Prop) (μ : α1 → α2 → Nat), I a1 a2 ∧ ∀ (x1 : α1) (x2 : α2), I x1 x2 → R I μ x1 x2))
    (round : ∀ (I : α1 → α2 → Prop) (μ : α1 → α2 → Nat) (x1 : α1) (x2 : α2), Hld (R I μ x1 x2) → wk k w0 c (kRound Q (fun s' => ∃ (y1 : α1) (y2 : α2), I y1 y2 ∧ μ y1 y2 < μ x1 x2 ∧ ∃ vs', Fits vs' s' ⟨FA y1 y2 ++ F', HA y1 y2 ++ H'⟩)) ⟨FA x1 x2 ++ F', HA x1 x2 ++ H'⟩) : wk k w0 (.loop c) Q s := by
  obtain ⟨I, μ, hI, hR⟩ := hP.out
  exact c_any (ι := α1 × α2) (a1, a2) live lh (fun q => I q.1 q.2) (fun q => μ q.1 q.2) hI (fun q => FA q.1 q.2) (fun q => HA q.1 q.2) vs hF hH h0 fun q hq => v_rmono (round I μ q.1 q.2 ⟨hR q.1 q.2 hq⟩) fun s' ⟨y1, y2, h1, h2, h3⟩ => ⟨(y1, y2), h1, h2, h3⟩
theorem v_nxt2 {F' : List (Nat × SV)} {H' : List (Nat × VH)} {α1 α2 : Type} {I : α1 → α2 → Prop} {μ : α1 → α2 → Nat} {m : Nat} {FA : α1 → α2 → List (Nat × SV)} {HA : α1 → α2 → List (Nat × VH)} {s' : St} {a1 : α1} {a2 : α2} (hF : FitF [] s' (FA a1 a2 ++ F')) (hH : FitH [] s' (HA a1 a2 ++ H')) (hP : Hld (I a1 a2 ∧ μ a1 a2 < m)) : ∃ (y1 : α1) (y2 : α2), I y1 y2 ∧ μ y1 y2 < m ∧ ∃ vs', Fits vs' s' ⟨FA y1 y2 ++ F', HA y1 y2 ++ H'⟩ :=
  ⟨a1, a2, hP.out.1, hP.out.2, [], hF, hH⟩
theorem v_loop3 {k : Wk} {w0 : Org} {Q : Exit → St → Prop} {c : Code} {s : St} {F' : List (Nat × SV)} {H' : List (Nat × VH)} {α1 α2 α3 : Type} {R : (α1 → α2 → α3 → Prop) → (α1 → α2 → α3 → Nat) → α1 → α2 → α3 → Prop} (a1 : α1) (a2 : α2) (a3 : α3) (live lh : List Nat) (FA : α1 → α2 → α3 → List (Nat × SV)) (HA : α1 → α2 → α3 → List (Nat × VH)) (vs : List Nat) (hF : lvK s.F live some = some F') (hH : lvHK s.H lh some = some H') (h0 : Fits vs s ⟨FA a1 a2 a3 ++ F', HA a1 a2 a3 ++ H'⟩) (hP : Hld (∃ (I : α1 → α2 → α3 → Prop) (μ : α1 → α2 → α3 → Nat), I a1 a2 a3 ∧ ∀ (x1 : α1) (x2 : α2) (x3 : α3), I x1 x2 x3 → R I μ x1 x2 x3))
    (round : ∀ (I : α1 → α2 → α3 → Prop) (μ : α1 → α2 → α3 → Nat) (x1 : α1) (x2 : α2) (x3 : α3), Hld (R I μ x1 x2 x3) → wk k w0 c (kRound Q (fun s' => ∃ (y1 : α1) (y2 : α2) (y3 : α3), I y1 y2 y3 ∧ μ y1 y2 y3 < μ x1 x2 x3 ∧ ∃ vs', Fits vs' s' ⟨FA y1 y2 y3 ++ F', HA y1 y2 y3 ++ H'⟩)) ⟨FA x1 x2 x3 ++ F', HA x1 x2 x3 ++ H'⟩) : wk k w0 (.loop c) Q s := by
  obtain ⟨I, μ, hI, hR⟩ := hP.out
  exact c_any (ι := α1 × α2 × α3) (a1, (a2, a3)) live lh (fun q => I q.1 q.2.1 q.2.2) (fun q => μ q.1 q.2.1 q.2.2) hI (fun q => FA q.1 q.2.1 q.2.2) (fun q => HA q.1 q.2.1 q.2.2) vs hF hH h0 fun q hq => v_rmono (round I μ q.1 q.2.1 q.2.2 ⟨hR q.1 q.2.1 q.2.2 hq⟩) fun s' ⟨y1, y2, y3, h1, h2, h3⟩ => ⟨(y1, (y2, y3)), h1, h2, h3⟩
theorem v_nxt3 {F' : List (Nat × SV)} {H' : List (Nat × VH)} {α1 α2 α3 : Type} {I : α1 → α2 → α3 → Prop} {μ : α1 → α2 → α3 → Nat} {m : Nat} {FA : α1 → α2 → α3 → List (Nat × SV)} {HA : α1 → α2 → α3 → List (Nat × VH)} {s' : St} {a1 : α1} {a2 : α2} {a3 : α3} (hF : FitF [] s' (FA a1 a2 a3 ++ F')) (hH : FitH [] s' (HA a1 a2 a3 ++ H')) (hP : Hld (I a1 a2 a3 ∧ μ a1 a2 a3 < m)) : ∃ (y1 : α1) (y2 : α2) (y3 : α3), I y1 y2 y3 ∧ μ y1 y2 y3 < m ∧ ∃ vs', Fits vs' s' ⟨FA y1 y2 y3 ++ F', HA y1 y2 y3 ++ H'⟩ :=
  ⟨a1, a2, a3, hP.out.1, hP.out.2, [], hF, hH⟩
theorem v_loop4 {k : Wk} {w0 : Org} {Q : Exit → St → Prop} {c : Code} {s : St} {F' : List (Nat × SV)} {H' : List (Nat × VH)} {α1 α2 α3 α4 : Type} {R : (α1 → α2 → α3 → α4 → Prop) → (α1 → α2 → α3 → α4 → Nat) → α1 → α2 → α3 → α4 → Prop} (a1 : α1) (a2 : α2) (a3 : α3) (a4 : α4) (live lh : List Nat) (FA : α1 → α2 → α3 → α4 → List (Nat × SV)) (HA : α1 → α2 → α3 → α4 → List (Nat × VH)) (vs : List Nat) (hF : lvK s.F live some = some F') (hH : lvHK s.H lh some = some H') (h0 : Fits vs s ⟨FA a1 a2 a3 a4 ++ F', HA a1 a2 a3 a4 ++ H'⟩) (hP : Hld (∃ (I : α1 → α2 → α3 → α4 → Prop) (μ : α1 → α2 → α3 → α4 → Nat), I a1 a2 a3 a4 ∧ ∀ (x1 : α1) (x2 : α2) (x3 : α3) (x4 : α4), I x1 x2 x3 x4 → R I μ x1 x2 x3 x4))
    (round : ∀ (I : α1 → α2 → α3 → α4 → Prop) (μ : α1 → α2 → α3 → α4 → Nat) (x1 : α1) (x2 : α2) (x3 : α3) (x4 : α4), Hld (R I μ x1 x2 x3 x4) → wk k w0 c (kRound Q (fun s' => ∃ (y1 : α1) (y2 : α2) (y3 : α3) (y4 : α4), I y1 y2 y3 y4 ∧ μ y1 y2 y3 y4 < μ x1 x2 x3 x4 ∧ ∃ vs', Fits vs' s' ⟨FA y1 y2 y3 y4 ++ F', HA y1 y2 y3 y4 ++ H'⟩)) ⟨FA x1 x2 x3 x4 ++ F', HA x1 x2 x3 x4 ++ H'⟩) : wk k w0 (.loop c) Q s := by
  obtain ⟨I, μ, hI, hR⟩ := hP.out
  exact c_any (ι := α1 × α2 × α3 × α4) (a1, (a2, (a3, a4))) live lh (fun q => I q.1 q.2.1 q.2.2.1 q.2.2.2) (fun q => μ q.1 q.2.1 q.2.2.1 q.2.2.2) hI (fun q => FA q.1 q.2.1 q.2.2.1 q.2.2.2) (fun q => HA q.1 q.2.1 q.2.2.1 q.2.2.2) vs hF hH h0 fun q hq => v_rmono (round I μ q.1 q.2.1 q.2.2.1 q.2.2.2 ⟨hR q.1 q.2.1 q.2.2.1 q.2.2.2 hq⟩) fun s' ⟨y1, y2, y3, y4, h1, h2, h3⟩ => ⟨(y1, (y2, (y3, y4))), h1, h2, h3⟩
theorem v_nxt4 {F' : List (Nat × SV)} {H' : List (Nat × VH)} {α1 α2 α3 α4 : Type} {I : α1 → α2 → α3 → α4 → Prop} {μ : α1 → α2 → α3 → α4 → Nat} {m : Nat} {FA : α1 → α2 → α3 → α4 → List (Nat × SV)} {HA : α1 → α2 → α3 → α4 → List (Nat × VH)} {s' : St} {a1 : α1} {a2 : α2} {a3 : α3} {a4 : α4} (hF : FitF [] s' (FA a1 a2 a3 a4 ++ F')) (hH : FitH [] s' (HA a1 a2 a3 a4 ++ H')) (hP : Hld (I a1 a2 a3 a4 ∧ μ a1 a2 a3 a4 < m)) : ∃ (y1 : α1) (y2 : α2) (y3 : α3) (y4 : α4), I y1 y2 y3 y4 ∧ μ y1 y2 y3 y4 < m ∧ ∃ vs', Fits vs' s' ⟨FA y1 y2 y3 y4 ++ F', HA y1 y2 y3 y4 ++ H'⟩ :=
  ⟨a1, a2, a3, a4, hP.out.1, hP.out.2, [], hF, hH⟩
theorem v_loop5 {k : Wk} {w0 : Org} {Q : Exit → St → Prop} {c : Code} {s : St} {F' : List (Nat × SV)} {H' : List (Nat × VH)} {α1 α2 α3 α4 α5 : Type} {R : (α1 → α2 → α3 → α4 → α5 → Prop) → (α1 → α2 → α3 → α4 → α5 → Nat) → α1 → α2 → α3 → α4 → α5 → Prop} (a1 : α1) (a2 : α2) (a3 : α3) (a4 : α4) (a5 : α5) (live lh : List Nat) (FA : α1 → α2 → α3 → α4 → α5 → List (Nat × SV)) (HA : α1 → α2 → α3 → α4 → α5 → List (Nat × VH)) (vs : List Nat) (hF : lvK s.F live some = some F') (hH : lvHK s.H lh some = some H') (h0 : Fits vs s ⟨FA a1 a2 a3 a4 a5 ++ F', HA a1 a2 a3 a4 a5 ++ H'⟩) (hP : Hld (∃ (I : α1 → α2 → α3 → α4 → α5 → Prop) (μ : α1 → α2 → α3 → α4 → α5 → Nat), I a1 a2 a3 a4 a5 ∧ ∀ (x1 : α1) (x2 : α2) (x3 : α3) (x4 : α4) (x5 : α5), I x1 x2 x3 x4 x5 → R I μ x1 x2 x3 x4 x5))
    (round : ∀ (I : α1 → α2 → α3 → α4 → α5 → Prop) (μ : α1 → α2 → α3 → α4 → α5 → Nat) (x1 : α1) (x2 : α2) (x3 : α3) (x4 : α4) (x5 : α5), Hld (R I μ x1 x2 x3 x4 x5) → wk k w0 c (kRound Q (fun s' => ∃ (y1 : α1) (y2 : α2) (y3 : α3) (y4 : α4) (y5 : α5), I y1 y2 y3 y4 y5 ∧ μ y1 y2 y3 y4 y5 < μ x1 x2 x3 x4 x5 ∧ ∃ vs', Fits vs' s' ⟨FA y1 y2 y3 y4 y5 ++ F', HA y1 y2 y3 y4 y5 ++ H'⟩)) ⟨FA x1 x2 x3 x4 x5 ++ F', HA x1 x2 x3 x4 x5 ++ H'⟩) : wk k w0 (.loop c) Q s := by
  obtain ⟨I, μ, hI, hR⟩ := hP.out
  exact c_any (ι := α1 × α2 × α3 × α4 × α5) (a1, (a2, (a3, (a4, a5)))) live lh (fun q => I q.1 q.2.1 q.2.2.1 q.2.2.2.1 q.2.2.2.2) (fun q => μ q.1 q.2.1 q.2.2.1 q.2.2.2.1 q.2.2.2.2) hI (fun q => FA q.1 q.2.1 q.2.2.1 q.2.2.2.1 q.2.2.2.2) (fun q => HA q.1 q.2.1 q.2.2.1 q.2.2.2.1 q.2.2.2.2) vs hF hH h0 fun q hq => v_rmono (round I μ q.1 q.2.1 q.2.2.1 q.2.2.2.1 q.2.2.2.2 ⟨hR q.1 q.2.1 q.2.2.1 q.2.2.2.1 q.2.2.2.2 hq⟩) fun s' ⟨y1, y2, y3, y4, y5, h1, h2, h3⟩ => ⟨(y1, (y2, (y3, (y4, y5)))), h1, h2, h3⟩
theorem v_nxt5 {F' : List (Nat × SV)} {H' : List (Nat × VH)} {α1 α2 α3 α4 α5 : Type} {I : α1 → α2 → α3 → α4 → α5 → Prop} {μ : α1 → α2 → α3 → α4 → α5 → Nat} {m : Nat} {FA : α1 → α2 → α3 → α4 → α5 → List (Nat × SV)} {HA : α1 → α2 → α3 → α4 → α5 → List (Nat × VH)} {s' : St} {a1 : α1} {a2 : α2} {a3 : α3} {a4 : α4} {a5 : α5} (hF : FitF [] s' (FA a1 a2 a3 a4 a5 ++ F')) (hH : FitH [] s' (HA a1 a2 a3 a4 a5 ++ H')) (hP : Hld (I a1 a2 a3 a4 a5 ∧ μ a1 a2 a3 a4 a5 < m)) : ∃ (y1 : α1) (y2 : α2) (y3 : α3) (y4 : α4) (y5 : α5), I y1 y2 y3 y4 y5 ∧ μ y1 y2 y3 y4 y5 < m ∧ ∃ vs', Fits vs' s' ⟨FA y1 y2 y3 y4 y5 ++ F', HA y1 y2 y3 y4 y5 ++ H'⟩ :=
  ⟨a1, a2, a3, a4, a5, hP.out.1, hP.out.2, [], hF, hH⟩
theorem v_loop6 {k : Wk} {w0 : Org} {Q : Exit → St → Prop} {c : Code} {s : St} {F' : List (Nat × SV)} {H' : List (Nat × VH)} {α1 α2 α3 α4 α5 α6 : Type} {R : (α1 → α2 → α3 → α4 → α5 → α6 → Prop) → (α1 → α2 → α3 → α4 → α5 → α6 → Nat) → α1 → α2 → α3 → α4 → α5 → α6 → Prop} (a1 : α1) (a2 : α2) (a3 : α3) (a4 : α4) (a5 : α5) (a6 : α6) (live lh : List Nat) (FA : α1 → α2 → α3 → α4 → α5 → α6 → List (Nat × SV)) (HA : α1 → α2 → α3 → α4 → α5 → α6 → List (Nat × VH)) (vs : List Nat) (hF : lvK s.F live some = some F') (hH : lvHK s.H lh some = some H') (h0 : Fits vs s ⟨FA a1 a2 a3 a4 a5 a6 ++ F', HA a1 a2 a3 a4 a5 a6 ++ H'⟩) (hP : Hld (∃ (I : α1 → α2 → α3 → α4 → α5 → α6 → Prop) (μ : α1 → α2 → α3 → α4 → α5 → α6 → Nat), I a1 a2 a3 a4 a5 a6 ∧ ∀ (x1 : α1) (x2 : α2) (x3 : α3) (x4 : α4) (x5 : α5) (x6 : α6), I x1 x2 x3 x4 x5 x6 → R I μ x1 x2 x3 x4 x5 x6))
    (round : ∀ (I : α1 → α2 → α3 → α4 → α5 → α6 → Prop) (μ : α1 → α2 → α3 → α4 → α5 → α6 → Nat) (x1 : α1) (x2 : α2) (x3 : α3) (x4 : α4) (x5 : α5) (x6 : α6), Hld (R I μ x1 x2 x3 x4 x5 x6) → wk k w0 c (kRound Q (fun s' => ∃ (y1 : α1) (y2 : α2) (y3 : α3) (y4 : α4) (y5 : α5) (y6 : α6), I y1 y2 y3 y4 y5 y6 ∧ μ y1 y2 y3 y4 y5 y6 < μ x1 x2 x3 x4 x5 x6 ∧ ∃ vs', Fits vs' s' ⟨FA y1 y2 y3 y4 y5 y6 ++ F', HA y1 y2 y3 y4 y5 y6 ++ H'⟩)) ⟨FA x1 x2 x3 x4 x5 x6 ++ F', HA x1 x2 x3 x4 x5 x6 ++ H'⟩) : wk k w0 (.loop c) Q s := by
  obtain ⟨I, μ, hI, hR⟩ := hP.out
  exact c_any (ι := α1 × α2 × α3 × α4 × α5 × α6) (a1, (a2, (a3, (a4, (a5, a6))))) live lh (fun q => I q.1 q.2.1 q.2.2.1 q.2.2.2.1 q.2.2.2.2.1 q.2.2.2.2.2) (fun q => μ q.1 q.2.1 q.2.2.1 q.2.2.2.1 q.2.2.2.2.1 q.2.2.2.2.2) hI (fun q => FA q.1 q.2.1 q.2.2.1 q.2.2.2.1 q.2.2.2.2.1 q.2.2.2.2.2) (fun q => HA q.1 q.2.1 q.2.2.1 q.2.2.2.1 q.2.2.2.2.1 q.2.2.2.2.2) vs hF hH h0 fun q hq => v_rmono (round I μ q.1 q.2.1 q.2.2.1 q.2.2.2.1 q.2.2.2.2.1 q.2.2.2.2.2 ⟨hR q.1 q.2.1 q.2.2.1 q.2.2.2.1 q.2.2.2.2.1 q.2.2.2.2.2 hq⟩) fun s' ⟨y1, y2, y3, y4, y5, y6, h1, h2, h3⟩ => ⟨(y1, (y2, (y3, (y4, (y5, y6))))), h1, h2, h3⟩
theorem v_nxt6 {F' : List (Nat × SV)} {H' : List (Nat × VH)} {α1 α2 α3 α4 α5 α6 : Type} {I : α1 → α2 → α3 → α4 → α5 → α6 → Prop} {μ : α1 → α2 → α3 → α4 → α5 → α6 → Nat} {m : Nat} {FA : α1 → α2 → α3 → α4 → α5 → α6 → List (Nat × SV)} {HA : α1 → α2 → α3 → α4 → α5 → α6 → List (Nat × VH)} {s' : St} {a1 : α1} {a2 : α2} {a3 : α3} {a4 : α4} {a5 : α5} {a6 : α6} (hF : FitF [] s' (FA a1 a2 a3 a4 a5 a6 ++ F')) (hH : FitH [] s' (HA a1 a2 a3 a4 a5 a6 ++ H')) (hP : Hld (I a1 a2 a3 a4 a5 a6 ∧ μ a1 a2 a3 a4 a5 a6 < m)) : ∃ (y1 : α1) (y2 : α2) (y3 : α3) (y4 : α4) (y5 : α5) (y6 : α6), I y1 y2 y3 y4 y5 y6 ∧ μ y1 y2 y3 y4 y5 y6 < m ∧ ∃ vs', Fits vs' s' ⟨FA y1 y2 y3 y4 y5 y6 ++ F', HA y1 y2 y3 y4 y5 y6 ++ H'⟩ :=
  ⟨a1, a2, a3, a4, a5, a6, hP.out.1, hP.out.2, [], hF, hH⟩
theorem v_loop7 {k : Wk} {w0 : Org} {Q : Exit → St → Prop} {c : Code} {s : St} {F' : List (Nat × SV)} {H' : List (Nat × VH)} {α1 α2 α3 α4 α5 α6 α7 : Type} {R : (α1 → α2 → α3 → α4 → α5 → α6 → α7 → Prop) → (α1 → α2 → α3 → α4 → α5 → α6 → α7 → Nat) → α1 → α2 → α3 → α4 → α5 → α6 → α7 → Prop} (a1 : α1) (a2 : α2) (a3 : α3) (a4 : α4) (a5 : α5) (a6 : α6) (a7 : α7) (live lh : List Nat) (FA : α1 → α2 → α3 → α4 → α5 → α6 → α7 → List (Nat × SV)) (HA : α1 → α2 → α3 → α4 → α5 → α6 → α7 → List (Nat × VH)) (vs : List Nat) (hF : lvK s.F live some = some F') (hH : lvHK s.H lh some = some H') (h0 : Fits vs s ⟨FA a1 a2 a3 a4 a5 a6 a7 ++ F', HA a1 a2 a3 a4 a5 a6 a7 ++ H'⟩) (hP : Hld (∃ (I : α1 → α2 → α3 → α4 → α5 → α6 → α7 → Prop) (μ : α1 → α2 → α3 → α4 → α5 → α6 → α7 → Nat), I a1 a2 a3 a4 a5 a6 a7 ∧ ∀ (x1 : α1) (x2 : α2) (x3 : α3) (x4 : α4) (x5 : α5) (x6 : α6) (x7 : α7), I x1 x2 x3 x4 x5 x6 x7 → R I μ x1 x2 x3 x4 x5 x6 x7))
    (round : ∀ (I : α1 → α2 → α3 → α4 → α5 → α6 → α7 → Prop) (μ : α1 → α2 → α3 → α4 → α5 → α6 → α7 → Nat) (x1 : α1) (x2 : α2) (x3 : α3) (x4 : α4) (x5 : α5) (x6 : α6) (x7 : α7), Hld (R I μ x1 x2 x3 x4 x5 x6 x7) → wk k w0 c (kRound Q (fun s' => ∃ (y1 : α1) (y2 : α2) (y3 : α3) (y4 : α4) (y5 : α5) (y6 : α6) (y7 : α7), I y1 y2 y3 y4 y5 y6 y7 ∧ μ y1 y2 y3 y4 y5 y6 y7 < μ x1 x2 x3 x4 x5 x6 x7 ∧ ∃ vs', Fits vs' s' ⟨FA y1 y2 y3 y4 y5 y6 y7 ++ F', HA y1 y2 y3 y4 y5 y6 y7 ++ H'⟩)) ⟨FA x1 x2 x3 x4 x5 x6 x7 ++ F', HA x1 x2 x3 x4 x5 x6 x7 ++ H'⟩) : wk k w0 (.loop c) Q s := by
  obtain ⟨I, μ, hI, hR⟩ := hP.out
  exact c_any (ι := α1 × α2 × α3 × α4 × α5 × α6 × α7) (a1, (a2, (a3, (a4, (a5, (a6, a7)))))) live lh (fun q => I q.1 q.2.1 q.2.2.1 q.2.2.2.1 q.2.2.2.2.1 q.2.2.2.2.2.1 q.2.2.2.2.2.2) (fun q => μ q.1 q.2.1 q.2.2.1 q.2.2.2.1 q.2.2.2.2.1 q.2.2.2.2.2.1 q.2.2.2.2.2.2) hI (fun q => FA q.1 q.2.1 q.2.2.1 q.2.2.2.1 q.2.2.2.2.1 q.2.2.2.2.2.1 q.2.2.2.2.2.2) (fun q => HA q.1 q.2.1 q.2.2.1 q.2.2.2.1 q.2.2.2.2.1 q.2.2.2.2.2.1 q.2.2.2.2.2.2) vs hF hH h0 fun q hq => v_rmono (round I μ q.1 q.2.1 q.2.2.1 q.2.2.2.1 q.2.2.2.2.1 q.2.2.2.2.2.1 q.2.2.2.2.2.2 ⟨hR q.1 q.2.1 q.2.2.1 q.2.2.2.1 q.2.2.2.2.1 q.2.2.2.2.2.1 q.2.2.2.2.2.2 hq⟩) fun s' ⟨y1, y2, y3, y4, y5, y6, y7, h1, h2, h3⟩ => ⟨(y1, (y2, (y3, (y4, (y5, (y6, y7)))))), h1, h2, h3⟩
theorem v_nxt7 {F' : List (Nat × SV)} {H' : List (Nat × VH)} {α1 α2 α3 α4 α5 α6 α7 : Type} {I : α1 → α2 → α3 → α4 → α5 → α6 → α7 → Prop} {μ : α1 → α2 → α3 → α4 → α5 → α6 → α7 → Nat} {m : Nat} {FA : α1 → α2 → α3 → α4 → α5 → α6 → α7 → List (Nat × SV)} {HA : α1 → α2 → α3 → α4 → α5 → α6 → α7 → List (Nat × VH)} {s' : St} {a1 : α1} {a2 : α2} {a3 : α3} {a4 : α4} {a5 : α5} {a6 : α6} {a7 : α7} (hF : FitF [] s' (FA a1 a2 a3 a4 a5 a6 a7 ++ F')) (hH : FitH [] s' (HA a1 a2 a3 a4 a5 a6 a7 ++ H')) (hP : Hld (I a1 a2 a3 a4 a5 a6 a7 ∧ μ a1 a2 a3 a4 a5 a6 a7 < m)) : ∃ (y1 : α1) (y2 : α2) (y3 : α3) (y4 : α4) (y5 : α5) (y6 : α6) (y7 : α7), I y1 y2 y3 y4 y5 y6 y7 ∧ μ y1 y2 y3 y4 y5 y6 y7 < m ∧ ∃ vs', Fits vs' s' ⟨FA y1 y2 y3 y4 y5 y6 y7 ++ F', HA y1 y2 y3 y4 y5 y6 y7 ++ H'⟩ :=
  ⟨a1, a2, a3, a4, a5, a6, a7, hP.out.1, hP.out.2, [], hF, hH⟩
theorem v_loop8 {k : Wk} {w0 : Org} {Q : Exit → St → Prop} {c : Code} {s : St} {F' : List (Nat × SV)} {H' : List (Nat × VH)} {α1 α2 α3 α4 α5 α6 α7 α8 : Type} {R : (α1 → α2 → α3 → α4 → α5 → α6 → α7 → α8 → Prop) → (α1 → α2 → α3 → α4 → α5 → α6 → α7 → α8 → Nat) → α1 → α2 → α3 → α4 → α5 → α6 → α7 → α8 → Prop} (a1 : α1) (a2 : α2) (a3 : α3) (a4 : α4) (a5 : α5) (a6 : α6) (a7 : α7) (a8 : α8) (live lh : List Nat) (FA : α1 → α2 → α3 → α4 → α5 → α6 → α7 → α8 → List (Nat × SV)) (HA : α1 → α2 → α3 → α4 → α5 → α6 → α7 → α8 → List (Nat × VH)) (vs : List Nat) (hF : lvK s.F live some = some F') (hH : lvHK s.H lh some = some H') (h0 : Fits vs s ⟨FA a1 a2 a3 a4 a5 a6 a7 a8 ++ F', HA a1 a2 a3 a4 a5 a6 a7 a8 ++ H'⟩) (hP : Hld (∃ (I : α1 → α2 → α3 → α4 → α5 → α6 → α7 → α8 → Prop) (μ : α1 → α2 → α3 → α4 → α5 → α6 → α7 → α8 → Nat), I a1 a2 a3 a4 a5 a6 a7 a8 ∧ ∀ (x1 : α1) (x2 : α2) (x3 : α3) (x4 : α4) (x5 : α5) (x6 : α6) (x7 : α7) (x8 : α8), I x1 x2 x3 x4 x5 x6 x7 x8 → R I μ x1 x2 x3 x4 x5 x6 x7 x8))
    (round : ∀ (I : α1 → α2 → α3 → α4 → α5 → α6 → α7 → α8 → Prop) (μ : α1 → α2 → α3 → α4 → α5 → α6 → α7 → α8 → Nat) (x1 : α1) (x2 : α2) (x3 : α3) (x4 : α4) (x5 : α5) (x6 : α6) (x7 : α7) (x8 : α8), Hld (R I μ x1 x2 x3 x4 x5 x6 x7 x8) → wk k w0 c (kRound Q (fun s' => ∃ (y1 : α1) (y2 : α2) (y3 : α3) (y4 : α4) (y5 : α5) (y6 : α6) (y7 : α7) (y8 : α8), I y1 y2 y3 y4 y5 y6 y7 y8 ∧ μ y1 y2 y3 y4 y5 y6 y7 y8 < μ x1 x2 x3 x4 x5 x6 x7 x8 ∧ ∃ vs', Fits vs' s' ⟨FA y1 y2 y3 y4 y5 y6 y7 y8 ++ F', HA y1 y2 y3 y4 y5 y6 y7 y8 ++ H'⟩)) ⟨FA x1 x2 x3 x4 x5 x6 x7 x8 ++ F', HA x1 x2 x3 x4 x5 x6 x7 x8 ++ H'⟩) : wk k w0 (.loop c) Q s := by
  obtain ⟨I, μ, hI, hR⟩ := hP.out
  exact c_any (ι := α1 × α2 × α3 × α4 × α5 × α6 × α7 × α8) (a1, (a2, (a3, (a4, (a5, (a6, (a7, a8))))))) live lh (fun q => I q.1 q.2.1 q.2.2.1 q.2.2.2.1 q.2.2.2.2.1 q.2.2.2.2.2.1 q.2.2.2.2.2.2.1 q.2.2.2.2.2.2.2) (fun q => μ q.1 q.2.1 q.2.2.1 q.2.2.2.1 q.2.2.2.2.1 q.2.2.2.2.2.1 q.2.2.2.2.2.2.1 q.2.2.2.2.2.2.2) hI (fun q => FA q.1 q.2.1 q.2.2.1 q.2.2.2.1 q.2.2.2.2.1 q.2.2.2.2.2.1 q.2.2.2.2.2.2.1 q.2.2.2.2.2.2.2) (fun q => HA q.1 q.2.1 q.2.2.1 q.2.2.2.1 q.2.2.2.2.1 q.2.2.2.2.2.1 q.2.2.2.2.2.2.1 q.2.2.2.2.2.2.2) vs hF hH h0 fun q hq => v_rmono (round I μ q.1 q.2.1 q.2.2.1 q.2.2.2.1 q.2.2.2.2.1 q.2.2.2.2.2.1 q.2.2.2.2.2.2.1 q.2.2.2.2.2.2.2 ⟨hR q.1 q.2.1 q.2.2.1 q.2.2.2.1 q.2.2.2.2.1 q.2.2.2.2.2.1 q.2.2.2.2.2.2.1 q.2.2.2.2.2.2.2 hq⟩) fun s' ⟨y1, y2, y3, y4, y5, y6, y7, y8, h1, h2, h3⟩ => ⟨(y1, (y2, (y3, (y4, (y5, (y6, (y7, y8))))))), h1, h2, h3⟩
theorem v_nxt8 {F' : List (Nat × SV)} {H' : List (Nat × VH)} {α1 α2 α3 α4 α5 α6 α7 α8 : Type} {I : α1 → α2 → α3 → α4 → α5 → α6 → α7 → α8 → Prop} {μ : α1 → α2 → α3 → α4 → α5 → α6 → α7 → α8 → Nat} {m : Nat} {FA : α1 → α2 → α3 → α4 → α5 → α6 → α7 → α8 → List (Nat × SV)} {HA : α1 → α2 → α3 → α4 → α5 → α6 → α7 → α8 → List (Nat × VH)} {s' : St} {a1 : α1} {a2 : α2} {a3 : α3} {a4 : α4} {a5 : α5} {a6 : α6} {a7 : α7} {a8 : α8} (hF : FitF [] s' (FA a1 a2 a3 a4 a5 a6 a7 a8 ++ F')) (hH : FitH [] s' (HA a1 a2 a3 a4 a5 a6 a7 a8 ++ H')) (hP : Hld (I a1 a2 a3 a4 a5 a6 a7 a8 ∧ μ a1 a2 a3 a4 a5 a6 a7 a8 < m)) : ∃ (y1 : α1) (y2 : α2) (y3 : α3) (y4 : α4) (y5 : α5) (y6 : α6) (y7 : α7) (y8 : α8), I y1 y2 y3 y4 y5 y6 y7 y8 ∧ μ y1 y2 y3 y4 y5 y6 y7 y8 < m ∧ ∃ vs', Fits vs' s' ⟨FA y1 y2 y3 y4 y5 y6 y7 y8 ++ F', HA y1 y2 y3 y4 y5 y6 y7 y8 ++ H'⟩ :=
  ⟨a1, a2, a3, a4, a5, a6, a7, a8, hP.out.1, hP.out.2, [], hF, hH⟩
theorem v_loop9 {k : Wk} {w0 : Org} {Q : Exit → St → Prop} {c : Code} {s : St} {F' : List (Nat × SV)} {H' : List (Nat × VH)} {α1 α2 α3 α4 α5 α6 α7 α8 α9 : Type} {R : (α1 → α2 → α3 → α4 → α5 → α6 → α7 → α8 → α9 → Prop) → (α1 → α2 → α3 → α4 → α5 → α6 → α7 → α8 → α9 → Nat) → α1 → α2 → α3 → α4 → α5 → α6 → α7 → α8 → α9 → Prop} (a1 : α1) (a2 : α2) (a3 : α3) (a4 : α4) (a5 : α5) (a6 : α6) (a7 : α7) (a8 : α8) (a9 : α9) (live lh : List Nat) (FA : α1 → α2 → α3 → α4 → α5 → α6 → α7 → α8 → α9 → List (Nat × SV)) (HA : α1 → α2 → α3 → α4 → α5 → α6 → α7 → α8 → α9 → List (Nat × VH)) (vs : List Nat) (hF : lvK s.F live some = some F') (hH : lvHK s.H lh some = some H') (h0 : Fits vs s ⟨FA a1 a2 a3 a4 a5 a6 a7 a8 a9 ++ F', HA a1 a2 a3 a4 a5 a6 a7 a8 a9 ++ H'⟩) (hP : Hld (∃ (I : α1 → α2 → α3 → α4 → α5 → α6 → α7 → α8 → α9 → Prop) (μ : α1 → α2 → α3 → α4 → α5 → α6 → α7 → α8 → α9 → Nat), I a1 a2 a3 a4 a5 a6 a7 a8 a9 ∧ ∀ (x1 : α1) (x2 : α2) (x3 : α3) (x4 : α4) (x5 : α5) (x6 : α6) (x7 : α7) (x8 : α8) (x9 : α9), I x1 x2 x3 x4 x5 x6 x7 x8 x9 → R I μ x1 x2 x3 x4 x5 x6 x7 x8 x9))
    (round : ∀ (I : α1 → α2 → α3 → α4 → α5 → α6 → α7 → α8 → α9 → Prop) (μ : α1 → α2 → α3 → α4 → α5 → α6 → α7 → α8 → α9 → Nat) (x1 : α1) (x2 : α2) (x3 : α3) (x4 : α4) (x5 : α5) (x6 : α6) (x7 : α7) (x8 : α8) (x9 : α9), Hld (R I μ x1 x2 x3 x4 x5 x6 x7 x8 x9) → wk k w0 c (kRound Q (fun s' => ∃ (y1 : α1) (y2 : α2) (y3 : α3) (y4 : α4) (y5 : α5) (y6 : α6) (y7 : α7) (y8 : α8) (y9 : α9), I y1 y2 y3 y4 y5 y6 y7 y8 y9 ∧ μ y1 y2 y3 y4 y5 y6 y7 y8 y9 < μ x1 x2 x3 x4 x5 x6 x7 x8 x9 ∧ ∃ vs', Fits vs' s' ⟨FA y1 y2 y3 y4 y5 y6 y7 y8 y9 ++ F', HA y1 y2 y3 y4 y5 y6 y7 y8 y9 ++ H'⟩)) ⟨FA x1 x2 x3 x4 x5 x6 x7 x8 x9 ++ F', HA x1 x2 x3 x4 x5 x6 x7 x8 x9 ++ H'⟩) : wk k w0 (.loop c) Q s := by
  obtain ⟨I, μ, hI, hR⟩ := hP.out
  exact c_any (ι := α1 × α2 × α3 × α4 × α5 × α6 × α7 × α8 × α9) (a1, (a2, (a3, (a4, (a5, (a6, (a7, (a8, a9)))))))) live lh (fun q => I q.1 q.2.1 q.2.2.1 q.2.2.2.1 q.2.2.2.2.1 q.2.2.2.2.2.1 q.2.2.2.2.2.2.1 q.2.2.2.2.2.2.2.1 q.2.2.2.2.2.2.2.2) (fun q => μ q.1 q.2.1 q.2.2.1 q.2.2.2.1 q.2.2.2.2.1 q.2.2.2.2.2.1 q.2.2.2.2.2.2.1 q.2.2.2.2.2.2.2.1 q.2.2.2.2.2.2.2.2) hI (fun q => FA q.1 q.2.1 q.2.2.1 q.2.2.2.1 q.2.2.2.2.1 q.2.2.2.2.2.1 q.2.2.2.2.2.2.1 q.2.2.2.2.2.2.2.1 q.2.2.2.2.2.2.2.2) (fun q => HA q.1 q.2.1 q.2.2.1 q.2.2.2.1 q.2.2.2.2.1 q.2.2.2.2.2.1 q.2.2.2.2.2.2.1 q.2.2.2.2.2.2.2.1 q.2.2.2.2.2.2.2.2) vs hF hH h0 fun q hq => v_rmono (round I μ q.1 q.2.1 q.2.2.1 q.2.2.2.1 q.2.2.2.2.1 q.2.2.2.2.2.1 q.2.2.2.2.2.2.1 q.2.2.2.2.2.2.2.1 q.2.2.2.2.2.2.2.2 ⟨hR q.1 q.2.1 q.2.2.1 q.2.2.2.1 q.2.2.2.2.1 q.2.2.2.2.2.1 q.2.2.2.2.2.2.1 q.2.2.2.2.2.2.2.1 q.2.2.2.2.2.2.2.2 hq⟩) fun s' ⟨y1, y2, y3, y4, y5, y6, y7, y8, y9, h1, h2, h3⟩ => ⟨(y1, (y2, (y3, (y4, (y5, (y6, (y7, (y8, y9)))))))), h1, h2, h3⟩
theorem v_nxt9 {F' : List (Nat × SV)} {H' : List (Nat × VH)} {α1 α2 α3 α4 α5 α6 α7 α8 α9 : Type} {I : α1 → α2 → α3 → α4 → α5 → α6 → α7 → α8 → α9 → Prop} {μ : α1 → α2 → α3 → α4 → α5 → α6 → α7 → α8 → α9 → Nat} {m : Nat} {FA : α1 → α2 → α3 → α4 → α5 → α6 → α7 → α8 → α9 → List (Nat × SV)} {HA : α1 → α2 → α3 → α4 → α5 → α6 → α7 → α8 → α9 → List (Nat × VH)} {s' : St} {a1 : α1} {a2 : α2} {a3 : α3} {a4 : α4} {a5 : α5} {a6 : α6} {a7 : α7} {a8 : α8} {a9 : α9} (hF : FitF [] s' (FA a1 a2 a3 a4 a5 a6 a7 a8 a9 ++ F')) (hH : FitH [] s' (HA a1 a2 a3 a4 a5 a6 a7 a8 a9 ++ H')) (hP : Hld (I a1 a2 a3 a4 a5 a6 a7 a8 a9 ∧ μ a1 a2 a3 a4 a5 a6 a7 a8 a9 < m)) : ∃ (y1 : α1) (y2 : α2) (y3 : α3) (y4 : α4) (y5 : α5) (y6 : α6) (y7 : α7) (y8 : α8) (y9 : α9), I y1 y2 y3 y4 y5 y6 y7 y8 y9 ∧ μ y1 y2 y3 y4 y5 y6 y7 y8 y9 < m ∧ ∃ vs', Fits vs' s' ⟨FA y1 y2 y3 y4 y5 y6 y7 y8 y9 ++ F', HA y1 y2 y3 y4 y5 y6 y7 y8 y9 ++ H'⟩ :=
  ⟨a1, a2, a3, a4, a5, a6, a7, a8, a9, hP.out.1, hP.out.2, [], hF, hH⟩
theorem v_loop10 {k : Wk} {w0 : Org} {Q : Exit → St → Prop} {c : Code} {s : St} {F' : List (Nat × SV)} {H' : List (Nat × VH)} {α1 α2 α3 α4 α5 α6 α7 α8 α9 α10 : Type} {R : (α1 → α2 → α3 → α4 → α5 → α6 → α7 → α8 → α9 → α10 → Prop) → (α1 → α2 → α3 → α4 → α5 → α6 → α7 → α8 → α9 → α10 → Nat) → α1 → α2 → α3 → α4 → α5 → α6 → α7 → α8 → α9 → α10 → Prop} (a1 : α1) (a2 : α2) (a3 : α3) (a4 : α4) (a5 : α5) (a6 : α6) (a7 : α7) (a8 : α8) (a9 : α9) (a10 : α10) (live lh : List Nat) (FA : α1 → α2 → α3 → α4 → α5 → α6 → α7 → α8 → α9 → α10 → List (Nat × SV)) (HA : α1 → α2 → α3 → α4 → α5 → α6 → α7 → α8 → α9 → α10 → List (Nat × VH)) (vs : List Nat) (hF : lvK s.F live some = some F') (hH : lvHK s.H lh some = some H') (h0 : Fits vs s ⟨FA a1 a2 a3 a4 a5 a6 a7 a8 a9 a10 ++ F', HA a1 a2 a3 a4 a5 a6 a7 a8 a9 a10 ++ H'⟩) (hP : Hld (∃ (I : α1 → α2 → α3 → α4 → α5 → α6 → α7 → α8 → α9 → α10 → Prop) (μ : α1 → α2 → α3 → α4 → α5 → α6 → α7 → α8 → α9 → α10 → Nat), I a1 a2 a3 a4 a5 a6 a7 a8 a9 a10 ∧ ∀ (x1 : α1) (x2 : α2) (x3 : α3) (x4 : α4) (x5 : α5) (x6 : α6) (x7 : α7) (x8 : α8) (x9 : α9) (x10 : α10), I x1 x2 x3 x4 x5 x6 x7 x8 x9 x10 → R I μ x1 x2 x3 x4 x5 x6 x7 x8 x9 x10))
    (round : ∀ (I : α1 → α2 → α3 → α4 → α5 → α6 → α7 → α8 → α9 → α10 → Prop) (μ : α1 → α2 → α3 → α4 → α5 → α6 → α7 → α8 → α9 → α10 → Nat) (x1 : α1) (x2 : α2) (x3 : α3) (x4 : α4) (x5 : α5) (x6 : α6) (x7 : α7) (x8 : α8) (x9 : α9) (x10 : α10), Hld (R I μ x1 x2 x3 x4 x5 x6 x7 x8 x9 x10) → wk k w0 c (kRound Q (fun s' => ∃ (y1 : α1) (y2 : α2) (y3 : α3) (y4 : α4) (y5 : α5) (y6 : α6) (y7 : α7) (y8 : α8) (y9 : α9) (y10 : α10), I y1 y2 y3 y4 y5 y6 y7 y8 y9 y10 ∧ μ y1 y2 y3 y4 y5 y6 y7 y8 y9 y10 < μ x1 x2 x3 x4 x5 x6 x7 x8 x9 x10 ∧ ∃ vs', Fits vs' s' ⟨FA y1 y2 y3 y4 y5 y6 y7 y8 y9 y10 ++ F', HA y1 y2 y3 y4 y5 y6 y7 y8 y9 y10 ++ H'⟩)) ⟨FA x1 x2 x3 x4 x5 x6 x7 x8 x9 x10 ++ F', HA x1 x2 x3 x4 x5 x6 x7 x8 x9 x10 ++ H'⟩) : wk k w0 (.loop c) Q s := by
  obtain ⟨I, μ, hI, hR⟩ := hP.out
  exact c_any (ι := α1 × α2 × α3 × α4 × α5 × α6 × α7 × α8 × α9 × α10) (a1, (a2, (a3, (a4, (a5, (a6, (a7, (a8, (a9, a10))))))))) live lh (fun q => I q.1 q.2.1 q.2.2.1 q.2.2.2.1 q.2.2.2.2.1 q.2.2.2.2.2.1 q.2.2.2.2.2.2.1 q.2.2.2.2.2.2.2.1 q.2.2.2.2.2.2.2.2.1 q.2.2.2.2.2.2.2.2.2) (fun q => μ q.1 q.2.1 q.2.2.1 q.2.2.2.1 q.2.2.2.2.1 q.2.2.2.2.2.1 q.2.2.2.2.2.2.1 q.2.2.2.2.2.2.2.1 q.2.2.2.2.2.2.2.2.1 q.2.2.2.2.2.2.2.2.2) hI (fun q => FA q.1 q.2.1 q.2.2.1 q.2.2.2.1 q.2.2.2.2.1 q.2.2.2.2.2.1 q.2.2.2.2.2.2.1 q.2.2.2.2.2.2.2.1 q.2.2.2.2.2.2.2.2.1 q.2.2.2.2.2.2.2.2.2) (fun q => HA q.1 q.2.1 q.2.2.1 q.2.2.2.1 q.2.2.2.2.1 q.2.2.2.2.2.1 q.2.2.2.2.2.2.1 q.2.2.2.2.2.2.2.1 q.2.2.2.2.2.2.2.2.1 q.2.2.2.2.2.2.2.2.2) vs hF hH h0 fun q hq => v_rmono (round I μ q.1 q.2.1 q.2.2.1 q.2.2.2.1 q.2.2.2.2.1 q.2.2.2.2.2.1 q.2.2.2.2.2.2.1 q.2.2.2.2.2.2.2.1 q.2.2.2.2.2.2.2.2.1 q.2.2.2.2.2.2.2.2.2 ⟨hR q.1 q.2.1 q.2.2.1 q.2.2.2.1 q.2.2.2.2.1 q.2.2.2.2.2.1 q.2.2.2.2.2.2.1 q.2.2.2.2.2.2.2.1 q.2.2.2.2.2.2.2.2.1 q.2.2.2.2.2.2.2.2.2 hq⟩) fun s' ⟨y1, y2, y3, y4, y5, y6, y7, y8, y9, y10, h1, h2, h3⟩ => ⟨(y1, (y2, (y3, (y4, (y5, (y6, (y7, (y8, (y9, y10))))))))), h1, h2, h3⟩
theorem v_nxt10 {F' : List (Nat × SV)} {H' : List (Nat × VH)} {α1 α2 α3 α4 α5 α6 α7 α8 α9 α10 : Type} {I : α1 → α2 → α3 → α4 → α5 → α6 → α7 → α8 → α9 → α10 → Prop} {μ : α1 → α2 → α3 → α4 → α5 → α6 → α7 → α8 → α9 → α10 → Nat} {m : Nat} {FA : α1 → α2 → α3 → α4 → α5 → α6 → α7 → α8 → α9 → α10 → List (Nat × SV)} {HA : α1 → α2 → α3 → α4 → α5 → α6 → α7 → α8 → α9 → α10 → List (Nat × VH)} {s' : St} {a1 : α1} {a2 : α2} {a3 : α3} {a4 : α4} {a5 : α5} {a6 : α6} {a7 : α7} {a8 : α8} {a9 : α9} {a10 : α10} (hF : FitF [] s' (FA a1 a2 a3 a4 a5 a6 a7 a8 a9 a10 ++ F')) (hH : FitH [] s' (HA a1 a2 a3 a4 a5 a6 a7 a8 a9 a10 ++ H')) (hP : Hld (I a1 a2 a3 a4 a5 a6 a7 a8 a9 a10 ∧ μ a1 a2 a3 a4 a5 a6 a7 a8 a9 a10 < m)) : ∃ (y1 : α1) (y2 : α2) (y3 : α3) (y4 : α4) (y5 : α5) (y6 : α6) (y7 : α7) (y8 : α8) (y9 : α9) (y10 : α10), I y1 y2 y3 y4 y5 y6 y7 y8 y9 y10 ∧ μ y1 y2 y3 y4 y5 y6 y7 y8 y9 y10 < m ∧ ∃ vs', Fits vs' s' ⟨FA y1 y2 y3 y4 y5 y6 y7 y8 y9 y10 ++ F', HA y1 y2 y3 y4 y5 y6 y7 y8 y9 y10 ++ H'⟩ :=
  ⟨a1, a2, a3, a4, a5, a6, a7, a8, a9, a10, hP.out.1, hP.out.2, [], hF, hH⟩
end Go.Proofs.Ytbnmcdnkeipdhaa
