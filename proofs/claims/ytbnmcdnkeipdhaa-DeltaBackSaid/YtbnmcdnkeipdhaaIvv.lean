/- The step rules, on states that are written out. -/
import Derived.Test.YtbnmcdnkeipdhaaIvu
set_option linter.all false
namespace Go.Proofs.Ytbnmcdnkeipdhaa
open Go.RowKit Go.Shelf
section
variable {k : Wk} {w0 : Org} {ops : Array Oper} {l : List Oper} {Q : St → Prop} {F F' : List (Nat × SV)} {H H' : List (Nat × VH)} {d t t' ty : Nat} {x y : Operand} {p : String} {af : Array Edge}
theorem j_v {o : Op} {v : SV} (hN : Nat.blt d k.N = true) (hv : nrm (opV k.τ F H o) = some v) (h : rg k w0 ops l Q ⟨(d, v) :: F, H⟩) : rg k w0 ops (⟨some d, o, t, p, af, none⟩ :: l) Q ⟨F, H⟩ := by
  rw [nrm_eq] at hv
  exact rgI (irg_e rfl rfl (nlt hN) (opV_ok k.ok hv) (rgO h))
theorem j_gy {o : Op} {dst : Option Nat} {j q : Nat} {w c : Bool} (hj : (ops[j]?).bind (·.dst) = some q) (hv : getF F q = .one (.d (.bool c))) (hc : c = w) (h : rg k w0 ops (⟨dst, o, t, p, af, none⟩ :: l) Q ⟨F, H⟩) : rg k w0 ops (⟨dst, o, t, p, af, some (j, w)⟩ :: l) Q ⟨F, H⟩ :=
  i_gy (s := ⟨F, H⟩) hj hv hc h
theorem j_gn {o : Op} {j q : Nat} {c : Bool} (hj : (ops[j]?).bind (·.dst) = some q) (hv : getF F q = .one (.d (.bool c))) (hc : c = false) (hN : Nat.blt d k.N = true) (h : rg k w0 ops l Q ⟨(d, (.tup [])) :: F, H⟩) : rg k w0 ops (⟨some d, o, t, p, af, some (j, true)⟩ :: l) Q ⟨F, H⟩ :=
  i_gn (s := ⟨F, H⟩) hj hv hc hN h
theorem j_gm {o : Op} {j q : Nat} {c : Bool} (hj : (ops[j]?).bind (·.dst) = some q) (hv : getF F q = .one (.d (.bool c))) (hc : c = true) (hN : Nat.blt d k.N = true) (h : rg k w0 ops l Q ⟨(d, (.tup [])) :: F, H⟩) : rg k w0 ops (⟨some d, o, t, p, af, some (j, false)⟩ :: l) Q ⟨F, H⟩ :=
  i_gm (s := ⟨F, H⟩) hj hv hc hN h
theorem j_gz {o : Op} {j q : Nat} {w : Bool} (hj : (ops[j]?).bind (·.dst) = some q) (hv : getF F q = .tup []) (hN : Nat.blt d k.N = true) (h : rg k w0 ops l Q ⟨(d, (.tup [])) :: F, H⟩) : rg k w0 ops (⟨some d, o, t, p, af, some (j, w)⟩ :: l) Q ⟨F, H⟩ :=
  i_gz (s := ⟨F, H⟩) hj hv hN h
theorem j_gs {o : Op} {dst : Option Nat} {j q : Nat} {w : Bool} (c : Bool) (hj : (ops[j]?).bind (·.dst) = some q) (hv : getF F q = .one (.d (.bool c))) (h1 : c = true → rg k w0 ops (⟨dst, o, t, p, af, some (j, w)⟩ :: l) Q ⟨F, H⟩) (h2 : c = false → rg k w0 ops (⟨dst, o, t, p, af, some (j, w)⟩ :: l) Q ⟨F, H⟩) : rg k w0 ops (⟨dst, o, t, p, af, some (j, w)⟩ :: l) Q ⟨F, H⟩ :=
  i_gs (s := ⟨F, H⟩) c hj hv h1 h2
theorem j_pt {c : Operand} {b : Bool} {v : CV} (hN : Nat.blt d k.N = true) (hc : (St.mk F H).ev c = .one (.d (.bool b))) (hb : b = true) (hx : (St.mk F H).ev x = .one v) (h : rg k w0 ops l Q ⟨(d, (.one v)) :: F, H⟩) : rg k w0 ops (⟨some d, .pick c x y, t, p, af, none⟩ :: l) Q ⟨F, H⟩ :=
  i_pt (s := ⟨F, H⟩) hN hc hb hx h
theorem j_pf {c : Operand} {b : Bool} {v : CV} (hN : Nat.blt d k.N = true) (hc : (St.mk F H).ev c = .one (.d (.bool b))) (hb : b = false) (hx : (St.mk F H).ev y = .one v) (h : rg k w0 ops l Q ⟨(d, (.one v)) :: F, H⟩) : rg k w0 ops (⟨some d, .pick c x y, t, p, af, none⟩ :: l) Q ⟨F, H⟩ :=
  i_pf (s := ⟨F, H⟩) hN hc hb hx h
theorem j_ld_el1 {r i j sz e : Nat} {rows : List (List Cell)} {row : List Cell} {c : Cell} (hN : Nat.blt d k.N = true) (hx : (St.mk F H).ev x = .one (.el r i j sz)) (hH : getH H r = .arr e sz rows) (ht : (tyAt k.τ t').isOne = true) (hi : rows[i]? = some row) (hj : row[j]? = some c) (h : rg k w0 ops l Q ⟨(d, (.one (.d c))) :: F, H⟩) : rg k w0 ops (⟨some d, .load t' x, t, p, af, none⟩ :: l) Q ⟨F, H⟩ :=
  i_ld_el1 (s := ⟨F, H⟩) hN hx hH ht hi hj h
theorem j_ld_eln {r i j sz e : Nat} {rows : List (List Cell)} {row : List Cell} {n fs zs} (hN : Nat.blt d k.N = true) (hx : (St.mk F H).ev x = .one (.el r i j sz)) (hH : getH H r = .arr e sz rows) (ht : tyAt k.τ t' = .st n fs zs) (hi : rows[i]? = some row) (hj : j + n ≤ row.length) (h : rg k w0 ops l Q ⟨(d, (.agg (((row.drop j).take n).map .d))) :: F, H⟩) : rg k w0 ops (⟨some d, .load t' x, t, p, af, none⟩ :: l) Q ⟨F, H⟩ :=
  i_ld_eln (s := ⟨F, H⟩) hN hx hH ht hi hj h
theorem j_ia {e sz by_ i : Nat} {rows : List (List Cell)} {row : List Cell} {kk : IntKind} {m : Int} (hN : Nat.blt d k.N = true) (hx : (St.mk F H).ev x = .one (.d (.list rows))) (hy : (St.mk F H).ev y = .one (.d (.int kk m))) (ht : tyAt k.τ t' = .sl e sz by_) (h0 : 0 ≤ m) (hm : m.toNat = i) (hi : rows[i]? = some row) (hl : row.length = sz) (hz : Nat.blt 0 sz = true) (h : rg k w0 ops l Q ⟨(d, (.one (.rp (row.map .d)))) :: F, H⟩) : rg k w0 ops (⟨some d, .indexAddr t' x y, t, p, af, none⟩ :: l) Q ⟨F, H⟩ :=
  i_ia (s := ⟨F, H⟩) hN hx hy ht h0 hm hi hl hz h
theorem j_ia_sl {r n e sz by_ i : Nat} {kk : IntKind} {m : Int} (hN : Nat.blt d k.N = true) (hx : (St.mk F H).ev x = .one (.sl r n sz)) (hy : (St.mk F H).ev y = .one (.d (.int kk m))) (ht : tyAt k.τ t' = .sl e sz by_) (h0 : 0 ≤ m) (hi : m < (n : Int)) (hm : m.toNat = i) (h : rg k w0 ops l Q ⟨(d, (.one (.el r i 0 sz))) :: F, H⟩) : rg k w0 ops (⟨some d, .indexAddr t' x y, t, p, af, none⟩ :: l) Q ⟨F, H⟩ :=
  i_ia_sl (s := ⟨F, H⟩) hN hx hy ht h0 hi hm h
theorem j_ia_ar {r off n len e sz i : Nat} {zs} {kk : IntKind} {m : Int} (hN : Nat.blt d k.N = true) (hx : (St.mk F H).ev x = .one (.ref r off)) (hy : (St.mk F H).ev y = .one (.d (.int kk m))) (ht : tyAt k.τ t' = .ar n len e sz zs) (h0 : 0 ≤ m) (hi : m < (len : Int)) (hm : m.toNat = i) (h : rg k w0 ops l Q ⟨(d, (.one (.ref r (off + i * sz)))) :: F, H⟩) : rg k w0 ops (⟨some d, .indexAddr t' x y, t, p, af, none⟩ :: l) Q ⟨F, H⟩ :=
  i_ia_ar (s := ⟨F, H⟩) hN hx hy ht h0 hi hm h
theorem j_ix1 {n len e i : Nat} {zs} {cs : List CV} {c : CV} {kk : IntKind} {m : Int} (hN : Nat.blt d k.N = true) (hx : (St.mk F H).ev x = .agg cs) (hy : (St.mk F H).ev y = .one (.d (.int kk m))) (ht : tyAt k.τ t' = .ar n len e 1 zs) (he : (tyAt k.τ e).isOne = true) (h0 : 0 ≤ m) (hi : m < (len : Int)) (hm : m.toNat = i) (hc : cs[i]? = some c) (h : rg k w0 ops l Q ⟨(d, (.one c)) :: F, H⟩) : rg k w0 ops (⟨some d, .index t' x y, t, p, af, none⟩ :: l) Q ⟨F, H⟩ :=
  i_ix1 (s := ⟨F, H⟩) hN hx hy ht he h0 hi hm hc h
theorem j_ixn {n len e sz i : Nat} {zs fs2 zs2} {cs : List CV} {kk : IntKind} {m : Int} (hN : Nat.blt d k.N = true) (hx : (St.mk F H).ev x = .agg cs) (hy : (St.mk F H).ev y = .one (.d (.int kk m))) (ht : tyAt k.τ t' = .ar n len e sz zs) (he : tyAt k.τ e = .st sz fs2 zs2) (h0 : 0 ≤ m) (hi : m < (len : Int)) (hm : m.toNat = i) (hc : i * sz + sz ≤ cs.length) (h : rg k w0 ops l Q ⟨(d, (.agg ((cs.drop (i * sz)).take sz))) :: F, H⟩) : rg k w0 ops (⟨some d, .index t' x y, t, p, af, none⟩ :: l) Q ⟨F, H⟩ :=
  i_ixn (s := ⟨F, H⟩) hN hx hy ht he h0 hi hm hc h
theorem j_len {e n b : Nat} {rows : List (List Cell)} (hN : Nat.blt d k.N = true) (hx : (St.mk F H).ev x = .one (.d (.list rows))) (ht : tyAt k.τ t' = .sl e n b) (h : rg k w0 ops l Q ⟨(d, (.one (.d (.int .i64 (rows.length : Int))))) :: F, H⟩) : rg k w0 ops (⟨some d, .call { callee := .builtin .len, args := #[x], argTypes := #[t'] }, t, p, af, none⟩ :: l) Q ⟨F, H⟩ :=
  i_len (s := ⟨F, H⟩) hN hx ht h
theorem j_lenm {α : Type} {f : α → List Cell} {xs : List α} {e n b : Nat} (hN : Nat.blt d k.N = true) (hx : (St.mk F H).ev x = .one (.d (.list (xs.map f)))) (ht : tyAt k.τ t' = .sl e n b) (h : rg k w0 ops l Q ⟨(d, (.one (.d (.int .i64 (xs.length : Int))))) :: F, H⟩) : rg k w0 ops (⟨some d, .call { callee := .builtin .len, args := #[x], argTypes := #[t'] }, t, p, af, none⟩ :: l) Q ⟨F, H⟩ :=
  i_lenm (s := ⟨F, H⟩) hN hx ht h
theorem j_lens {r m sz e n b : Nat} (hN : Nat.blt d k.N = true) (hx : (St.mk F H).ev x = .one (.sl r m sz)) (ht : tyAt k.τ t' = .sl e n b) (h : rg k w0 ops l Q ⟨(d, (.one (.d (.int .i64 (m : Int))))) :: F, H⟩) : rg k w0 ops (⟨some d, .call { callee := .builtin .len, args := #[x], argTypes := #[t'] }, t, p, af, none⟩ :: l) Q ⟨F, H⟩ :=
  i_lens (s := ⟨F, H⟩) hN hx ht h
theorem j_len0 {e n b : Nat} (hN : Nat.blt d k.N = true) (hx : (St.mk F H).ev x = .one .nil) (ht : tyAt k.τ t' = .sl e n b) (h : rg k w0 ops l Q ⟨(d, (.one (.d (.int .i64 0)))) :: F, H⟩) : rg k w0 ops (⟨some d, .call { callee := .builtin .len, args := #[x], argTypes := #[t'] }, t, p, af, none⟩ :: l) Q ⟨F, H⟩ :=
  i_len0 (s := ⟨F, H⟩) hN hx ht h
theorem j_add {kk : IntKind} {m n : Int} {r : Int} {tb : Nat} (hN : Nat.blt d k.N = true) (hx : (St.mk F H).ev x = .one (.d (.int kk m))) (hy : (St.mk F H).ev y = .one (.d (.int kk n))) (hr : kk.wrap (m + n) = r) (h : rg k w0 ops l Q ⟨(d, (.one (.d (.int kk r)))) :: F, H⟩) : rg k w0 ops (⟨some d, .binOp .add t' x y tb, t, p, af, none⟩ :: l) Q ⟨F, H⟩ :=
  i_add (s := ⟨F, H⟩) hN hx hy hr h
theorem j_sub {kk : IntKind} {m n : Int} {r : Int} {tb : Nat} (hN : Nat.blt d k.N = true) (hx : (St.mk F H).ev x = .one (.d (.int kk m))) (hy : (St.mk F H).ev y = .one (.d (.int kk n))) (hr : kk.wrap (m - n) = r) (h : rg k w0 ops l Q ⟨(d, (.one (.d (.int kk r)))) :: F, H⟩) : rg k w0 ops (⟨some d, .binOp .sub t' x y tb, t, p, af, none⟩ :: l) Q ⟨F, H⟩ :=
  i_sub (s := ⟨F, H⟩) hN hx hy hr h
theorem j_mul {kk : IntKind} {m n : Int} {r : Int} {tb : Nat} (hN : Nat.blt d k.N = true) (hx : (St.mk F H).ev x = .one (.d (.int kk m))) (hy : (St.mk F H).ev y = .one (.d (.int kk n))) (hr : kk.wrap (m * n) = r) (h : rg k w0 ops l Q ⟨(d, (.one (.d (.int kk r)))) :: F, H⟩) : rg k w0 ops (⟨some d, .binOp .mul t' x y tb, t, p, af, none⟩ :: l) Q ⟨F, H⟩ :=
  i_mul (s := ⟨F, H⟩) hN hx hy hr h
theorem j_quo {kk : IntKind} {m n : Int} {r : Int} {tb : Nat} (hN : Nat.blt d k.N = true) (hx : (St.mk F H).ev x = .one (.d (.int kk m))) (hy : (St.mk F H).ev y = .one (.d (.int kk n))) (hn : n ≠ 0) (hr : kk.wrap (m.tdiv n) = r) (h : rg k w0 ops l Q ⟨(d, (.one (.d (.int kk r)))) :: F, H⟩) : rg k w0 ops (⟨some d, .binOp .quo t' x y tb, t, p, af, none⟩ :: l) Q ⟨F, H⟩ :=
  i_quo (s := ⟨F, H⟩) hN hx hy hn hr h
theorem j_rem {kk : IntKind} {m n : Int} {r : Int} {tb : Nat} (hN : Nat.blt d k.N = true) (hx : (St.mk F H).ev x = .one (.d (.int kk m))) (hy : (St.mk F H).ev y = .one (.d (.int kk n))) (hn : n ≠ 0) (hr : m.tmod n = r) (h : rg k w0 ops l Q ⟨(d, (.one (.d (.int kk r)))) :: F, H⟩) : rg k w0 ops (⟨some d, .binOp .rem t' x y tb, t, p, af, none⟩ :: l) Q ⟨F, H⟩ :=
  i_rem (s := ⟨F, H⟩) hN hx hy hn hr h
theorem j_call {pu : Bool} {f : FuncId} {xs : Array Operand} {ts : Array TypeId} {args : List SV} {v : SV} (hN : Nat.blt d k.N = true) (hic : IC k.P k.T f args (fun x => x = v)) (ha : PsSL k.P k.T ⟨F, H⟩ pu xs.toList args) (hsc : pu = true ∨ v.sc = true)
    (h : rg k w0 ops l Q ⟨(d, v) :: F, H⟩) : rg k w0 ops (⟨some d, .call { callee := .value (.func f), args := xs, argTypes := ts }, t, p, af, none⟩ :: l) Q ⟨F, H⟩ :=
  i_call (s := ⟨F, H⟩) hN hic ha hsc h
theorem j_callp {pu : Bool} {f : FuncId} {xs : Array Operand} {ts : Array TypeId} {args : List SV} {post : SV → Prop} (hN : Nat.blt d k.N = true) (hic : IC k.P k.T f args post) (ha : PsSL k.P k.T ⟨F, H⟩ pu xs.toList args) (hsc : pu = true ∨ ∀ v, post v → v.sc = true)
    (h : ∀ v, post v → rg k w0 ops l Q ⟨(d, v) :: F, H⟩) : rg k w0 ops (⟨some d, .call { callee := .value (.func f), args := xs, argTypes := ts }, t, p, af, none⟩ :: l) Q ⟨F, H⟩ :=
  i_callp (s := ⟨F, H⟩) hN hic ha hsc h
theorem j_callc {pu : Bool} {f : FuncId} {cs cs' : List CV} {xs : Array Operand} {ts : Array TypeId} {args : List SV} {v : SV} (hN : Nat.blt d k.N = true) (hy : (St.mk F H).ev y = .one (.clo f cs)) (hic : IC k.P k.T f (args ++ cs'.map .one) (fun x => x = v)) (ha : PsSL k.P k.T ⟨F, H⟩ pu xs.toList args) (hc : PsL k.P k.T H pu cs cs') (hsc : pu = true ∨ v.sc = true)
    (h : rg k w0 ops l Q ⟨(d, v) :: F, H⟩) : rg k w0 ops (⟨some d, .call { callee := .value y, args := xs, argTypes := ts }, t, p, af, none⟩ :: l) Q ⟨F, H⟩ :=
  i_callc (s := ⟨F, H⟩) hN hy hic ha hc hsc h
theorem j_callf {pp : List DV → Option Cell} {xs : Array Operand} {ts : Array TypeId} {args : List DV} {r : Cell} (hN : Nat.blt d k.N = true) (hy : (St.mk F H).ev y = .one (.fn pp)) (ha : dvL ⟨F, H⟩ xs.toList args) (hp : pp args = some r) (hw : ∀ k n, r = .int k n → (Lit.int k n).wf = true) (hz : ∀ b, r = .str b → b.size ≤ maxLen)
    (h : rg k w0 ops l Q ⟨(d, (.one (.d r))) :: F, H⟩) : rg k w0 ops (⟨some d, .call { callee := .value y, args := xs, argTypes := ts }, t, p, af, none⟩ :: l) Q ⟨F, H⟩ :=
  i_callf (s := ⟨F, H⟩) hN hy ha hp hw hz h
theorem j_seq {ks : List EK} {cs ds : List CV} {r : Bool} (h : eqT k.P ty = some ks) (hN : Nat.blt d k.N = true) (hx : (St.mk F H).ev x = .agg cs) (hy : (St.mk F H).ev y = .agg ds) (hr : cellsEq ks cs ds = some r) (hk : rg k w0 ops l Q ⟨(d, (.one (.d (.bool r)))) :: F, H⟩) : rg k w0 ops (⟨some d, .binOp .eql ty x y t', t, p, af, none⟩ :: l) Q ⟨F, H⟩ :=
  i_seq (s := ⟨F, H⟩) h hN hx hy hr hk
theorem j_sne {ks : List EK} {cs ds : List CV} {r : Bool} (h : eqT k.P ty = some ks) (hN : Nat.blt d k.N = true) (hx : (St.mk F H).ev x = .agg cs) (hy : (St.mk F H).ev y = .agg ds) (hr : cellsEq ks cs ds = some r) (hk : rg k w0 ops l Q ⟨(d, (.one (.d (.bool (!r))))) :: F, H⟩) : rg k w0 ops (⟨some d, .binOp .neq ty x y t', t, p, af, none⟩ :: l) Q ⟨F, H⟩ :=
  i_sne (s := ⟨F, H⟩) h hN hx hy hr hk
end

/-! the heap -/
def takeK {α β : Type} : Nat → List α → (List α → List α → β) → β
  | 0, l, k => k [] l
  | _ + 1, [], k => k [] []
  | n + 1, c :: l, k => takeK n l fun a b => k (c :: a) b
theorem takeK_eq {α β : Type} (n : Nat) (l : List α) (k : List α → List α → β) : takeK n l k = k (l.take n) (l.drop n) := by
  induction n generalizing l k with
  | zero => simp [takeK]
  | succ n ih => cases l <;> simp [takeK, ih]
def chunkK {β : Type} (sz : Nat) : Nat → List Cell → (List (List Cell) → β) → β
  | 0, _, k => k []
  | n + 1, fl, k => takeK sz fl fun a b => chunkK sz n b fun q => k (a :: q)
theorem chunkK_eq {β : Type} (sz n : Nat) (fl : List Cell) (k : List (List Cell) → β) : chunkK sz n fl k = k (chunks sz n fl) := by
  induction n generalizing fl k with
  | zero => rfl
  | succ n ih => simp only [chunkK, takeK_eq, ih, chunks]
abbrev FH := List (Nat × SV) × List (Nat × VH)
/-- What an operation that makes a name, or stores, leaves. -/
def opH (τ : List TyI) (F : List (Nat × SV)) (H : List (Nat × VH)) (d : Nat) : Op → Option FH
  | .box t x => match ((St.mk F H).ev x).cells with
    | some cs => bif (St.mk F H).fresh d then forceL cs fun r => some ((d, .one (.ref d 0)) :: F, (d, .blk t r) :: H) else none
    | none => none
  | .alloc t => match (tyAt τ t).zs with
    | some zs => bif (St.mk F H).fresh d then forceL (zs.map Z.cv) fun r => some ((d, .one (.ref d 0)) :: F, (d, .blk t r) :: H) else none
    | none => none
  | .buildSlice t len parts => match tyAt τ t with
    | .sl e sz _ => match (tyAt τ e).zs, partsOf (St.mk F H) parts.toList with
      | some zs, some cp => match cfill ((List.range len).map fun i => (i * sz, sz)) (List.replicate (len * sz) .u) cp with
        | some r => match unDL r with
          | some fl => bif Nat.beq zs.length sz && (Nat.blt 0 (len * sz) && (Nat.ble (len * sz) 16777216 && (St.mk F H).fresh d)) then chunkK sz len fl fun rows => some ((d, .one (.sl d len sz)) :: F, (d, .arr e sz rows) :: H) else none
          | none => none
        | none => none
      | _, _ => none
    | _ => none
  | _ => none
def opS (τ : List TyI) (F : List (Nat × SV)) (H : List (Nat × VH)) : Op → Option (Nat × VH)
  | .store t x y => match (St.mk F H).ev x with
    | .one (.ref r off) => match getH H r, (tyAt τ t).size, ((St.mk F H).ev y).cells with
      | .blk tt cs, some n, some vs => bif Nat.beq vs.length n && Nat.ble (off + n) cs.length then listK (setSeg cs off vs) fun q => some (r, .blk tt q) else none
      | _, _, _ => none
    | _ => none
  | _ => none
/-- All that names r is forgotten. -/
def killK {β : Type} (r : Nat) : List (Nat × SV) → (List (Nat × SV) → β) → β
  | [], k => k []
  | (x, v) :: l, k => bif v.has r then killK r l (fun q => k ((x, .u) :: q)) else killK r l (fun q => k ((x, v) :: q))
theorem killK_eq {β : Type} (r : Nat) (l : List (Nat × SV)) (k : List (Nat × SV) → β) : killK r l k = k (killF r l) := by
  induction l generalizing k with
  | nil => rfl
  | cons p l ih =>
    simp only [killK, ih, killF]
    cases p.2.has r <;> rfl
def killHK {β : Type} (H : List (Nat × VH)) (r : Nat) : List Nat → (List (Nat × VH) → β) → β
  | [], k => k []
  | x :: l, k => match getH H x with
    | .blk t cs => forceL (cs.map (killC r)) fun cs' => killHK H r l fun q => k ((x, .blk t cs') :: q)
    | .arr e sz rows => killHK H r l fun q => k ((x, .arr e sz rows) :: q)
    | .gone => killHK H r l fun q => k ((x, .gone) :: q)
theorem killHK_eq {β : Type} (H : List (Nat × VH)) (r : Nat) (l : List Nat) (k : List (Nat × VH) → β) : killHK H r l k = k (l.map fun x => (x, killV r (getH H x))) := by
  induction l generalizing k with
  | nil => rfl
  | cons x l ih =>
    simp only [killHK, List.map_cons]
    cases getH H x <;> simp only [ih, forceL_eq, killV]
section
variable {k : Wk} {w0 : Org} {ops : Array Oper} {l : List Oper} {Q : St → Prop} {F F' : List (Nat × SV)} {H H' : List (Nat × VH)} {d t t' ty : Nat} {x y : Operand} {p : String} {af : Array Edge}
theorem opH_ok {o : Op} (hN : Nat.blt d k.N = true) (hv : opH k.τ F H d o = some (F', H')) : OpR k.P k.T k.N w0 ⟨F, H⟩ ⟨some d, o, t, p, af, none⟩ (fun s' => s' = ⟨F', H'⟩) := by
  unfold opH at hv
  split at hv
  · rename_i t x
    split at hv
    · rename_i cs hx
      rw [forceL_eq] at hv
      cases hf : (St.mk F H).fresh d with
      | false => rw [hf] at hv; cases hv
      | true =>
        rw [hf] at hv
        simp only [cond_true, Option.some.injEq, Prod.mk.injEq] at hv
        obtain ⟨rfl, rfl⟩ := hv
        exact opr_box rfl rfl (nlt hN) hx hf
    · cases hv
  · rename_i t
    split at hv
    · rename_i zs hz
      rw [forceL_eq] at hv
      cases hf : (St.mk F H).fresh d with
      | false => rw [hf] at hv; cases hv
      | true =>
        rw [hf] at hv
        simp only [cond_true, Option.some.injEq, Prod.mk.injEq] at hv
        obtain ⟨rfl, rfl⟩ := hv
        exact opr_alloc k.ok rfl rfl (nlt hN) hz hf
    · cases hv
  · rename_i t len parts
    split at hv
    · rename_i e sz by_ hty
      split at hv
      · rename_i zs cp hz hp
        split at hv
        · rename_i r hr
          split at hv
          · rename_i fl hfl
            rw [chunkK_eq] at hv
            cases hc : (Nat.beq zs.length sz && (Nat.blt 0 (len * sz) && (Nat.ble (len * sz) 16777216 && (St.mk F H).fresh d))) with
            | false => rw [hc] at hv; cases hv
            | true =>
              rw [hc] at hv
              simp only [cond_true, Option.some.injEq, Prod.mk.injEq] at hv
              obtain ⟨rfl, rfl⟩ := hv
              simp only [Bool.and_eq_true] at hc
              exact opr_buildSlice k.ok rfl rfl (nlt hN) hty hz hp hr hfl (nlt hc.2.1) (Nat.le_of_ble_eq_true hc.2.2.1) hc.2.2.2 (Nat.eq_of_beq_eq_true hc.1)
          · cases hv
        · cases hv
      · cases hv
    · cases hv
  · cases hv
theorem j_h {o : Op} (hN : Nat.blt d k.N = true) (hv : opH k.τ F H d o = some (F', H')) (h : rg k w0 ops l Q ⟨F', H'⟩) : rg k w0 ops (⟨some d, o, t, p, af, none⟩ :: l) Q ⟨F, H⟩ :=
  rgI (irg_h rfl (opH_ok hN hv) (rgO h))
theorem opS_ok {o : Op} {r : Nat} {vh : VH} (hv : opS k.τ F H o = some (r, vh)) : OpR k.P k.T k.N w0 ⟨F, H⟩ ⟨none, o, t, p, af, none⟩ (fun s' => s' = ⟨F, (r, vh) :: H⟩) := by
  unfold opS at hv
  split at hv
  · rename_i t x y
    split at hv
    · rename_i r' off hx
      split at hv
      · rename_i tt cs n vs hH hn hy
        rw [listK_eq] at hv
        cases hc : (Nat.beq vs.length n && Nat.ble (off + n) cs.length) with
        | false => rw [hc] at hv; cases hv
        | true =>
          rw [hc] at hv
          simp only [cond_true, Option.some.injEq, Prod.mk.injEq] at hv
          obtain ⟨rfl, rfl⟩ := hv
          simp only [Bool.and_eq_true] at hc
          exact opr_store k.ok rfl rfl hx hH hn hy (Nat.eq_of_beq_eq_true hc.1) (Nat.le_of_ble_eq_true hc.2)
      · cases hv
    · cases hv
  · cases hv
theorem j_s {o : Op} {r : Nat} {vh : VH} (hv : opS k.τ F H o = some (r, vh)) (h : rg k w0 ops l Q ⟨F, (r, vh) :: H⟩) : rg k w0 ops (⟨none, o, t, p, af, none⟩ :: l) Q ⟨F, H⟩ :=
  rgI (irg_h rfl (opS_ok hv) (rgO h))
theorem j_ste {r i j sz n e : Nat} {rows : List (List Cell)} {row row' : List Cell} {vs : List CV} {ds : List Cell} (hx : (St.mk F H).ev x = .one (.el r i j sz)) (hH : getH H r = .arr e sz rows) (hn : (tyAt k.τ t').size = some n) (hy : ((St.mk F H).ev y).cells = some vs) (hds : unDL vs = some ds) (hl : ds.length = n) (hi : rows[i]? = some row) (hle : j + n ≤ row.length) (hr : listK (setSegC row j ds) some = some row')
    (h : rg k w0 ops l Q ⟨F, (r, .arr e sz (rows.set i row')) :: H⟩) : rg k w0 ops (⟨none, .store t' x y, t, p, af, none⟩ :: l) Q ⟨F, H⟩ := by
  rw [listK_eq] at hr
  injection hr with hr
  subst hr
  exact i_ste (s := ⟨F, H⟩) hx hH hn hy hds hl hi hle h
theorem j_ap0 {e sz by_ : Nat} {zs : List Z} {rows' : List (List Cell)} (hN : Nat.blt d k.N = true) (ht : tyAt k.τ t' = .sl e sz by_) (hz : (tyAt k.τ e).zs = some zs) (hzl : zs.length = sz) (h0 : Nat.blt 0 sz = true) (hx : (St.mk F H).ev x = .one .nil) (hy : Src ⟨F, H⟩ sz ((St.mk F H).ev y) rows') (hf : (St.mk F H).fresh d = true)
    (hbd : rows'.length * by_ ≤ 140737488355328) (hb0 : Nat.blt 0 by_ = true) (h : rg k w0 ops l Q ⟨(d, .one (.sl d rows'.length sz)) :: F, (d, .arr e sz rows') :: H⟩) : rg k w0 ops (⟨some d, .call { callee := .builtin .append, args := #[x, y], argTypes := #[t', t'] }, t, p, af, none⟩ :: l) Q ⟨F, H⟩ :=
  i_ap0 (s := ⟨F, H⟩) hN ht hz hzl h0 hx hy hf hbd hb0 h
theorem j_ap {e sz by_ r n : Nat} {zs : List Z} {rows rows' : List (List Cell)} (hN : Nat.blt d k.N = true) (ht : tyAt k.τ t' = .sl e sz by_) (hz : (tyAt k.τ e).zs = some zs) (hzl : zs.length = sz) (h0 : Nat.blt 0 sz = true) (hx : (St.mk F H).ev x = .one (.sl r n sz)) (hr : getH H r = .arr e sz rows)
    (hk : killK r F (fun a => killHK H r (H.map (·.1)) fun b => some (a, b)) = some (F', H')) (hr2 : getH H' r = .arr e sz rows) (hn : n = rows.length) (hy : Src ⟨F, H'⟩ sz ((St.mk F H).ev y) rows') (hf : allH r H' = true)
    (hbd : (rows.length + rows'.length) * by_ ≤ 140737488355328) (hb0 : Nat.blt 0 by_ = true) (h : rg k w0 ops l Q ⟨(d, .one (.sl r (rows ++ rows').length sz)) :: F', (r, .arr e sz (rows ++ rows')) :: H'⟩) : rg k w0 ops (⟨some d, .call { callee := .builtin .append, args := #[x, y], argTypes := #[t', t'] }, t, p, af, none⟩ :: l) Q ⟨F, H⟩ := by
  rw [killK_eq, killHK_eq] at hk
  injection hk with hk
  injection hk with h1 h2
  subst h1
  subst h2
  exact i_apk (s := ⟨F, H⟩) hN ht hz hzl h0 hx hr hr2 hn hy hf hbd hb0 h
theorem j_nil {s : St} (h : Q s) : rg k w0 ops [] Q s := i_nil h
/-! in regions that draw their order -/
theorem e_v {s : St} {gd : Option (Nat × Bool)} {o : Op} {v : SV} (hv : nrm (opV k.τ s.F s.H o) = some v) : OpE k.P k.T k.N w0 s ⟨some d, o, t, p, af, gd⟩ v := by
  rw [nrm_eq] at hv
  exact opV_ok (F := s.F) (H := s.H) k.ok hv
end
/-! loops -/
/-- Some slots, as they are. -/
def lvK {β : Type} (F : List (Nat × SV)) : List Nat → (List (Nat × SV) → β) → β
  | [], k => k []
  | x :: l, k => match getF F x with
    | .u => lvK F l k
    | .one c => lvK F l fun q => k ((x, .one c) :: q)
    | .agg cs => lvK F l fun q => k ((x, .agg cs) :: q)
    | .tup vs => lvK F l k
def lvHK {β : Type} (H : List (Nat × VH)) : List Nat → (List (Nat × VH) → β) → β
  | [], k => k []
  | x :: l, k => match getH H x with
    | .gone => lvHK H l k
    | .blk t cs => lvHK H l fun q => k ((x, .blk t cs) :: q)
    | .arr e sz rows => lvHK H l fun q => k ((x, .arr e sz rows) :: q)
section
variable {k : Wk} {w0 : Org} {Q : Exit → St → Prop} {c : Code} {s : St} {F' : List (Nat × SV)} {H' : List (Nat × VH)}
/-- A loop that counts up: n rounds at most; the slots live, the names lh stay as they are; FA, HA change. -/
theorem c_up (n : Nat) (live lh : List Nat) (idx : Nat) (p : Nat → Prop) (hp : p 0) (FA : Nat → List (Nat × SV)) (HA : Nat → List (Nat × VH)) (vs : List Nat) (hF : lvK s.F live some = some F') (hH : lvHK s.H lh some = some H') (h0 : Fits vs s ⟨(idx, .one (.d (.int .i64 0))) :: (FA 0 ++ F'), HA 0 ++ H'⟩)
    (round : ∀ i, i ≤ n → p i → wk k w0 c (kRound Q (fun s' => ∃ i', (i' ≤ n ∧ p i') ∧ n - i' < n - i ∧ ∃ vs', Fits vs' s' ⟨(idx, .one (.d (.int .i64 ((i' : Nat) : Int)))) :: (FA i' ++ F'), HA i' ++ H'⟩)) ⟨(idx, .one (.d (.int .i64 (i : Int)))) :: (FA i ++ F'), HA i ++ H'⟩) : wk k w0 (.loop c) Q s :=
  c_loop (ι := Nat) (fun i => ⟨(idx, .one (.d (.int .i64 (i : Int)))) :: (FA i ++ F'), HA i ++ H'⟩) (fun i => i ≤ n ∧ p i) (fun i => n - i) vs 0 ⟨Nat.zero_le _, hp⟩ h0 fun i hi => round i hi.1 hi.2
/-- A loop with a state of its own, that comes to its end by a measure. -/
theorem c_any {ι : Type} (i0 : ι) (live lh : List Nat) (p : ι → Prop) (μ : ι → Nat) (hp : p i0) (FA : ι → List (Nat × SV)) (HA : ι → List (Nat × VH)) (vs : List Nat) (hF : lvK s.F live some = some F') (hH : lvHK s.H lh some = some H') (h0 : Fits vs s ⟨FA i0 ++ F', HA i0 ++ H'⟩)
    (round : ∀ i, p i → wk k w0 c (kRound Q (fun s' => ∃ i', p i' ∧ μ i' < μ i ∧ ∃ vs', Fits vs' s' ⟨FA i' ++ F', HA i' ++ H'⟩)) ⟨FA i ++ F', HA i ++ H'⟩) : wk k w0 (.loop c) Q s :=
  c_loop (fun i => ⟨FA i ++ F', HA i ++ H'⟩) p μ vs i0 hp h0 fun i hi => round i hi
/-- Ways meet: the state is one of J. -/
theorem c_mt {ι : Type} {x y : Code} (live lh : List Nat) (p : ι → Prop) (FA : ι → List (Nat × SV)) (HA : ι → List (Nat × VH)) (hF : lvK s.F live some = some F') (hH : lvHK s.H lh some = some H')
    (h : wk k w0 x (kRound Q (fun s' => ∃ i, p i ∧ ∃ vs', Fits vs' s' ⟨FA i ++ F', HA i ++ H'⟩)) s) (hy : ∀ i, p i → wk k w0 y Q ⟨FA i ++ F', HA i ++ H'⟩) : wk k w0 (.seq x y) Q s :=
  c_meet (fun i => ⟨FA i ++ F', HA i ++ H'⟩) p h hy
end
theorem c_mt2 {k : Wk} {w0 : Org} {Q : Exit → St → Prop} {s : St} {F' : List (Nat × SV)} {H' : List (Nat × VH)} {ι : Type} {x y : Code} (live lh : List Nat) (p : ι → Prop) (FA : ι → List (Nat × SV)) (HA : ι → List (Nat × VH)) (hF : lvK s.F live some = some F') (hH : lvHK s.H lh some = some H')
    (h : wk k w0 x (kRound Q (fun s' => ∃ i, p i ∧ ∃ vs', Fits vs' s' ⟨FA i ++ F', HA i ++ H'⟩)) s) (hy : ∀ i, p i → wk k w0 y Q ⟨FA i ++ F', HA i ++ H'⟩) : wk k w0 x (kThen k w0 y Q) s := by
  refine wkI (iwp_mono (wkO h) fun e s' hq => ?_)
  unfold kRound at hq
  unfold kThen
  cases e <;> first | exact hq | (obtain ⟨i, hp, vs', hf⟩ := hq; exact iwp_fits hf (wkO (hy i hp)))
/-! decided ways -/
section
variable {k : Wk} {w0 : Org} {ops : Array Oper} {l : List Oper} {Q : St → Prop} {F F' : List (Nat × SV)} {H H' : List (Nat × VH)} {d t : Nat} {p : String} {af : Array Edge}
theorem dec_t {b : Bool} (h : b = true) : b = true := h
theorem dec_f {b : Bool} (h : b = false) : b = false := h
def pk (b : Bool) (x y : Operand) : Operand := match b with | true => x | false => y
theorem j_pk {c x y : Operand} {b b' : Bool} {v : CV} (hN : Nat.blt d k.N = true) (hc : (St.mk F H).ev c = .one (.d (.bool b))) (hb : b = b') (hx : (St.mk F H).ev (pk b' x y) = .one v) (h : rg k w0 ops l Q ⟨(d, .one v) :: F, H⟩) : rg k w0 ops (⟨some d, .pick c x y, t, p, af, none⟩ :: l) Q ⟨F, H⟩ := by
  subst hb
  cases b
  · exact i_pf (s := ⟨F, H⟩) hN hc rfl hx h
  · exact i_pt (s := ⟨F, H⟩) hN hc rfl hx h
theorem e_pk {s : St} {gd : Option (Nat × Bool)} {c x y : Operand} {b b' : Bool} {v : CV} (hc : s.ev c = .one (.d (.bool b))) (hb : b = b') (hx : s.ev (pk b' x y) = .one v) : OpE k.P k.T k.N w0 s ⟨some d, .pick c x y, t, p, af, gd⟩ (.one v) := by
  subst hb
  cases b
  · exact e_pf hc rfl hx
  · exact e_pt hc rfl hx
end
section
variable {k : Wk} {w0 : Org} {Q : Exit → St → Prop} {c : Code} {s : St} {F F1 F2 : List (Nat × SV)} {H H1 H2 : List (Nat × VH)} {a : Nat × SV}
theorem c_lit (hF : listK F some = some F1) (hH : listK H some = some H1) (h : wk k w0 c Q ⟨F1, H1⟩) : wk k w0 c Q ⟨F, H⟩ := by
  rw [listK_eq] at hF hH
  injection hF with hF
  injection hH with hH
  subst hF
  subst hH
  exact h
theorem c_l1 (hF : listK (F ++ F2) some = some F1) (hH : listK H some = some H1) (h : wk k w0 c Q ⟨a :: F1, H1⟩) : wk k w0 c Q ⟨a :: (F ++ F2), H⟩ := by
  rw [listK_eq] at hF hH
  injection hF with hF
  injection hH with hH
  subst hF
  subst hH
  exact h
theorem c_l2 (hF : listK (F ++ F2) some = some F1) (hH : listK H some = some H1) (h : wk k w0 c Q ⟨F1, H1⟩) : wk k w0 c Q ⟨F ++ F2, H⟩ := c_lit hF hH h
theorem c_l3 {args : List SV} {n : Nat} (hF : listK (argF n args) some = some F1) (h : wk k w0 c Q ⟨F1, []⟩) : wk k w0 c Q ⟨argF n args, []⟩ := c_lit hF rfl h
theorem CVle_pl {vs : List Nat} {c : CV} (h : c.pl = true) : CVle vs c c := by
  cases c <;> first | exact .d rfl | cases h
def SV.pl1 : SV → Bool
  | .one c => c.pl
  | .agg cs => plL cs
  | _ => false
theorem CVleL_pl {vs : List Nat} {cs : List CV} (h : plL cs = true) : CVleL vs cs cs := by
  induction cs with
  | nil => exact .nil
  | cons c cs ih =>
    simp only [plL, Bool.and_eq_true] at h
    exact .cons (CVle_pl h.1) (ih h.2)
theorem SVle_pl {vs : List Nat} {v : SV} (h : v.pl1 = true) : SVle vs v v := by
  cases v with
  | u => cases h
  | one c => exact .one (CVle_pl h)
  | agg cs => exact .agg (CVleL_pl h)
  | tup vs' => cases h
end
/-! results -/
def rzC (H : List (Nat × VH)) : CV → Option (CV × Prop)
  | .d x => some (.d x, True)
  | .nil => some (.d (.list []), True)
  | .sl r n sz => match getH H r with
    | .arr _ sz' rows => bif Nat.beq sz' sz then some (.d (.list rows), n = rows.length) else none
    | _ => none
  | _ => none
def rzL (H : List (Nat × VH)) : List CV → Option (List CV × Prop)
  | [] => some ([], True)
  | c :: l => match rzC H c, rzL H l with
    | some (c', p), some (l', q) => some (c' :: l', p ∧ q)
    | _, _ => none
def rzS (H : List (Nat × VH)) : SV → Option (SV × Prop)
  | .one c => match rzC H c with | some (c', p) => some (.one c', p) | none => none
  | .agg l => match rzL H l with | some (l', p) => some (.agg l', p) | none => none
  | _ => none
def rzV (τ : List TyI) (F : List (Nat × SV)) (H : List (Nat × VH)) : ResultVar → Option SV
  | .tmp t => some (getF F t)
  | .cell t ty => match getF F t with
    | .one (.ref r off) => match getH H r with
      | .blk _ cs => match tyAt τ ty, dropO off cs with
        | .ar _ _ _ _ _, _ => none
        | ty', some q => loadO ty' q
        | _, none => none
      | _ => none
    | _ => none
def rzR (τ : List TyI) (F : List (Nat × SV)) (H : List (Nat × VH)) : List ResultVar → Option (List SV × Prop)
  | [] => some ([], True)
  | r :: l => match rzV τ F H r with
    | some v => match rzS H v, rzR τ F H l with
      | some (v', p), some (l', q) => some (v' :: l', p ∧ q)
      | _, _ => none
    | none => none
def rzA (τ : List TyI) (F : List (Nat × SV)) (H : List (Nat × VH)) (l : List ResultVar) : Option (SV × Prop) := match rzR τ F H l with
  | some ([v], p) => some (v, p)
  | some (l, p) => some (.tup l, p)
  | none => none
section
variable {τ : List TyI} {F : List (Nat × SV)} {H : List (Nat × VH)}
theorem rzC_ok {c c' : CV} {p : Prop} (h : rzC H c = some (c', p)) (hp : p) : RzC H c c' := by
  unfold rzC at h
  split at h
  · cases h; exact .d _
  · cases h; exact .nil
  · rename_i r n sz
    split at h
    · rename_i e sz' rows hh
      cases hb : Nat.beq sz' sz with
      | false => rw [hb] at h; cases h
      | true =>
        have := Nat.eq_of_beq_eq_true hb
        subst this
        rw [hb] at h; cases h; exact .sl hh hp
    · cases h
  · cases h
theorem rzL_ok {l l' : List CV} {p : Prop} (h : rzL H l = some (l', p)) (hp : p) : RzL H l l' := by
  induction l generalizing l' p with
  | nil => simp [rzL] at h; obtain ⟨rfl, _⟩ := h; exact .nil
  | cons c l ih =>
    simp only [rzL] at h
    split at h
    · rename_i c' p' l2 q h1 h2
      cases h
      exact .cons (rzC_ok h1 hp.1) (ih h2 hp.2)
    · cases h
theorem rzS_ok {v v' : SV} {p : Prop} (h : rzS H v = some (v', p)) (hp : p) : RzS H v v' := by
  unfold rzS at h
  split at h
  · split at h
    · rename_i h1; cases h; exact .one (rzC_ok h1 hp)
    · cases h
  · split at h
    · rename_i h1; cases h; exact .agg (rzL_ok h1 hp)
    · cases h
  · cases h
theorem rzV_ok {r : ResultVar} {v : SV} (h : rzV τ F H r = some v) : ResV τ ⟨F, H⟩ r v := by
  unfold rzV at h
  split at h
  · cases h; exact .tmp _
  · rename_i t ty
    split at h
    · rename_i r off hx
      split at h
      · rename_i tt cs hH
        split at h
        · cases h
        · rename_i q hq hna
          obtain ⟨rfl, hle⟩ := dropO_eq hq
          unfold loadO at h
          split at h
          · rename_i hty
            cases hc : cs.drop off with
            | nil => rw [hc] at h; cases h
            | cons c l => rw [hc] at h; cases h; exact .cell1 hx hH (by rw [hty]; rfl) (drop_head hc)
          · rename_i hty
            cases hc : cs.drop off with
            | nil => rw [hc] at h; cases h
            | cons c l => rw [hc] at h; cases h; exact .cell1 hx hH (by rw [hty]; rfl) (drop_head hc)
          · rename_i n fs zs hty
            cases hq : takeO n (cs.drop off) with
            | none => rw [hq] at h; cases h
            | some q =>
              rw [hq] at h; cases h
              obtain ⟨rfl, hle2⟩ := takeO_eq hq
              exact .celln hx hH hty (by simp at hle2; omega)
          · rename_i hty; exact (hna _ _ _ _ _ hty).elim
          · cases h
        · cases h
      · cases h
    · cases h
theorem rzR_ok {l : List ResultVar} {l' : List SV} {p : Prop} (h : rzR τ F H l = some (l', p)) (hp : p) : ∃ raw, ResL τ ⟨F, H⟩ l raw ∧ RzSL H raw l' := by
  induction l generalizing l' p with
  | nil => simp [rzR] at h; obtain ⟨rfl, _⟩ := h; exact ⟨[], .nil, .nil⟩
  | cons r l ih =>
    simp only [rzR] at h
    split at h
    · rename_i v hv
      split at h
      · rename_i v' p' l2 q h1 h2
        cases h
        obtain ⟨raw, q1, q2⟩ := ih h2 hp.2
        exact ⟨v :: raw, .cons (rzV_ok hv) q1, .cons (rzS_ok h1 hp.1) q2⟩
      · cases h
    · cases h
theorem r_g {fn : Func} {post : SV → Prop} {v : SV} {p : Prop} (h : rzA τ F H fn.results.toList = some (v, p)) (hp : p) (h2 : post v) : RetQ τ fn post .ret ⟨F, H⟩ := by
  unfold rzA at h
  split at h
  · rename_i v' p' h1
    cases h
    obtain ⟨raw, q1, q2⟩ := rzR_ok h1 hp
    cases q2 with
    | cons h3 h4 =>
      cases h4
      exact ⟨.inl rfl, _, _, q1, .one h3, h2⟩
  · rename_i l' p' hne h1
    cases h
    obtain ⟨raw, q1, q2⟩ := rzR_ok h1 hp
    cases q2 with
    | nil => exact ⟨.inl rfl, _, _, q1, .none, h2⟩
    | cons h3 h4 =>
      cases h4 with
      | nil => exact absurd rfl (hne _)
      | cons h5 h6 => exact ⟨.inl rfl, _, _, q1, .two (.cons h3 (.cons h5 h6)), h2⟩
  · cases h
end
/-! Part of an array of structs, known by a fact -/
def cutO (cs : List CV) (i n : Nat) : Option (List CV) := if i * n + n ≤ cs.length then some ((cs.drop (i * n)).take n) else none
section
variable {k : Wk} {w0 : Org} {ops : Array Oper} {l : List Oper} {Q : St → Prop} {F : List (Nat × SV)} {H : List (Nat × VH)} {d t ty t' : Nat} {p : String} {af : Array Edge} {x y : Operand} {gd : Option (Nat × Bool)} {s : St}
theorem e_ixk {n len e sz i : Nat} {zs fs2 zs2} {cs r : List CV} {kk : IntKind} {m : Int} (hx : s.ev x = .agg cs) (hy : s.ev y = .one (.d (.int kk m))) (ht : tyAt k.τ t' = .ar n len e sz zs) (he : tyAt k.τ e = .st sz fs2 zs2) (h0 : 0 ≤ m) (hi : m < (len : Int)) (hm : m.toNat = i) (hc : cutO cs i sz = some r) : OpE k.P k.T k.N w0 s ⟨some d, .index t' x y, t, p, af, gd⟩ (.agg r) := by
  unfold cutO at hc
  split at hc
  · rename_i h
    injection hc with hc
    subst hc
    exact e_ixn hx hy ht he h0 hi hm h
  · cases hc
theorem j_ixk {n len e sz i : Nat} {zs fs2 zs2} {cs r : List CV} {kk : IntKind} {m : Int} (hN : Nat.blt d k.N = true) (hx : (St.mk F H).ev x = .agg cs) (hy : (St.mk F H).ev y = .one (.d (.int kk m))) (ht : tyAt k.τ t' = .ar n len e sz zs) (he : tyAt k.τ e = .st sz fs2 zs2) (h0 : 0 ≤ m) (hi : m < (len : Int)) (hm : m.toNat = i) (hc : cutO cs i sz = some r) (h : rg k w0 ops l Q ⟨(d, .agg r) :: F, H⟩) : rg k w0 ops (⟨some d, .index t' x y, t, p, af, none⟩ :: l) Q ⟨F, H⟩ :=
  rgI (irg_e rfl rfl (nlt hN) (e_ixk hx hy ht he h0 hi hm hc) (rgO h))
end
/-! Bools compared -/
def boolT (P : Program) (t : TypeId) : Bool := match P.underlying t with | some .bool => true | _ => false
theorem boolT_spec {P : Program} {t : TypeId} (h : boolT P t = true) : P.underlying t = some .bool := by
  unfold boolT at h
  split at h
  · assumption
  · cases h
section
variable {k : Wk} {w0 : Org} {ops : Array Oper} {l : List Oper} {Q : St → Prop} {F : List (Nat × SV)} {H : List (Nat × VH)} {d t ty t' : Nat} {p : String} {af : Array Edge} {x y : Operand} {b c : Bool} {gd : Option (Nat × Bool)} {s : St}
theorem e_beq (hx : s.ev x = .one (.d (.bool b))) (hy : s.ev y = .one (.d (.bool c))) (hu : boolT k.P ty = true) : OpE k.P k.T k.N w0 s ⟨some d, .binOp .eql ty x y t', t, p, af, gd⟩ (.one (.d (.bool (b == c)))) := ope_beq (boolT_spec hu) rfl hx hy
theorem e_bne (hx : s.ev x = .one (.d (.bool b))) (hy : s.ev y = .one (.d (.bool c))) (hu : boolT k.P ty = true) : OpE k.P k.T k.N w0 s ⟨some d, .binOp .neq ty x y t', t, p, af, gd⟩ (.one (.d (.bool (!(b == c))))) := ope_bne (boolT_spec hu) rfl hx hy
theorem j_beq (hN : Nat.blt d k.N = true) (hx : (St.mk F H).ev x = .one (.d (.bool b))) (hy : (St.mk F H).ev y = .one (.d (.bool c))) (hu : boolT k.P ty = true) (h : rg k w0 ops l Q ⟨(d, .one (.d (.bool (b == c)))) :: F, H⟩) : rg k w0 ops (⟨some d, .binOp .eql ty x y t', t, p, af, none⟩ :: l) Q ⟨F, H⟩ :=
  rgI (irg_e rfl rfl (nlt hN) (e_beq hx hy hu) (rgO h))
theorem j_bne (hN : Nat.blt d k.N = true) (hx : (St.mk F H).ev x = .one (.d (.bool b))) (hy : (St.mk F H).ev y = .one (.d (.bool c))) (hu : boolT k.P ty = true) (h : rg k w0 ops l Q ⟨(d, .one (.d (.bool (!(b == c))))) :: F, H⟩) : rg k w0 ops (⟨some d, .binOp .neq ty x y t', t, p, af, none⟩ :: l) Q ⟨F, H⟩ :=
  rgI (irg_e rfl rfl (nlt hN) (e_bne hx hy hu) (rgO h))
end
/-- What a guarded operation comes to. -/
def rgG (k : Wk) (w0 : Org) (ops : Array Oper) (c w : Bool) (dst : Option Nat) (o : Op) (t : Nat) (p : String) (af : Array Edge) (j : Nat) (l : List Oper) (Q : St → Prop) (F : List (Nat × SV)) (H : List (Nat × VH)) : Prop :=
  match c, w with
  | true, true => rg k w0 ops (⟨dst, o, t, p, af, none⟩ :: l) Q ⟨F, H⟩
  | false, false => rg k w0 ops (⟨dst, o, t, p, af, none⟩ :: l) Q ⟨F, H⟩
  | true, false => ∃ d, dst = some d ∧ Nat.blt d k.N = true ∧ rg k w0 ops l Q ⟨(d, .tup []) :: F, H⟩
  | false, true => ∃ d, dst = some d ∧ Nat.blt d k.N = true ∧ rg k w0 ops l Q ⟨(d, .tup []) :: F, H⟩
section
variable {k : Wk} {w0 : Org} {ops : Array Oper} {l : List Oper} {Q : St → Prop} {F : List (Nat × SV)} {H : List (Nat × VH)} {d t : Nat} {p : String} {af : Array Edge} {o : Op} {dst : Option Nat} {j : Nat}
theorem j_g {q : Nat} {w c c' : Bool} (hj : (ops[j]?).bind (·.dst) = some q) (hv : getF F q = .one (.d (.bool c))) (hb : c = c') (h : rgG k w0 ops c' w dst o t p af j l Q F H) : rg k w0 ops (⟨dst, o, t, p, af, some (j, w)⟩ :: l) Q ⟨F, H⟩ := by
  subst hb
  cases c <;> cases w
  · exact i_gy (s := ⟨F, H⟩) hj hv rfl h
  · obtain ⟨d, rfl, h1, h2⟩ := h; exact i_gn (s := ⟨F, H⟩) hj hv rfl h1 h2
  · obtain ⟨d, rfl, h1, h2⟩ := h; exact i_gm (s := ⟨F, H⟩) hj hv rfl h1 h2
  · exact i_gy (s := ⟨F, H⟩) hj hv rfl h
theorem g_tt (h : rg k w0 ops (⟨dst, o, t, p, af, none⟩ :: l) Q ⟨F, H⟩) : rgG k w0 ops true true dst o t p af j l Q F H := h
theorem g_ff (h : rg k w0 ops (⟨dst, o, t, p, af, none⟩ :: l) Q ⟨F, H⟩) : rgG k w0 ops false false dst o t p af j l Q F H := h
theorem g_tf (hN : Nat.blt d k.N = true) (h : rg k w0 ops l Q ⟨(d, .tup []) :: F, H⟩) : rgG k w0 ops true false (some d) o t p af j l Q F H := ⟨d, rfl, hN, h⟩
theorem g_ft (hN : Nat.blt d k.N = true) (h : rg k w0 ops l Q ⟨(d, .tup []) :: F, H⟩) : rgG k w0 ops false true (some d) o t p af j l Q F H := ⟨d, rfl, hN, h⟩
end
def wkC (k : Wk) (w0 : Org) (b : Bool) (x y : Code) (Q : Exit → St → Prop) (s : St) : Prop := match b with | true => wk k w0 x Q s | false => wk k w0 y Q s
theorem c_c {k : Wk} {w0 : Org} {Q : Exit → St → Prop} {s : St} {c : Operand} {x y : Code} {b b' : Bool} (hc : s.ev c = .one (.d (.bool b))) (hb : b = b') (h : wkC k w0 b' x y Q s) : wk k w0 (.cond c x y) Q s := by
  subst hb
  cases b
  · exact c_f hc rfl h
  · exact c_t hc rfl h
theorem c_ct {k : Wk} {w0 : Org} {Q : Exit → St → Prop} {s : St} {x y : Code} (h : wk k w0 x Q s) : wkC k w0 true x y Q s := h
theorem c_cf {k : Wk} {w0 : Org} {Q : Exit → St → Prop} {s : St} {x y : Code} (h : wk k w0 y Q s) : wkC k w0 false x y Q s := h
/-! a tape of the call's own -/
section
variable {k : Wk} {w0 : Org} {ops : Array Oper} {l : List Oper} {Q : St → Prop} {F F' : List (Nat × SV)} {H H' : List (Nat × VH)} {d t t' ty : Nat} {x y : Operand} {p : String} {af : Array Edge}
theorem j_tpa {r : Nat} {zs : List Int} (h0 : w0.tp = none) (hN : Nat.blt d k.N = true) (hx : (St.mk F H).ev x = .one (.ref r 0)) (hr : getH H r = .blk k.T [.d (.list (zs.map fun z => [.int .i64 z])), .d (.int .i64 0)]) (hk : killK r F some = some F') (hF : ntF F' = true) (hH : ntH H = true)
    (h : rg k w0 ops l Q ⟨(d, .one .tape) :: F', (r, .gone) :: H⟩) : rg k w0 ops (⟨some d, .assign x, t, p, af, none⟩ :: l) Q ⟨F, H⟩ := by
  rw [killK_eq] at hk
  injection hk with hk
  subst hk
  refine j_v (v := .one (.ref r 0)) hN (by rw [nrm_eq]; show some ((St.mk F H).ev x) = _; rw [hx]) ?_
  refine rgI fun g a w hs => ?_
  obtain ⟨g', hs'⟩ := hs.mkTape (x := d) (F' := (d, .one .tape) :: killF r F) (H' := (r, .gone) :: H) h0 (by simp [getF]) hr (fun y => by
      simp only [getF, beq_eq, killF_get]
      by_cases e : d = y
      · subst e; simp
      · simp [e, show ¬ y = d from fun h => e h.symm]) (.inr trivial) (fun y hy => by
      have e : getF ((d, SV.one .tape) :: killF r F) y = getF (killF r F) y := by simp [getF, beq_eq, show ¬ d = y from fun h => hy h.symm]
      rw [e]
      exact ntF_get hF y) (fun q => by
      simp only [getH, beq_eq]
      by_cases e : r = q
      · simp [e]
      · simp [e, show ¬ q = r from fun h => e h.symm]) fun q _ => ntH_get hH q
  exact rgO h g' a w hs'
end
/-! a list given away -/
def fzC (r sz : Nat) (rows : List (List Cell)) : CV → CV × Prop
  | .sl q n s2 => bif Nat.beq q r && Nat.beq s2 sz then (.d (.list rows), n = rows.length) else (.sl q n s2, True)
  | c => (c, True)
def fzL (r sz : Nat) (rows : List (List Cell)) : List CV → List CV × Prop
  | [] => ([], True)
  | c :: l => ((fzC r sz rows c).1 :: (fzL r sz rows l).1, (fzC r sz rows c).2 ∧ (fzL r sz rows l).2)
/-- A value, with the list r given away. -/
def fzK {β : Type} (r sz : Nat) (rows : List (List Cell)) : List (Nat × SV) → (List (Nat × SV) → Prop → β) → β
  | [], k => k [] True
  | (x, v) :: l, k => match v with
    | .one (.sl q n s2) => bif Nat.beq q r && Nat.beq s2 sz then fzK r sz rows l (fun a p => k ((x, .one (.d (.list rows))) :: a) (n = rows.length ∧ p)) else fzK r sz rows l (fun a p => k ((x, .one (.sl q n s2)) :: a) p)
    | .agg cs => bif CV.hasL r cs then fzK r sz rows l (fun a p => forceL (fzL r sz rows cs).1 fun cs' => k ((x, .agg cs') :: a) ((fzL r sz rows cs).2 ∧ p)) else fzK r sz rows l (fun a p => k ((x, .agg cs) :: a) p)
    | .one c => fzK r sz rows l (fun a p => k ((x, .one c) :: a) p)
    | .tup vs => fzK r sz rows l (fun a p => k ((x, .tup vs) :: a) p)
    | .u => fzK r sz rows l (fun a p => k ((x, .u) :: a) p)
def fzHK {β : Type} (r sz : Nat) (rows : List (List Cell)) : List (Nat × VH) → (List (Nat × VH) → Prop → β) → β
  | [], k => k [] True
  | (x, v) :: l, k => bif Nat.beq x r then fzHK r sz rows l (fun a p => k ((x, .gone) :: a) p) else match v with
    | .blk t cs => bif CV.hasL r cs then fzHK r sz rows l (fun a p => forceL (fzL r sz rows cs).1 fun cs' => k ((x, .blk t cs') :: a) ((fzL r sz rows cs).2 ∧ p)) else fzHK r sz rows l (fun a p => k ((x, .blk t cs) :: a) p)
    | .arr e s2 rs => fzHK r sz rows l (fun a p => k ((x, .arr e s2 rs) :: a) p)
    | .gone => fzHK r sz rows l (fun a p => k ((x, .gone) :: a) p)
section
variable {H : List (Nat × VH)} {r : Nat} {e sz : Nat} {rows : List (List Cell)}
theorem fzC_ok (hr : getH H r = .arr e sz rows) {c : CV} (h : (fzC r sz rows c).2) : CVz H [r] c (fzC r sz rows c).1 := by
  unfold fzC at h ⊢
  split at h
  · rename_i q n sz'
    cases hb : (Nat.beq q r && Nat.beq sz' sz) with
    | false => simp only [hb, cond_false]; exact .same _
    | true =>
      have hb2 := hb
      rw [Bool.and_eq_true] at hb2
      have := Nat.eq_of_beq_eq_true hb2.1
      subst this
      have := Nat.eq_of_beq_eq_true hb2.2
      subst this
      simp only [hb, cond_true] at h ⊢
      exact .fz (by simp) hr h
  · exact .same _
theorem fzL_ok (hr : getH H r = .arr e sz rows) {l : List CV} (h : (fzL r sz rows l).2) : CVzL H [r] l (fzL r sz rows l).1 := by
  induction l with
  | nil => exact .nil
  | cons c l ih => exact .cons (fzC_ok hr h.1) (ih h.2)
theorem fzK_ok {β : Type} (hr : getH H r = .arr e sz rows) (l : List (Nat × SV)) (k : List (Nat × SV) → Prop → β) : ∃ l' p, fzK r sz rows l k = k l' p ∧ (p → FrF H [r] l l') := by
  induction l generalizing k with
  | nil => exact ⟨[], True, rfl, fun _ => .nil⟩
  | cons q l ih =>
    obtain ⟨x, v⟩ := q
    unfold fzK
    split
    · rename_i q n sz'
      cases hb : (Nat.beq q r && Nat.beq sz' sz) with
      | false =>
        simp only [cond_false]
        obtain ⟨l', p, h1, h2⟩ := ih fun a p => k ((x, .one (.sl q n sz')) :: a) p
        exact ⟨_, p, h1, fun hp => .cons (.same _) (h2 hp)⟩
      | true =>
        simp only [cond_true]
        rw [Bool.and_eq_true] at hb
        have := Nat.eq_of_beq_eq_true hb.1
        subst this
        have := Nat.eq_of_beq_eq_true hb.2
        subst this
        obtain ⟨l', p, h1, h2⟩ := ih fun a p => k ((x, .one (.d (.list rows))) :: a) (n = rows.length ∧ p)
        exact ⟨_, _, h1, fun hp => .cons (.one (.fz (by simp) hr hp.1)) (h2 hp.2)⟩
    · rename_i cs
      cases hb : CV.hasL r cs with
      | false =>
        simp only [cond_false]
        obtain ⟨l', p, h1, h2⟩ := ih fun a p => k ((x, .agg cs) :: a) p
        exact ⟨_, p, h1, fun hp => .cons (.same _) (h2 hp)⟩
      | true =>
        simp only [cond_true, forceL_eq]
        obtain ⟨l', p, h1, h2⟩ := ih fun a p => k ((x, .agg (fzL r sz rows cs).1) :: a) ((fzL r sz rows cs).2 ∧ p)
        exact ⟨_, _, h1, fun hp => .cons (.agg (fzL_ok hr hp.1)) (h2 hp.2)⟩
    · rename_i c _
      obtain ⟨l', p, h1, h2⟩ := ih fun a p => k ((x, .one c) :: a) p
      exact ⟨_, p, h1, fun hp => .cons (.same _) (h2 hp)⟩
    · rename_i vs
      obtain ⟨l', p, h1, h2⟩ := ih fun a p => k ((x, .tup vs) :: a) p
      exact ⟨_, p, h1, fun hp => .cons (.same _) (h2 hp)⟩
    · obtain ⟨l', p, h1, h2⟩ := ih fun a p => k ((x, .u) :: a) p
      exact ⟨_, p, h1, fun hp => .cons (.same _) (h2 hp)⟩
theorem fzHK_ok {β : Type} (hr : getH H r = .arr e sz rows) (l : List (Nat × VH)) (k : List (Nat × VH) → Prop → β) : ∃ l' p, fzHK r sz rows l k = k l' p ∧ (p → FrH H [r] l l') := by
  induction l generalizing k with
  | nil => exact ⟨[], True, rfl, fun _ => .nil⟩
  | cons q l ih =>
    obtain ⟨x, v⟩ := q
    unfold fzHK
    cases hx : Nat.beq x r with
    | true =>
      simp only [cond_true]
      have := Nat.eq_of_beq_eq_true hx
      subst this
      obtain ⟨l', p, h1, h2⟩ := ih fun a p => k ((x, .gone) :: a) p
      exact ⟨_, p, h1, fun hp => .cons (.gone _ (by simp)) (h2 hp)⟩
    | false =>
      have hn : ([r] : List Nat).contains x = false := by
        have : ¬ x = r := fun e => by subst e; simp at hx
        simp [this]
      simp only [cond_false]
      split
      · rename_i t cs
        cases hb : CV.hasL r cs with
        | false =>
          simp only [cond_false]
          obtain ⟨l', p, h1, h2⟩ := ih fun a p => k ((x, .blk t cs) :: a) p
          exact ⟨_, p, h1, fun hp => .cons (.same _ hn) (h2 hp)⟩
        | true =>
          simp only [cond_true, forceL_eq]
          obtain ⟨l', p, h1, h2⟩ := ih fun a p => k ((x, .blk t (fzL r sz rows cs).1) :: a) ((fzL r sz rows cs).2 ∧ p)
          exact ⟨_, _, h1, fun hp => .cons (.blk hn (fzL_ok hr hp.1)) (h2 hp.2)⟩
      · rename_i e' s2 rs
        obtain ⟨l', p, h1, h2⟩ := ih fun a p => k ((x, .arr e' s2 rs) :: a) p
        exact ⟨_, p, h1, fun hp => .cons (.same _ hn) (h2 hp)⟩
      · obtain ⟨l', p, h1, h2⟩ := ih fun a p => k ((x, .gone) :: a) p
        exact ⟨_, p, h1, fun hp => .cons (.same _ hn) (h2 hp)⟩
end
section
variable {k : Wk} {w0 : Org} {ops : Array Oper} {l : List Oper} {Q : St → Prop} {F F' : List (Nat × SV)} {H H' : List (Nat × VH)} {e sz : Nat} {rows : List (List Cell)} {p q : Prop}
theorem j_fz (r : Nat) (hr : getH H r = .arr e sz rows) (hF : fzK r sz rows F (fun a p => some (a, p)) = some (F', p)) (hH : fzHK r sz rows H (fun a p => some (a, p)) = some (H', q)) (hp : p ∧ q) (h : rg k w0 ops l Q ⟨F', H'⟩) : rg k w0 ops l Q ⟨F, H⟩ := by
  obtain ⟨l1, p1, h1, h2⟩ := fzK_ok hr F fun a p => some (a, p)
  obtain ⟨l2, p2, h3, h4⟩ := fzHK_ok hr H fun a p => some (a, p)
  rw [h1] at hF
  rw [h3] at hH
  injection hF with hF
  injection hF with e1 e2
  injection hH with hH
  injection hH with e3 e4
  subst e1
  subst e2
  subst e3
  subst e4
  exact i_frz (s := ⟨F, H⟩) [r] (h4 hp.2) (h2 hp.1) h
theorem c_fz {c : Code} {Q : Exit → St → Prop} (r : Nat) (hr : getH H r = .arr e sz rows) (hF : fzK r sz rows F (fun a p => some (a, p)) = some (F', p)) (hH : fzHK r sz rows H (fun a p => some (a, p)) = some (H', q)) (hp : p ∧ q) (h : wk k w0 c Q ⟨F', H'⟩) : wk k w0 c Q ⟨F, H⟩ := by
  obtain ⟨l1, p1, h1, h2⟩ := fzK_ok hr F fun a p => some (a, p)
  obtain ⟨l2, p2, h3, h4⟩ := fzHK_ok hr H fun a p => some (a, p)
  rw [h1] at hF
  rw [h3] at hH
  injection hF with hF
  injection hF with e1 e2
  injection hH with hH
  injection hH with e3 e4
  subst e1
  subst e2
  subst e3
  subst e4
  exact c_frz (s := ⟨F, H⟩) [r] (h4 hp.2) (h2 hp.1) h
end
end Go.Proofs.Ytbnmcdnkeipdhaa
