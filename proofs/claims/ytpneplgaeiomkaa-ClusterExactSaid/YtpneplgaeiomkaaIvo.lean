/- What operations hand back: one rule for each kind. -/
import Derived.Test.YtpneplgaeiomkaaIvn
set_option linter.all false
namespace Go.Proofs.Ytpneplgaeiomkaa
open Go.RowKit Go.Shelf
section
variable {k : Wk} {w0 : Org} {s : St} {d t t' : Nat} {x y : Operand} {p : String} {af : Array Edge} {gd : Option (Nat × Bool)}
theorem e_pt {c : Operand} {b : Bool} {v : CV} (hc : s.ev c = .one (.d (.bool b))) (hb : b = true) (hx : s.ev x = .one v) : OpE k.P k.T k.N w0 s ⟨some d, .pick c x y, t, p, af, gd⟩ (.one v) :=
  hx ▸ ope_pick_t rfl (hb ▸ hc)
theorem e_pf {c : Operand} {b : Bool} {v : CV} (hc : s.ev c = .one (.d (.bool b))) (hb : b = false) (hx : s.ev y = .one v) : OpE k.P k.T k.N w0 s ⟨some d, .pick c x y, t, p, af, gd⟩ (.one v) :=
  hx ▸ ope_pick_f rfl (hb ▸ hc)
theorem e_ld_el1 {r i j sz e : Nat} {rows : List (List Cell)} {row : List Cell} {c : Cell} (hx : s.ev x = .one (.el r i j sz)) (hH : getH s.H r = .arr e sz rows) (ht : (tyAt k.τ t').isOne = true) (hi : rows[i]? = some row) (hj : row[j]? = some c) : OpE k.P k.T k.N w0 s ⟨some d, .load t' x, t, p, af, gd⟩ (.one (.d c)) :=
  ope_load_el1 rfl hx hH (tab_one k.ok ht) hi hj
theorem e_ld_eln {r i j sz e : Nat} {rows : List (List Cell)} {row : List Cell} {n fs zs} (hx : s.ev x = .one (.el r i j sz)) (hH : getH s.H r = .arr e sz rows) (ht : tyAt k.τ t' = .st n fs zs) (hi : rows[i]? = some row) (hj : j + n ≤ row.length) : OpE k.P k.T k.N w0 s ⟨some d, .load t' x, t, p, af, gd⟩ (.agg (((row.drop j).take n).map .d)) :=
  ope_load_eln rfl hx hH (tab_agg k.ok ht) hi hj
theorem e_ia {e sz by_ i : Nat} {rows : List (List Cell)} {row : List Cell} {kk : IntKind} {m : Int} (hx : s.ev x = .one (.d (.list rows))) (hy : s.ev y = .one (.d (.int kk m))) (ht : tyAt k.τ t' = .sl e sz by_) (h0 : 0 ≤ m) (hm : m.toNat = i) (hi : rows[i]? = some row) (hl : row.length = sz) (hz : Nat.blt 0 sz = true) : OpE k.P k.T k.N w0 s ⟨some d, .indexAddr t' x y, t, p, af, gd⟩ (.one (.rp (row.map .d))) :=
  ope_indexAddr_d rfl hx hy (tab_sl k.ok ht) h0 (hm ▸ hi) hl (nlt hz)
theorem e_ia_sl {r n e sz by_ i : Nat} {kk : IntKind} {m : Int} (hx : s.ev x = .one (.sl r n sz)) (hy : s.ev y = .one (.d (.int kk m))) (ht : tyAt k.τ t' = .sl e sz by_) (h0 : 0 ≤ m) (hi : m < (n : Int)) (hm : m.toNat = i) : OpE k.P k.T k.N w0 s ⟨some d, .indexAddr t' x y, t, p, af, gd⟩ (.one (.el r i 0 sz)) :=
  hm ▸ ope_indexAddr_sl rfl hx hy (tab_sl k.ok ht) h0 hi
theorem e_ia_ar {r off n len e sz i : Nat} {zs} {kk : IntKind} {m : Int} (hx : s.ev x = .one (.ref r off)) (hy : s.ev y = .one (.d (.int kk m))) (ht : tyAt k.τ t' = .ar n len e sz zs) (h0 : 0 ≤ m) (hi : m < (len : Int)) (hm : m.toNat = i) : OpE k.P k.T k.N w0 s ⟨some d, .indexAddr t' x y, t, p, af, gd⟩ (.one (.ref r (off + i * sz))) :=
  hm ▸ ope_indexAddr_arr rfl hx hy (tab_ar k.ok ht) h0 hi
theorem e_ix1 {n len e i : Nat} {zs} {cs : List CV} {c : CV} {kk : IntKind} {m : Int} (hx : s.ev x = .agg cs) (hy : s.ev y = .one (.d (.int kk m))) (ht : tyAt k.τ t' = .ar n len e 1 zs) (he : (tyAt k.τ e).isOne = true) (h0 : 0 ≤ m) (hi : m < (len : Int)) (hm : m.toNat = i) (hc : cs[i]? = some c) : OpE k.P k.T k.N w0 s ⟨some d, .index t' x y, t, p, af, gd⟩ (.one c) :=
  ope_index1 rfl hx hy (tab_ar k.ok ht) (tab_one k.ok he) h0 hi (hm ▸ hc)
theorem e_ixn {n len e sz i : Nat} {zs fs2 zs2} {cs : List CV} {kk : IntKind} {m : Int} (hx : s.ev x = .agg cs) (hy : s.ev y = .one (.d (.int kk m))) (ht : tyAt k.τ t' = .ar n len e sz zs) (he : tyAt k.τ e = .st sz fs2 zs2) (h0 : 0 ≤ m) (hi : m < (len : Int)) (hm : m.toNat = i) (hc : i * sz + sz ≤ cs.length) : OpE k.P k.T k.N w0 s ⟨some d, .index t' x y, t, p, af, gd⟩ (.agg ((cs.drop (i * sz)).take sz)) :=
  hm ▸ ope_indexn rfl hx hy (tab_ar k.ok ht) (tab_agg k.ok he) h0 hi (hm ▸ hc)
theorem e_len {e n b : Nat} {rows : List (List Cell)} (hx : s.ev x = .one (.d (.list rows))) (ht : tyAt k.τ t' = .sl e n b) : OpE k.P k.T k.N w0 s ⟨some d, .call { callee := .builtin .len, args := #[x], argTypes := #[t'] }, t, p, af, gd⟩ (.one (.d (.int .i64 (rows.length : Int)))) :=
  ope_len_d rfl hx (tab_sl k.ok ht)
theorem e_lenm {α : Type} {f : α → List Cell} {xs : List α} {e n b : Nat} (hx : s.ev x = .one (.d (.list (xs.map f)))) (ht : tyAt k.τ t' = .sl e n b) : OpE k.P k.T k.N w0 s ⟨some d, .call { callee := .builtin .len, args := #[x], argTypes := #[t'] }, t, p, af, gd⟩ (.one (.d (.int .i64 (xs.length : Int)))) :=
  ope_cg (ope_len_d rfl hx (tab_sl k.ok ht)) (by rw [List.length_map])
theorem e_lens {r m sz e n b : Nat} (hx : s.ev x = .one (.sl r m sz)) (ht : tyAt k.τ t' = .sl e n b) : OpE k.P k.T k.N w0 s ⟨some d, .call { callee := .builtin .len, args := #[x], argTypes := #[t'] }, t, p, af, gd⟩ (.one (.d (.int .i64 (m : Int)))) :=
  ope_len_sl rfl hx (tab_sl k.ok ht)
theorem e_len0 {e n b : Nat} (hx : s.ev x = .one .nil) (ht : tyAt k.τ t' = .sl e n b) : OpE k.P k.T k.N w0 s ⟨some d, .call { callee := .builtin .len, args := #[x], argTypes := #[t'] }, t, p, af, gd⟩ (.one (.d (.int .i64 0))) :=
  ope_len_nil rfl hx (tab_sl k.ok ht)
theorem e_add {kk : IntKind} {m n : Int} {r : Int} {tb : Nat} (hx : s.ev x = .one (.d (.int kk m))) (hy : s.ev y = .one (.d (.int kk n))) (hr : kk.wrap (m + n) = r) : OpE k.P k.T k.N w0 s ⟨some d, .binOp .add t' x y tb, t, p, af, gd⟩ (.one (.d (.int kk r))) :=
  ope_add rfl hx hy hr
theorem e_sub {kk : IntKind} {m n : Int} {r : Int} {tb : Nat} (hx : s.ev x = .one (.d (.int kk m))) (hy : s.ev y = .one (.d (.int kk n))) (hr : kk.wrap (m - n) = r) : OpE k.P k.T k.N w0 s ⟨some d, .binOp .sub t' x y tb, t, p, af, gd⟩ (.one (.d (.int kk r))) :=
  ope_sub rfl hx hy hr
end
end Go.Proofs.Ytpneplgaeiomkaa
