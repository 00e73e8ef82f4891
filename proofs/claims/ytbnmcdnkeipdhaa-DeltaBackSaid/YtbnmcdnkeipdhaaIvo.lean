/- What operations hand back: one rule for each kind. -/
import Derived.Test.YtbnmcdnkeipdhaaIvn
set_option linter.all false
namespace Go.Proofs.Ytbnmcdnkeipdhaa
open Go.RowKit Go.Shelf
section
variable {k : Wk} {w0 : Org} {s : St} {d t t' : Nat} {x y : Operand} {p : String} {af : Array Edge} {gd : Option (Nat × Bool)}
theorem e_mv1 {c : CV} (hx : s.ev x = .one c) : OpE k.P k.T k.N w0 s ⟨some d, .move x, t, p, af, gd⟩ (.one c) :=
  hx ▸ ope_move rfl
theorem e_mv2 {cs : List CV} (hx : s.ev x = .agg cs) : OpE k.P k.T k.N w0 s ⟨some d, .move x, t, p, af, gd⟩ (.agg cs) :=
  hx ▸ ope_move rfl
theorem e_mv3 {vs : List SV} (hx : s.ev x = .tup vs) : OpE k.P k.T k.N w0 s ⟨some d, .move x, t, p, af, gd⟩ (.tup vs) :=
  hx ▸ ope_move rfl
theorem e_mv0 (hx : s.ev x = .u) : OpE k.P k.T k.N w0 s ⟨some d, .move x, t, p, af, gd⟩ .u :=
  hx ▸ ope_move rfl
theorem e_as1 {c : CV} (hx : s.ev x = .one c) : OpE k.P k.T k.N w0 s ⟨some d, .assign x, t, p, af, gd⟩ (.one c) :=
  hx ▸ ope_assign rfl
theorem e_as2 {cs : List CV} (hx : s.ev x = .agg cs) : OpE k.P k.T k.N w0 s ⟨some d, .assign x, t, p, af, gd⟩ (.agg cs) :=
  hx ▸ ope_assign rfl
theorem e_as3 {vs : List SV} (hx : s.ev x = .tup vs) : OpE k.P k.T k.N w0 s ⟨some d, .assign x, t, p, af, gd⟩ (.tup vs) :=
  hx ▸ ope_assign rfl
theorem e_as0 (hx : s.ev x = .u) : OpE k.P k.T k.N w0 s ⟨some d, .assign x, t, p, af, gd⟩ .u :=
  hx ▸ ope_assign rfl
theorem e_pt {c : Operand} {b : Bool} {v : CV} (hc : s.ev c = .one (.d (.bool b))) (hb : b = true) (hx : s.ev x = .one v) : OpE k.P k.T k.N w0 s ⟨some d, .pick c x y, t, p, af, gd⟩ (.one v) :=
  hx ▸ ope_pick_t rfl (hb ▸ hc)
theorem e_pf {c : Operand} {b : Bool} {v : CV} (hc : s.ev c = .one (.d (.bool b))) (hb : b = false) (hx : s.ev y = .one v) : OpE k.P k.T k.N w0 s ⟨some d, .pick c x y, t, p, af, gd⟩ (.one v) :=
  hx ▸ ope_pick_f rfl (hb ▸ hc)
theorem e_ld_rp1 {cs : List CV} {c : CV} (hx : s.ev x = .one (.rp cs)) (ht : (tyAt k.τ t').isOne = true) (hc : cs[0]? = some c) : OpE k.P k.T k.N w0 s ⟨some d, .load t' x, t, p, af, gd⟩ (.one c) :=
  ope_load_rp1 rfl hx (tab_one k.ok ht) hc
theorem e_ld_rpn {cs : List CV} {n fs zs} (hx : s.ev x = .one (.rp cs)) (ht : tyAt k.τ t' = .st n fs zs) (hc : Nat.ble n cs.length = true) : OpE k.P k.T k.N w0 s ⟨some d, .load t' x, t, p, af, gd⟩ (.agg (cs.take n)) :=
  ope_load_rpn rfl hx (tab_agg k.ok ht) (Nat.le_of_ble_eq_true hc)
theorem e_ld_ref1 {r off : Nat} {tt : Nat} {cs : List CV} {c : CV} (hx : s.ev x = .one (.ref r off)) (hH : getH s.H r = .blk tt cs) (ht : (tyAt k.τ t').isOne = true) (hc : cs[off]? = some c) : OpE k.P k.T k.N w0 s ⟨some d, .load t' x, t, p, af, gd⟩ (.one c) :=
  ope_load_ref1 rfl hx hH (tab_one k.ok ht) hc
theorem e_ld_refn {r off tt : Nat} {cs : List CV} {n fs zs} (hx : s.ev x = .one (.ref r off)) (hH : getH s.H r = .blk tt cs) (ht : tyAt k.τ t' = .st n fs zs) (hc : Nat.ble (off + n) cs.length = true) : OpE k.P k.T k.N w0 s ⟨some d, .load t' x, t, p, af, gd⟩ (.agg ((cs.drop off).take n)) :=
  ope_load_refn rfl hx hH (tab_agg k.ok ht) (Nat.le_of_ble_eq_true hc)
theorem e_ld_refa {r off tt : Nat} {cs : List CV} {n len e sz zs} (hx : s.ev x = .one (.ref r off)) (hH : getH s.H r = .blk tt cs) (ht : tyAt k.τ t' = .ar n len e sz zs) (hc : Nat.ble (off + n) cs.length = true) : OpE k.P k.T k.N w0 s ⟨some d, .load t' x, t, p, af, gd⟩ (.agg ((cs.drop off).take n)) :=
  ope_load_refn rfl hx hH (tab_agga k.ok ht) (Nat.le_of_ble_eq_true hc)
theorem e_ld_el1 {r i j sz e : Nat} {rows : List (List Cell)} {row : List Cell} {c : Cell} (hx : s.ev x = .one (.el r i j sz)) (hH : getH s.H r = .arr e sz rows) (ht : (tyAt k.τ t').isOne = true) (hi : rows[i]? = some row) (hj : row[j]? = some c) : OpE k.P k.T k.N w0 s ⟨some d, .load t' x, t, p, af, gd⟩ (.one (.d c)) :=
  ope_load_el1 rfl hx hH (tab_one k.ok ht) hi hj
theorem e_ld_eln {r i j sz e : Nat} {rows : List (List Cell)} {row : List Cell} {n fs zs} (hx : s.ev x = .one (.el r i j sz)) (hH : getH s.H r = .arr e sz rows) (ht : tyAt k.τ t' = .st n fs zs) (hi : rows[i]? = some row) (hj : j + n ≤ row.length) : OpE k.P k.T k.N w0 s ⟨some d, .load t' x, t, p, af, gd⟩ (.agg (((row.drop j).take n).map .d)) :=
  ope_load_eln rfl hx hH (tab_agg k.ok ht) hi hj
theorem e_fa_ref {r off f n : Nat} {fs zs} {e : Nat × Nat × Nat} (hx : s.ev x = .one (.ref r off)) (ht : tyAt k.τ t' = .st n fs zs) (hf : fs[f]? = some e) : OpE k.P k.T k.N w0 s ⟨some d, .fieldAddr t' x f, t, p, af, gd⟩ (.one (.ref r (off + e.1))) :=
  ope_fieldAddr_ref rfl hx (tab_fld k.ok ht hf).1
theorem e_fa_el {r i j sz f n : Nat} {fs zs} {e : Nat × Nat × Nat} (hx : s.ev x = .one (.el r i j sz)) (ht : tyAt k.τ t' = .st n fs zs) (hf : fs[f]? = some e) : OpE k.P k.T k.N w0 s ⟨some d, .fieldAddr t' x f, t, p, af, gd⟩ (.one (.el r i (j + e.1) sz)) :=
  ope_fieldAddr_el rfl hx (tab_fld k.ok ht hf).1
theorem e_fa_rp {cs : List CV} {f n : Nat} {fs zs} {e : Nat × Nat × Nat} (hx : s.ev x = .one (.rp cs)) (ht : tyAt k.τ t' = .st n fs zs) (hf : fs[f]? = some e) : OpE k.P k.T k.N w0 s ⟨some d, .fieldAddr t' x f, t, p, af, gd⟩ (.one (.rp (cs.drop e.1))) :=
  ope_fieldAddr_rp rfl hx (tab_fld k.ok ht hf).1
theorem e_fd1 {cs : List CV} {c : CV} {f n : Nat} {fs zs} {e : Nat × Nat × Nat} (hx : s.ev x = .agg cs) (ht : tyAt k.τ t' = .st n fs zs) (hf : fs[f]? = some e) (h1 : (tyAt k.τ e.2.1).isOne = true) (hc : cs[e.1]? = some c) : OpE k.P k.T k.N w0 s ⟨some d, .field t' x f, t, p, af, gd⟩ (.one c) :=
  ope_field1 rfl hx (tab_fld k.ok ht hf).2 (tab_one k.ok h1) hc
theorem e_fdn {cs : List CV} {f n m : Nat} {fs zs fs2 zs2} {e : Nat × Nat × Nat} (hx : s.ev x = .agg cs) (ht : tyAt k.τ t' = .st n fs zs) (hf : fs[f]? = some e) (h1 : tyAt k.τ e.2.1 = .st m fs2 zs2) (hc : Nat.ble (e.1 + m) cs.length = true) : OpE k.P k.T k.N w0 s ⟨some d, .field t' x f, t, p, af, gd⟩ (.agg ((cs.drop e.1).take m)) :=
  ope_fieldn rfl hx (tab_fld k.ok ht hf).2 (tab_agg k.ok h1) (Nat.le_of_ble_eq_true hc)
theorem e_ia {e sz by_ i : Nat} {rows : List (List Cell)} {row : List Cell} {kk : IntKind} {m : Int} (hx : s.ev x = .one (.d (.list rows))) (hy : s.ev y = .one (.d (.int kk m))) (ht : tyAt k.τ t' = .sl e sz by_) (h0 : 0 ≤ m) (hm : m.toNat = i) (hi : rows[i]? = some row) (hl : row.length = sz) (hz : Nat.blt 0 sz = true) : OpE k.P k.T k.N w0 s ⟨some d, .indexAddr t' x y, t, p, af, gd⟩ (.one (.rp (row.map .d))) :=
  ope_indexAddr_d rfl hx hy (tab_sl k.ok ht) h0 (hm ▸ hi) hl (nlt hz)
theorem e_ia_sl {r n e sz by_ i : Nat} {kk : IntKind} {m : Int} (hx : s.ev x = .one (.sl r n sz)) (hy : s.ev y = .one (.d (.int kk m))) (ht : tyAt k.τ t' = .sl e sz by_) (h0 : 0 ≤ m) (hi : m < (n : Int)) (hm : m.toNat = i) : OpE k.P k.T k.N w0 s ⟨some d, .indexAddr t' x y, t, p, af, gd⟩ (.one (.el r i 0 sz)) :=
  hm ▸ ope_indexAddr_sl rfl hx hy (tab_sl k.ok ht) h0 hi
theorem e_ia_ar {r off n len e sz i : Nat} {zs} {kk : IntKind} {m : Int} (hx : s.ev x = .one (.ref r off)) (hy : s.ev y = .one (.d (.int kk m))) (ht : tyAt k.τ t' = .ar n len e sz zs) (h0 : 0 ≤ m) (hi : m < (len : Int)) (hm : m.toNat = i) : OpE k.P k.T k.N w0 s ⟨some d, .indexAddr t' x y, t, p, af, gd⟩ (.one (.ref r (off + i * sz))) :=
  hm ▸ ope_indexAddr_arr rfl hx hy (tab_ar k.ok ht) h0 hi
theorem e_ix1 {n len e i : Nat} {zs} {cs : List CV} {c : CV} {kk : IntKind} {m : Int} (hx : s.ev x = .agg cs) (hy : s.ev y = .one (.d (.int kk m))) (ht : tyAt k.τ t' = .ar n len e 1 zs) (he : (tyAt k.τ e).isOne = true) (h0 : 0 ≤ m) (hi : m < (len : Int)) (hm : m.toNat = i) (hc : cs[i]? = some c) : OpE k.P k.T k.N w0 s ⟨some d, .index t' x y, t, p, af, gd⟩ (.one c) :=
  ope_index1 rfl hx hy (tab_ar k.ok ht) (tab_one k.ok he) h0 hi (hm ▸ hc)
theorem e_ixn {n len e sz i : Nat} {zs fs2 zs2} {cs : List CV} {kk : IntKind} {m : Int} (hx : s.ev x = .agg cs) (hy : s.ev y = .one (.d (.int kk m))) (ht : tyAt k.τ t' = .ar n len e sz zs) (he : tyAt k.τ e = .st sz fs2 zs2) (h0 : 0 ≤ m) (hi : m < (len : Int)) (hm : m.toNat = i) (hc : i * sz + sz ≤ cs.length) : OpE k.P k.T k.N w0 s ⟨some d, .index t' x y, t, p, af, gd⟩ (.agg ((cs.drop (i * sz)).take sz)) :=
  hm ▸ ope_indexn rfl hx hy (tab_ar k.ok ht) (tab_agg k.ok he) h0 hi (hm ▸ hc)
theorem e_len {e n b : Nat} {rows : List (List Cell)} (hx : s.ev x = .one (.d (.list rows))) (ht : tyAt k.τ t' = .sl e n b) : OpE k.P k.T k.N w0 s ⟨some d, .call { callee := .builtin .len, args := #[x], argTypes := #[t'] }, t, p, af, gd⟩ (.one (.d (.int .i64 (rows.length : Int)))) :=
  ope_len_d rfl hx (tab_sl k.ok ht)
theorem e_lenm {α : Type} {f : α → List Cell} {xs : List α} {e n b : Nat} (hx : s.ev x = .one (.d (.list (xs.map f)))) (ht : tyAt k.τ t' = .sl e n b) : OpE k.P k.T k.N w0 s ⟨some d, .call { callee := .builtin .len, args := #[x], argTypes := #[t'] }, t, p, af, gd⟩ (.one (.d (.int .i64 (xs.length : Int)))) :=
  ope_cg (ope_len_d rfl hx (tab_sl k.ok ht)) (by rw [List.length_map])
theorem e_lens {r m sz e n b : Nat} (hx : s.ev x = .one (.sl r m sz)) (ht : tyAt k.τ t' = .sl e n b) : OpE k.P k.T k.N w0 s ⟨some d, .call { callee := .builtin .len, args := #[x], argTypes := #[t'] }, t, p, af, gd⟩ (.one (.d (.int .i64 (m : Int)))) :=
  ope_len_sl rfl hx (tab_sl k.ok ht)
theorem e_len0 {e n b : Nat} (hx : s.ev x = .one .nil) (ht : tyAt k.τ t' = .sl e n b) : OpE k.P k.T k.N w0 s ⟨some d, .call { callee := .builtin .len, args := #[x], argTypes := #[t'] }, t, p, af, gd⟩ (.one (.d (.int .i64 0))) :=
  ope_len_nil rfl hx (tab_sl k.ok ht)
theorem e_not {b : Bool} (hx : s.ev x = .one (.d (.bool b))) : OpE k.P k.T k.N w0 s ⟨some d, .unOp .not t' x, t, p, af, gd⟩ (.one (.d (.bool (!b)))) :=
  ope_not rfl hx
theorem e_nc {c : CV} (hx : s.ev x = .one c) (hc : c.ptr = true) : OpE k.P k.T k.N w0 s ⟨some d, .nilCheck x, t, p, af, gd⟩ (.one c) :=
  ope_nilCheck rfl hx hc
theorem e_ex {i : Nat} {vs : List SV} {c : CV} (hx : s.ev x = .tup vs) (hv : vs[i]? = some (.one c)) : OpE k.P k.T k.N w0 s ⟨some d, .extract x i, t, p, af, gd⟩ (.one c) :=
  ope_extract rfl hx hv
theorem e_exa {i : Nat} {vs : List SV} {cs : List CV} (hx : s.ev x = .tup vs) (hv : vs[i]? = some (.agg cs)) : OpE k.P k.T k.N w0 s ⟨some d, .extract x i, t, p, af, gd⟩ (.agg cs) :=
  ope_extract rfl hx hv
theorem e_mf {f : FuncId} {caps : Array Operand} {cs : List CV} (hc : evL s caps.toList = some cs) : OpE k.P k.T k.N w0 s ⟨some d, .makeFunc (.func f) #[] caps, t, p, af, gd⟩ (.one (.clo f cs)) :=
  ope_makeFunc rfl hc
theorem e_bd {n : Nat} {fs zs} {parts : Array (Nat × Operand)} {cp : List (Nat × List CV)} {r : List CV} (ht : tyAt k.τ t' = .st n fs zs) (hp : partsOf s parts.toList = some cp) (hr : cfill (fs.map fun f => (f.1, f.2.2)) (zs.map Z.cv) cp = some r) : OpE k.P k.T k.N w0 s ⟨some d, .build t' parts, t, p, af, gd⟩ (.agg r) :=
  ope_build k.ok rfl ht hp hr
theorem e_bda {n len e sz : Nat} {zs} {parts : Array (Nat × Operand)} {cp : List (Nat × List CV)} {r : List CV} (ht : tyAt k.τ t' = .ar n len e sz zs) (hp : partsOf s parts.toList = some cp) (hr : cfill ((List.range len).map fun i => (i * sz, sz)) (zs.map Z.cv) cp = some r) : OpE k.P k.T k.N w0 s ⟨some d, .build t' parts, t, p, af, gd⟩ (.agg r) :=
  ope_build_arr k.ok rfl ht hp hr
theorem e_add {kk : IntKind} {m n : Int} {r : Int} {tb : Nat} (hx : s.ev x = .one (.d (.int kk m))) (hy : s.ev y = .one (.d (.int kk n))) (hr : kk.wrap (m + n) = r) : OpE k.P k.T k.N w0 s ⟨some d, .binOp .add t' x y tb, t, p, af, gd⟩ (.one (.d (.int kk r))) :=
  ope_add rfl hx hy hr
theorem e_sub {kk : IntKind} {m n : Int} {r : Int} {tb : Nat} (hx : s.ev x = .one (.d (.int kk m))) (hy : s.ev y = .one (.d (.int kk n))) (hr : kk.wrap (m - n) = r) : OpE k.P k.T k.N w0 s ⟨some d, .binOp .sub t' x y tb, t, p, af, gd⟩ (.one (.d (.int kk r))) :=
  ope_sub rfl hx hy hr
theorem e_mul {kk : IntKind} {m n : Int} {r : Int} {tb : Nat} (hx : s.ev x = .one (.d (.int kk m))) (hy : s.ev y = .one (.d (.int kk n))) (hr : kk.wrap (m * n) = r) : OpE k.P k.T k.N w0 s ⟨some d, .binOp .mul t' x y tb, t, p, af, gd⟩ (.one (.d (.int kk r))) :=
  ope_mul rfl hx hy hr
theorem e_quo {kk : IntKind} {m n : Int} {r : Int} {tb : Nat} (hx : s.ev x = .one (.d (.int kk m))) (hy : s.ev y = .one (.d (.int kk n))) (hn : n ≠ 0) (hr : kk.wrap (m.tdiv n) = r) : OpE k.P k.T k.N w0 s ⟨some d, .binOp .quo t' x y tb, t, p, af, gd⟩ (.one (.d (.int kk r))) :=
  ope_quo rfl hx hy hn hr
theorem e_rem {kk : IntKind} {m n : Int} {r : Int} {tb : Nat} (hx : s.ev x = .one (.d (.int kk m))) (hy : s.ev y = .one (.d (.int kk n))) (hn : n ≠ 0) (hr : m.tmod n = r) : OpE k.P k.T k.N w0 s ⟨some d, .binOp .rem t' x y tb, t, p, af, gd⟩ (.one (.d (.int kk r))) :=
  ope_rem rfl hx hy hn hr
theorem e_and {kk : IntKind} {m n : Int} {r : Int} {tb : Nat} (hx : s.ev x = .one (.d (.int kk m))) (hy : s.ev y = .one (.d (.int kk n))) (hr : bits .and kk m n = r) : OpE k.P k.T k.N w0 s ⟨some d, .binOp .and t' x y tb, t, p, af, gd⟩ (.one (.d (.int kk r))) :=
  ope_bits (.inl rfl) rfl hx hy hr
theorem e_or {kk : IntKind} {m n : Int} {r : Int} {tb : Nat} (hx : s.ev x = .one (.d (.int kk m))) (hy : s.ev y = .one (.d (.int kk n))) (hr : bits .or kk m n = r) : OpE k.P k.T k.N w0 s ⟨some d, .binOp .or t' x y tb, t, p, af, gd⟩ (.one (.d (.int kk r))) :=
  ope_bits (.inr (.inl rfl)) rfl hx hy hr
theorem e_xor {kk : IntKind} {m n : Int} {r : Int} {tb : Nat} (hx : s.ev x = .one (.d (.int kk m))) (hy : s.ev y = .one (.d (.int kk n))) (hr : bits .xor kk m n = r) : OpE k.P k.T k.N w0 s ⟨some d, .binOp .xor t' x y tb, t, p, af, gd⟩ (.one (.d (.int kk r))) :=
  ope_bits (.inr (.inr (.inl rfl))) rfl hx hy hr
theorem e_anot {kk : IntKind} {m n : Int} {r : Int} {tb : Nat} (hx : s.ev x = .one (.d (.int kk m))) (hy : s.ev y = .one (.d (.int kk n))) (hr : bits .andNot kk m n = r) : OpE k.P k.T k.N w0 s ⟨some d, .binOp .andNot t' x y tb, t, p, af, gd⟩ (.one (.d (.int kk r))) :=
  ope_bits (.inr (.inr (.inr rfl))) rfl hx hy hr
theorem e_eq {kk : IntKind} {m n : Int} {tb : Nat} (hx : s.ev x = .one (.d (.int kk m))) (hy : s.ev y = .one (.d (.int kk n))) : OpE k.P k.T k.N w0 s ⟨some d, .binOp .eql t' x y tb, t, p, af, gd⟩ (.one (.d (.bool (decide (m = n))))) :=
  ope_eql rfl hx hy
theorem e_ne {kk : IntKind} {m n : Int} {tb : Nat} (hx : s.ev x = .one (.d (.int kk m))) (hy : s.ev y = .one (.d (.int kk n))) : OpE k.P k.T k.N w0 s ⟨some d, .binOp .neq t' x y tb, t, p, af, gd⟩ (.one (.d (.bool (!decide (m = n))))) :=
  ope_neq rfl hx hy
theorem e_lt {kk : IntKind} {m n : Int} {tb : Nat} (hx : s.ev x = .one (.d (.int kk m))) (hy : s.ev y = .one (.d (.int kk n))) : OpE k.P k.T k.N w0 s ⟨some d, .binOp .lss t' x y tb, t, p, af, gd⟩ (.one (.d (.bool (decide (m < n))))) :=
  ope_lss rfl hx hy
theorem e_le {kk : IntKind} {m n : Int} {tb : Nat} (hx : s.ev x = .one (.d (.int kk m))) (hy : s.ev y = .one (.d (.int kk n))) : OpE k.P k.T k.N w0 s ⟨some d, .binOp .leq t' x y tb, t, p, af, gd⟩ (.one (.d (.bool (decide (m ≤ n))))) :=
  ope_leq rfl hx hy
theorem e_gt {kk : IntKind} {m n : Int} {tb : Nat} (hx : s.ev x = .one (.d (.int kk m))) (hy : s.ev y = .one (.d (.int kk n))) : OpE k.P k.T k.N w0 s ⟨some d, .binOp .gtr t' x y tb, t, p, af, gd⟩ (.one (.d (.bool (decide (n < m))))) :=
  ope_gtr rfl hx hy
theorem e_ge {kk : IntKind} {m n : Int} {tb : Nat} (hx : s.ev x = .one (.d (.int kk m))) (hy : s.ev y = .one (.d (.int kk n))) : OpE k.P k.T k.N w0 s ⟨some d, .binOp .geq t' x y tb, t, p, af, gd⟩ (.one (.d (.bool (decide (n ≤ m))))) :=
  ope_geq rfl hx hy
end
end Go.Proofs.Ytbnmcdnkeipdhaa
