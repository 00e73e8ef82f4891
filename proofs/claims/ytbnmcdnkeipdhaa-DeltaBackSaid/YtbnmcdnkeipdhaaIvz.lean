/- Conversions, shifts, make, copy. -/
import Derived.Test.YtbnmcdnkeipdhaaIvy
import Derived.Laws.MakeOwn
import Derived.Laws.IdiomCopy
import Derived.Laws.CopyRow
set_option linter.all false
namespace Go.Proofs.Ytbnmcdnkeipdhaa
open Go.RowKit Go.Shelf
def convB (P : Program) (src dst : TypeId) (k : IntKind) : Bool := match P.underlying src, P.underlying dst with
  | some (.int _), some (.int k') => k' == k
  | _, _ => false
section
variable {P : Program} {T : TypeId} {N : Nat} {w0 : Org} {s : St} {o : Oper} {τ : List TyI}
theorem ope_conv (k2 : IntKind) {src dst : TypeId} {x : Operand} {k : IntKind} {n r : Int} (ho : o.op = .convert src dst x) (hk : convB P src dst k2 = true) (hx : s.ev x = .one (.d (.int k n))) (hr : k2.wrap n = r) : OpE P T N w0 s o (.one (.d (.int k2 r))) :=
  ope_val fun g a w hs => by
    have q := hs.ev x; rw [hx] at q
    refine ⟨.int k2 r, ?_, .one (.d (.int _ _ (by rw [← hr]; exact wrap_wf _ _)))⟩
    unfold convB at hk
    split at hk
    · rename_i k3 k4 h1 h2
      have e : k4 = k2 := by simpa using hk
      subst e
      simp [execOp, ho, q.int_inv.1, convert, run_underlying h1, run_underlying h2, Conv.intToInt, hr]
    · cases hk
theorem shr_wf (k : IntKind) (m : Int) (c : Nat) (hm : (Lit.int k m).wf = true) : (Lit.int k (m.fdiv (2 ^ c))).wf = true := by
  have hp : (0 : Int) < 2 ^ c := Int.pow_pos (by omega)
  rw [Int.fdiv_eq_ediv_of_nonneg _ (by omega)]
  have e := Int.mul_ediv_add_emod m (2 ^ c)
  have e1 := Int.emod_nonneg m (show (2 : Int) ^ c ≠ 0 by omega)
  have e2 := Int.emod_lt_of_pos m hp
  have h : (0 ≤ m → 0 ≤ m / 2 ^ c ∧ m / 2 ^ c ≤ m) ∧ (m < 0 → m ≤ m / 2 ^ c ∧ m / 2 ^ c ≤ 0) := by
    generalize m / 2 ^ c = q at *
    generalize (2 : Int) ^ c = d at *
    refine ⟨fun h => ⟨?_, ?_⟩, fun h => ⟨?_, ?_⟩⟩
    · by_cases hq : 0 ≤ q
      · exact hq
      · have : d * q ≤ d * (-1) := Int.mul_le_mul_of_nonneg_left (by omega) (by omega)
        omega
    · by_cases hq : 0 ≤ q
      · have : 1 * q ≤ d * q := Int.mul_le_mul_of_nonneg_right (by omega) hq
        omega
      · omega
    · by_cases hq : 0 ≤ q
      · omega
      · have : d * q ≤ 1 * q := Int.mul_le_mul_of_nonpos_right (by omega) (by omega)
        by_cases hq2 : m ≤ q
        · exact hq2
        · have h3 : d * q ≤ q - (d - 1) := by
            have : (d - 1) * q ≤ (d - 1) * (-1) := Int.mul_le_mul_of_nonneg_left (by omega) (by omega)
            have e3 : (d - 1) * q = d * q - q := by rw [Int.sub_mul, Int.one_mul]
            omega
          omega
    · by_cases hq : q ≤ 0
      · exact hq
      · have : d * 1 ≤ d * q := Int.mul_le_mul_of_nonneg_left (by omega) (by omega)
        omega
  generalize m / 2 ^ c = q at *
  cases k <;> simp [Lit.wf, IntKind.min, IntKind.max, IntKind.bits, IntKind.signed] at hm ⊢ <;> omega
theorem ope_shr {t t' : TypeId} {x y : Operand} {k k' : IntKind} {m n r : Int} (ho : o.op = .binOp .shr t x y t') (hx : s.ev x = .one (.d (.int k m))) (hy : s.ev y = .one (.d (.int k' n))) (hn : 0 ≤ n) (hr : m.fdiv (2 ^ (min n.toNat k.bits)) = r) : OpE P T N w0 s o (.one (.d (.int k r))) :=
  ope_val fun g a w hs => ⟨.int k r, by
    have h1 := hs.ev x; rw [hx] at h1
    have h2 := hs.ev y; rw [hy] at h2
    have e : (eqGuard .shr t x y (.int k m) (.int k' n)).run P w = .ok () w := by unfold eqGuard; rfl
    simp [execOp, ho, h1.int_inv.1, h2.int_inv.1, e, binOp, Op.shift, show ¬ n < 0 by omega, hr], .one (.d (.int _ _ (by
    have h1 := hs.ev x; rw [hx] at h1
    rw [← hr]; exact shr_wf _ _ _ h1.int_inv.2)))⟩
theorem ope_shl {t t' : TypeId} {x y : Operand} {k k' : IntKind} {m n r : Int} (ho : o.op = .binOp .shl t x y t') (hx : s.ev x = .one (.d (.int k m))) (hy : s.ev y = .one (.d (.int k' n))) (hn : 0 ≤ n) (hr : k.wrap (m * 2 ^ (min n.toNat k.bits)) = r) : OpE P T N w0 s o (.one (.d (.int k r))) :=
  ope_val fun g a w hs => ⟨.int k r, by
    have h1 := hs.ev x; rw [hx] at h1
    have h2 := hs.ev y; rw [hy] at h2
    have e : (eqGuard .shl t x y (.int k m) (.int k' n)).run P w = .ok () w := by unfold eqGuard; rfl
    simp [execOp, ho, h1.int_inv.1, h2.int_inv.1, e, binOp, Op.shift, show ¬ n < 0 by omega, hr], .one (.d (.int _ _ (by rw [← hr]; exact wrap_wf _ _)))⟩
/-- make. -/
theorem opr_make (hτ : tabB P 0 τ = true) {t d e sz by_ : Nat} {zs : List Z} {zr : List Cell} {x y : Operand} {k1 k2 : IntKind} {l c : Int} (ho : o.op = .makeSlice t x y) (hd : o.dst = some d) (hN : d < N) (ht : tyAt τ t = .sl e sz by_) (hz : (tyAt τ e).zs = some zs) (hzl : zs.length = sz) (h0 : 0 < sz)
    (hfl : unDL (zs.map Z.cv) = some zr) (hx : s.ev x = .one (.d (.int k1 l))) (hy : s.ev y = .one (.d (.int k2 c))) (hl : 0 ≤ l) (hlc : l ≤ c) (hb0 : 0 < by_) (hb : c * by_ ≤ 140737488355328) (hfr : s.fresh d = true) :
    OpR P T N w0 s o (fun s' => s' = (s.hput d (.arr e sz (List.replicate l.toNat zr))).put d (.one (.sl d l.toNat sz))) := by
  intro g a w hs K Q hK
  obtain ⟨f1, f2, _⟩ := St.fresh_spec hfr
  obtain ⟨hu, inf, hi, hsz⟩ := sliceT_spec (tab_sl hτ ht)
  have hby : inf.bytes = by_ := by
    have := tab_by hτ ht
    unfold bytesB at this
    rw [hi] at this
    exact Nat.eq_of_beq_eq_true this
  obtain ⟨i, z, hi2, hz1, hz2, hz3⟩ := zeroB_spec (tab_zs hτ hz)
  obtain rfl : i = inf := by rw [hi] at hi2; injection hi2 with h; exact h.symm
  obtain ⟨u1, u2⟩ := unDL_get hfl
  have hzs : z.cells.size = sz := by rw [hz2]; simp [hzl]
  have hzr : zr.length = sz := by have := u1; simp at this; omega
  have h1 := hs.ev x; rw [hx] at h1
  have h2 := hs.ev y; rw [hy] at h2
  have hcb : c * 1 ≤ c * by_ := Int.mul_le_mul_of_nonneg_left (by omega) (by omega)
  have hbu := run_make (P := P) (w := w) t e i z hu hi hz1 k1 k2 l c hl hlc (by rw [hby, Int.mul_comm]; omega) (by omega)
  rw [hsz] at hbu
  have hrun : (execOp a.eval o).run P w = .ok (.value (.slice (some ⟨w.heap.size, 0, none⟩) l.toNat c.toNat)) (w.alloc (.cells (madeCells z.cells (c.toNat * sz)) e)) := by
    simp only [execOp, ho, h1.int_inv.1, h2.int_inv.1, Sem.run_bind, hbu, Result.andThen_ok, Sem.run_pure]
  have hlc' : l.toNat ≤ c.toNat := by omega
  have hk := hs.newG (d := d) f1 f2 (r0 := none) (ob := none) (nb := some w.heap.size) (k := c.toNat) (w' := w.alloc (.cells (madeCells z.cells (c.toNat * sz)) e)) (vh := .arr e sz (List.replicate l.toNat zr)) (fun b hb => (by cases hb)) (World.grownBy_alloc w _ none) (fun b hb => (by simp at hb; subst hb; exact ⟨.inr (Nat.le_refl _), by simp⟩)) rfl (fun hf => by
    refine ⟨fun row hrow => by rw [(List.mem_replicate.1 hrow).2]; exact hzr, .inr ⟨w.heap.size, _, by simp [Gh.new, updO], Blk.new _ _ _, by simp [Gh.new, updN, madeCells], by simp [Gh.new, updN]; omega, by simp [Gh.new, updN]; unfold maxLen; omega, fun i' j row x hi' hj => ?_⟩⟩
    have hlt := (List.getElem?_eq_some_iff.1 hi').1
    simp at hlt
    rw [List.getElem?_replicate, if_pos (by omega)] at hi'
    injection hi' with hi'
    subst hi'
    have hjl := (List.getElem?_eq_some_iff.1 hj).1
    have : (i' + 1) * sz ≤ c.toNat * sz := Nat.mul_le_mul_right _ (by omega)
    rw [Nat.add_mul] at this
    have hjz : j < z.cells.size := by omega
    have e1 : (madeCells z.cells (c.toNat * sz))[i' * sz + j]? = some z.cells[j] := by
      unfold madeCells
      rw [Array.getElem?_map, Array.getElem?_range, if_pos (by omega)]
      have : (i' * sz + j) % z.cells.size = j := by rw [hzs]; exact (divmod (by omega)).2
      simp [this, hjz]
    have hcv : (zs.map Z.cv)[j]? = some ((zs.map Z.cv)[j]'(by omega)) := List.getElem?_eq_getElem _
    exact ⟨_, e1, (hz3 _ _ j _ _ (Array.getElem?_eq_getElem hjz) hcv).unD (u2 _ _ _ hcv hj)⟩)
  unfold Oper.wp
  rw [hrun]
  refine hK (g.new d (some w.heap.size) c.toNat) _ _ _ rfl ?_
  rw [hd]
  refine hk.put hN (.one ?_)
  have := RepCV.sl (P := P) (g := g.new d (some w.heap.size) c.toNat) (w := w.alloc (.cells (madeCells z.cells (c.toNat * sz)) e)) (r := d) (b := w.heap.size) l.toNat sz (by simp [Gh.new, updO]) (by simp [Gh.new, updN]; omega) (by simp [Gh.new, updN]; unfold maxLen; omega)
  simpa [Gh.new, updN] using this
end
/-- The rows behind a copy. -/
def splr (rows : List (List Cell)) (off : Nat) (q : List (List Cell)) : List (List Cell) := rows.take off ++ q ++ rows.drop (off + q.length)
theorem splr_get {rows : List (List Cell)} {off : Nat} {q : List (List Cell)} (h : off + q.length ≤ rows.length) (i : Nat) : (splr rows off q)[i]? = if off ≤ i ∧ i < off + q.length then q[i - off]? else rows[i]? := by
  unfold splr
  by_cases h1 : i < off
  · rw [if_neg (by omega), List.append_assoc, List.getElem?_append_left (by simp; omega), List.getElem?_take_of_lt h1]
  · by_cases h2 : i < off + q.length
    · rw [if_pos (by omega), List.append_assoc, List.getElem?_append_right (by simp; omega), List.getElem?_append_left (by simp; omega)]
      simp [show min off rows.length = off by omega]
    · rw [if_neg (by omega), List.getElem?_append_right (by simp; omega), List.getElem?_drop]
      congr 1
      simp
      omega
theorem splr_len {rows : List (List Cell)} {off : Nat} {q : List (List Cell)} (h : off + q.length ≤ rows.length) : (splr rows off q).length = rows.length := by unfold splr; simp; omega
section
variable {P : Program} {T : TypeId} {N : Nat} {w0 : Org} {g : Gh} {a : Act} {w : World} {s : St} {o : Oper} {τ : List TyI}
theorem Sim.same {r : Nat} {vh : VH} (hs : Sim P T N w0 g s a w) (hH : getH s.H r = vh) : Sim P T N w0 g (s.hput r vh) a w := by
  have hg : ∀ q, getH (s.hput r vh).H q = getH s.H q := fun q => by
    show getH ((r, vh) :: s.H) q = _
    simp only [getH, beq_eq]
    by_cases e : r = q
    · subst e; simp [hH]
    · simp [e]
  have hl : ∀ q, live (s.hput r vh).H q ↔ live s.H q := fun q => by unfold live; rw [hg]
  exact ⟨⟨fun r r' b h1 h2 => hs.gi.inj r r' b ((hl _).1 h1) ((hl _).1 h2), fun r b h1 => hs.gi.bd r b ((hl _).1 h1), fun b o h => ⟨(hs.gi.rd b o h).1, (hs.gi.rd b o h).2.1, fun r h1 => (hs.gi.rd b o h).2.2 r ((hl _).1 h1)⟩, hs.gi.keep, hs.gi.tape, hs.gi.org⟩, hs.dn, hs.nt, hs.hF, fun q => by rw [hg]; exact hs.hH q⟩
theorem run_copy_g (w w' : World) (dT sT ty elem : TypeId) (i : TypeInfo) (hu : P.underlying dT = some (.slice elem)) (hi : P.info? elem = some i) (B A : Option Addr) (dLen dCap sLen sCap : Nat) (cs : List Value) (hcs : cs.length = Nat.min sLen dLen * i.size)
    (hsrc : Cells (fun _ => False) w A cs) (hst : match B with | some b => (storeCells b cs).run P w = .ok () w' | none => cs = [] ∧ w' = w) :
    (Builtin.copy_ #[dT, sT] ty #[.slice B dLen dCap, .slice A sLen sCap]).run P w = .ok (goInt (Nat.min sLen dLen)) w' := by
  have hf : (Builtin.firstCells i.size (Nat.min sLen dLen) (.slice A sLen sCap)).run P w = .ok cs.toArray w := by
    cases A with
    | none =>
      have : cs = [] := by
        cases cs with
        | nil => rfl
        | cons u cs => obtain ⟨ad, h, _⟩ := hsrc 0 u rfl; cases h
      subst this
      rfl
    | some ad =>
      have := run_loadCells_list (P := P) w ad cs (fun j v h => by
        obtain ⟨ad', h1, _, h2⟩ := hsrc j v h
        injection h1 with h1; subst h1; exact h2)
      simp only [Builtin.firstCells]
      rw [← hcs]
      exact this
  cases B with
  | none =>
    obtain ⟨h1, h2⟩ := hst
    subst h2
    simp [Builtin.copy_, run_underlying hu, Builtin.lenOf, sizeOf, typeInfo, hi, hf]
  | some b =>
    simp [Builtin.copy_, run_underlying hu, Builtin.lenOf, sizeOf, typeInfo, hi, hf, hst]
theorem copy_core (hτ : tabB P 0 τ = true) {d e sz by_ t t2 r off n : Nat} {x y : Operand} {rows rows' : List (List Cell)} (ho : o.op = .call { callee := .builtin .copy, args := #[x, y], argTypes := #[t, t2] }) (hd : o.dst = some d) (hN : d < N) (ht : tyAt τ t = .sl e sz by_)
    (h0 : 0 < sz) (hH : getH s.H r = .arr e sz rows) (hle : off + n ≤ rows.length)
    (hdst : ∀ g a w, Sim P T N w0 g s a w → (∃ b c, g.β r = some b ∧ a.eval x = .slice (some ⟨b, off * sz, none⟩) n c) ∨ (n = 0 ∧ ∃ A c, a.eval x = .slice A 0 c))
    (hsrc : ∀ g a w, Sim P T N w0 g s a w → ∃ (A : Option Addr) (c : Nat) (news : List Value), a.eval y = .slice A rows'.length c ∧ Cells (fun _ => False) w A news ∧ news.length = rows'.length * sz ∧ (∀ u ∈ news, u.oneCell' = true) ∧
      (∀ (i j : Nat) (row : List Cell) (x : Cell), rows'[i]? = some row → row[j]? = some x → j < sz ∧ ∃ u, news[i * sz + j]? = some u ∧ RepCell g.Rd w u x) ∧ rows'.length ≤ maxLen ∧ ∀ row ∈ rows', row.length = sz) :
    OpR P T N w0 s o (fun s' => s' = (s.hput r (.arr e sz (splr rows off (rows'.take n)))).put d (.one (.d (.int .i64 ((min rows'.length n : Nat) : Int))))) := by
  intro g a w hs K Q hK
  obtain ⟨hu, inf, hi, hsz⟩ := sliceT_spec (tab_sl hτ ht)
  obtain ⟨A, c, news, ey, hC, hnl, hn1, hnr, hml, hrl⟩ := hsrc g a w hs
  have hmin : (rows'.take n).length = min rows'.length n := by simp [Nat.min_comm]
  have hrep : ∀ (w : World), RepSV P g w (goInt (Nat.min rows'.length n)) (.one (.d (.int .i64 ((min rows'.length n : Nat) : Int)))) := fun w => .one (.d (.int .i64 _ (by
    have h3 : min rows'.length n ≤ maxLen := by omega
    have h4 : ((min rows'.length n : Nat) : Int) ≤ 9223372036854775807 := by unfold maxLen at h3; omega
    show (Lit.int .i64 ((min rows'.length n : Nat) : Int)).wf = true
    generalize min rows'.length n = q at h4 ⊢
    simp [Lit.wf, IntKind.min, IntKind.max, IntKind.bits, IntKind.signed]; omega)))
  obtain ⟨cs, hcs⟩ : ∃ cs, news.take (min rows'.length n * sz) = cs := ⟨_, rfl⟩
  have hmle : min rows'.length n * sz ≤ rows'.length * sz := Nat.mul_le_mul_right _ (by omega)
  have hcl : cs.length = Nat.min rows'.length n * inf.size := by
    rw [← hcs, hsz, List.length_take, hnl]
    exact Nat.min_eq_left hmle
  have hcl2 : cs.length = min rows'.length n * sz := hcl.trans (by rw [hsz])
  have hcget : ∀ k, cs[k]? = if k < min rows'.length n * sz then news[k]? else none := fun k => by rw [← hcs, List.getElem?_take]
  have hCc : Cells (fun _ => False) w A cs := fun k u h => by
    rw [hcget] at h
    split at h
    · exact hC k u h
    · cases h
  have hc1 : ∀ u ∈ cs, u.oneCell' = true := fun u h => hn1 u (by rw [← hcs] at h; exact List.mem_of_mem_take h)
  have hsame : min rows'.length n = 0 → splr rows off (rows'.take n) = rows := fun h => by
    have : rows'.take n = [] := List.eq_nil_of_length_eq_zero (by rw [hmin]; exact h)
    rw [this]; simp [splr]
  have nothing : ∀ (B : Option Addr) (n' c' : Nat), a.eval x = .slice B n' c' → n' = n → min rows'.length n = 0 → Oper.wp P o a w K Q := fun B n' c' hB hn' hz => by
    have hce : cs = [] := List.eq_nil_of_length_eq_zero (by rw [hcl2, hz]; simp)
    have hrun0 := run_copy_g (P := P) w w t t2 o.type e inf hu hi B A n' c' rows'.length c cs (by rw [hcl, hn']) hCc (by cases B with
      | none => exact ⟨hce, rfl⟩
      | some b => rw [hce]; rfl)
    have hrun : (execOp a.eval o).run P w = .ok (.value (goInt (Nat.min rows'.length n'))) w := by
      simp [execOp, ho, resolve, invoke, builtin, hB, ey, hrun0, Result.andThen]
    unfold Oper.wp
    rw [hrun]
    refine hK g _ _ _ rfl ?_
    rw [hd, hn']
    rw [hsame hz]
    exact Sim.put (hs.same (r := r) hH) hN (hrep w)
  rcases hdst g a w hs with ⟨b, c', hb, ex⟩ | ⟨hn0, B, c', ex⟩
  · by_cases hz : min rows'.length n = 0
    · exact nothing _ _ _ ex rfl hz
    · have hh := hs.hH r; rw [hH] at hh
      obtain ⟨g0, hh⟩ := hh
      rcases hh with ⟨g1, _⟩ | ⟨b2, vals, hb2, hbl, g2, g3, g4, g5⟩
      · rw [hb] at g1; cases g1
      obtain rfl : b = b2 := by rw [hb] at hb2; injection hb2
      have hfit : off * sz + cs.length ≤ vals.size := by
        rw [hcl2, g2, ← Nat.add_mul]
        exact Nat.mul_le_mul_right _ (by omega)
      have hst := run_storeCells_at P b (off * sz) e cs 0 vals w hbl (by simpa using hfit) hc1
      obtain ⟨V, hV⟩ : ∃ V, (vals.toList.take (off * sz) ++ cs ++ vals.toList.drop (off * sz + cs.length)).toArray = V := ⟨_, rfl⟩
      have hVs : V.size = vals.size := by rw [← hV]; simp; omega
      have hVg : ∀ k : Nat, V[k]? = if off * sz ≤ k ∧ k < off * sz + cs.length then cs[k - off * sz]? else vals[k]? := fun k => by
        rw [← hV, List.getElem?_toArray, seg_get _ _ _ (by simpa using hfit)]
        simp
      simp only [Nat.add_zero] at hst
      rw [hV] at hst
      have hrun0 := run_copy_g (P := P) w (w.setRow b V) t t2 o.type e inf hu hi (some ⟨b, off * sz, none⟩) A n c' rows'.length c cs hcl hCc hst
      have hrun : (execOp a.eval o).run P w = .ok (.value (goInt (Nat.min rows'.length n))) (w.setRow b V) := by
        simp [execOp, ho, resolve, invoke, builtin, ex, ey, hrun0, Result.andThen]
      have h2 := hs.change (r := r) (b := b) (vals := V) (vh := .arr e sz (splr rows off (rows'.take n))) (by unfold live; rw [hH]; rfl) hb hbl rfl (fun hf => by
        refine ⟨fun row hr => ?_, .inr ⟨b, _, hb, setRow_heap w b vals _ _ _ hbl, hVs.trans g2, by rw [splr_len (by omega)]; exact g3, g4, fun i j row x hi' hj => ?_⟩⟩
        · unfold splr at hr
          rcases List.mem_append.1 hr with hr | hr
          · rcases List.mem_append.1 hr with hr | hr
            · exact g0 _ (List.mem_of_mem_take hr)
            · exact hrl _ (List.mem_of_mem_take hr)
          · exact g0 _ (List.mem_of_mem_drop hr)
        · rw [splr_get (by omega)] at hi'
          rw [hVg]
          have m1 : ∀ {p q : Nat}, p < q → p * sz + sz ≤ q * sz := fun {p q} h => by
            have : (p + 1) * sz ≤ q * sz := Nat.mul_le_mul_right _ h
            rw [Nat.add_mul] at this; omega
          have eo : (off + min rows'.length n) * sz = off * sz + min rows'.length n * sz := Nat.add_mul _ _ _
          by_cases hin : off ≤ i ∧ i < off + (rows'.take n).length
          · rw [if_pos hin] at hi'
            rw [hmin] at hin
            have hi2 : rows'[i - off]? = some row := by
              rw [List.getElem?_take] at hi'
              split at hi'
              · exact hi'
              · cases hi'
            obtain ⟨hjs, u, hu', hr'⟩ := hnr _ j row x hi2 hj
            have e1 : off * sz + (i - off) * sz = i * sz := by rw [← Nat.add_mul]; congr 1; omega
            have l1 := m1 (p := i - off) (q := min rows'.length n) (by omega)
            rw [if_pos (by rw [hcl2]; omega)]
            refine ⟨u, ?_, hr'.mono hf.rd hf.cell⟩
            rw [hcget, if_pos (by omega)]
            rw [← hu']
            congr 1
            omega
          · rw [if_neg hin] at hi'
            rw [hmin] at hin
            obtain ⟨u, hu', hr'⟩ := g5 i j row x hi' hj
            have hjs : j < sz := by have := g0 _ (List.mem_of_getElem? hi'); have := (List.getElem?_eq_some_iff.1 hj).1; omega
            refine ⟨u, ?_, hr'.mono hf.rd hf.cell⟩
            rw [if_neg ?_]
            · exact hu'
            · rw [hcl2]
              by_cases hlo : i < off
              · have := m1 hlo; omega
              · have : (off + min rows'.length n) * sz ≤ i * sz := Nat.mul_le_mul_right _ (by omega)
                omega)
      unfold Oper.wp
      rw [hrun]
      refine hK g _ _ _ rfl ?_
      rw [hd]
      exact h2.put hN (hrep _)
  · exact nothing _ _ _ ex hn0.symm (by omega)
end
/-- Where is copied to. -/
inductive Dst (sz : Nat) : SV → Nat → Nat → Nat → Prop where
  | sl (r n : Nat) : Dst sz (.one (.sl r n sz)) r 0 n
  | slp (r off n : Nat) : Dst sz (.one (.slp r off n sz)) r off n
/-- What is copied. -/
inductive Srp (s : St) (sz : Nat) : SV → List (List Cell) → Prop where
  | d (rows : List (List Cell)) (h : ∀ row ∈ rows, row.length = sz) : Srp s sz (.one (.d (.list rows))) rows
  | sl {r n : Nat} {e : TypeId} {rows : List (List Cell)} (h : getH s.H r = .arr e sz rows) (hn : n = rows.length) : Srp s sz (.one (.sl r n sz)) rows
  | slp {r off n : Nat} {e : TypeId} {rows : List (List Cell)} (h : getH s.H r = .arr e sz rows) (hle : off + n ≤ rows.length) : Srp s sz (.one (.slp r off n sz)) ((rows.drop off).take n)
  | nil : Srp s sz (.one .nil) []
section
variable {P : Program} {T : TypeId} {N : Nat} {w0 : Org} {g : Gh} {a : Act} {w : World} {s : St} {o : Oper} {τ : List TyI}
theorem Srp.vals {sz : Nat} {sv : SV} {rows : List (List Cell)} (h : Srp s sz sv rows) (hz : 0 < sz) (hs : Sim P T N w0 g s a w) {v : Value} (hv : RepSV P g w v sv) :
    ∃ (A : Option Addr) (c : Nat) (news : List Value), v = .slice A rows.length c ∧ Cells (fun _ => False) w A news ∧ news.length = rows.length * sz ∧ (∀ u ∈ news, u.oneCell' = true) ∧
      (∀ (i j : Nat) (row : List Cell) (x : Cell), rows[i]? = some row → row[j]? = some x → j < sz ∧ ∃ u, news[i * sz + j]? = some u ∧ RepCell g.Rd w u x) ∧ rows.length ≤ maxLen ∧ ∀ row ∈ rows, row.length = sz := by
  cases h with
  | nil =>
    obtain ⟨A, c, news, h1, h2, h3, h4, h5⟩ := Src.vals (s := s) Src.nil hz hs hv
    exact ⟨A, c, news, h1, h2, h3, h4, h5, by simp, by simp⟩
  | d rows h =>
    obtain ⟨A, c, news, h1, h2, h3, h4, h5⟩ := Src.vals (s := s) (Src.d rows h) hz hs hv
    obtain ⟨A', cap, sz', vals, e, q0, q1, q2, _⟩ := hv.list_inv.list_inv
    exact ⟨A, c, news, h1, h2, h3, h4, h5, by omega, h⟩
  | @sl r n e rows h hn =>
    subst hn
    obtain ⟨A, c, news, h1, h2, h3, h4, h5⟩ := Src.vals (s := s) (Src.sl h) hz hs hv
    have hh := hs.hH r; rw [h] at hh
    refine ⟨A, c, news, h1, h2, h3, h4, h5, ?_, hh.1⟩
    rcases arr_vals hs h hv.one_inv with ⟨_, rfl, _⟩ | ⟨b, vals, _, _, _, _, q2, q3, _⟩
    · simp
    · omega
  | @slp r off n e rows h hle =>
    have hh := hs.hH r; rw [h] at hh
    obtain ⟨g0, hh⟩ := hh
    have hlen : ((rows.drop off).take n).length = n := by simp; omega
    have hrows : ∀ row ∈ (rows.drop off).take n, row.length = sz := fun row hr => g0 _ (List.mem_of_mem_drop (List.mem_of_mem_take hr))
    have empty : n = 0 → ∀ A c, v = .slice A n c → ∃ (A : Option Addr) (c : Nat) (news : List Value), v = .slice A ((rows.drop off).take n).length c ∧ Cells (fun _ => False) w A news ∧ news.length = ((rows.drop off).take n).length * sz ∧ (∀ u ∈ news, u.oneCell' = true) ∧
      (∀ (i j : Nat) (row : List Cell) (x : Cell), ((rows.drop off).take n)[i]? = some row → row[j]? = some x → j < sz ∧ ∃ u, news[i * sz + j]? = some u ∧ RepCell g.Rd w u x) ∧ ((rows.drop off).take n).length ≤ maxLen ∧ ∀ row ∈ (rows.drop off).take n, row.length = sz := fun hn A c hv => by
      subst hn
      exact ⟨A, c, [], by simpa using hv, Cells.nil _ _ _, by simp, by simp, by simp, by simp, by simp⟩
    have hv1 := hv.one_inv
    cases hv1 with
    | slpv => exact empty rfl _ _ rfl
    | @slp r b off n sz o c hb ho =>
      by_cases hn : n = 0
      · exact empty hn _ _ rfl
      have ho : o = off * sz := by omega
      subst ho
      rcases hh with ⟨g1, _⟩ | ⟨b2, vals, hb2, hbl, g2, g3, g4, g5⟩
      · rw [hb] at g1; cases g1
      obtain rfl : b = b2 := by rw [hb] at hb2; injection hb2
      have hsz : off * sz + n * sz ≤ vals.size := by
        rw [g2, ← Nat.add_mul]; exact Nat.mul_le_mul_right _ (by omega)
      have hnews : ∀ k, k < n * sz → ((vals.toList.drop (off * sz)).take (n * sz))[k]? = vals[off * sz + k]? := fun k hk => by
        rw [List.getElem?_take_of_lt hk, List.getElem?_drop]; simp
      have hnl : ((vals.toList.drop (off * sz)).take (n * sz)).length = n * sz := by simp; omega
      refine ⟨some ⟨b, off * sz, none⟩, c, (vals.toList.drop (off * sz)).take (n * sz), by rw [hlen], fun k u hu => ?_, by rw [hlen, hnl], fun u hu => ?_, fun i j row x hi hj => ?_, by omega, hrows⟩
      · have hk : k < n * sz := by have := (List.getElem?_eq_some_iff.1 hu).1; omega
        rw [hnews k hk] at hu
        refine ⟨⟨b, off * sz, none⟩, rfl, fun h => h, ?_⟩
        rw [Addr.add_lit, hbl.cell]
        exact hu
      · obtain ⟨k, hk⟩ := List.getElem?_of_mem hu
        have hkl : k < n * sz := by have := (List.getElem?_eq_some_iff.1 hk).1; omega
        rw [hnews k hkl] at hk
        have l1 : k / sz < n := (Nat.div_lt_iff_lt_mul hz).2 hkl
        have l2 : k % sz < sz := Nat.mod_lt _ hz
        have hl : off + k / sz < rows.length := by omega
        have e1 := g0 _ (List.getElem_mem hl)
        obtain ⟨u', hu', hr⟩ := g5 (off + k / sz) (k % sz) _ _ (List.getElem?_eq_getElem hl) (List.getElem?_eq_getElem (by omega))
        rw [show (off + k / sz) * sz + k % sz = off * sz + k by rw [Nat.add_mul, Nat.add_assoc]; congr 1; rw [Nat.mul_comm]; exact Nat.div_add_mod k sz] at hu'
        have : u = u' := by rw [hk] at hu'; injection hu'
        rw [this]
        exact hr.one
      · have hi2 : i < n ∧ rows[off + i]? = some row := by
          rw [List.getElem?_take] at hi
          split at hi
          · rw [List.getElem?_drop] at hi; exact ⟨by assumption, hi⟩
          · cases hi
        have e1 := g0 _ (List.mem_of_getElem? hi2.2)
        have hjl := (List.getElem?_eq_some_iff.1 hj).1
        have hk : i * sz + j < n * sz := by
          have : (i + 1) * sz ≤ n * sz := Nat.mul_le_mul_right _ hi2.1
          rw [Nat.add_mul] at this
          omega
        obtain ⟨u', hu', hr⟩ := g5 (off + i) j row x hi2.2 hj
        refine ⟨by omega, u', ?_, hr⟩
        rw [hnews _ hk, ← hu', Nat.add_mul]
        congr 1
        omega
theorem opr_copy (hτ : tabB P 0 τ = true) {d e sz by_ t t2 r off n : Nat} {x y : Operand} {rows rows' : List (List Cell)} (ho : o.op = .call { callee := .builtin .copy, args := #[x, y], argTypes := #[t, t2] }) (hd : o.dst = some d) (hN : d < N) (ht : tyAt τ t = .sl e sz by_)
    (h0 : 0 < sz) (hx : Dst sz (s.ev x) r off n) (hH : getH s.H r = .arr e sz rows) (hy : Srp s sz (s.ev y) rows') (hle : off + n ≤ rows.length) :
    OpR P T N w0 s o (fun s' => s' = (s.hput r (.arr e sz (splr rows off (rows'.take n)))).put d (.one (.d (.int .i64 ((min rows'.length n : Nat) : Int))))) := by
  refine copy_core hτ ho hd hN ht h0 hH hle (fun g a w hs => ?_) fun g a w hs => hy.vals h0 hs (hs.ev y)
  have hv := hs.ev x
  generalize hsv : s.ev x = sv at hx hv
  cases hx with
  | sl r n =>
    rcases hv.one_inv.sl_inv with ⟨e1, e2, e3⟩ | ⟨b, hb, h1, h2, e1⟩
    · exact .inr ⟨e2, none, 0, by rw [e1]⟩
    · exact .inl ⟨b, g.κ r, hb, by rw [e1]; simp⟩
  | slp r off n =>
    have hv1 := hv.one_inv
    generalize a.eval x = v at hv1
    cases hv1 with
    | slpv => exact .inr ⟨rfl, _, _, rfl⟩
    | @slp r b off n sz o c hb ho =>
      by_cases hn : n = 0
      · subst hn; exact .inr ⟨rfl, _, _, rfl⟩
      · have ho : o = off * sz := by omega
        subst ho
        exact .inl ⟨b, c, hb, rfl⟩
theorem ope_sl_l {t r n e sz : Nat} {x y : Operand} {k1 : IntKind} {m : Int} (ho : o.op = .slice t x (some y) none none) (hx : s.ev x = .one (.sl r n sz)) (hy : s.ev y = .one (.d (.int k1 m))) (ht : sliceT P t e sz = true) (h0 : 0 ≤ m) (h2 : m ≤ (n : Int)) : OpE P T N w0 s o (.one (.slp r m.toNat (n - m.toNat) sz)) :=
  ope_val fun g a w hs => by
    have q1 := hs.ev x; rw [hx] at q1
    have q2 := hs.ev y; rw [hy] at q2
    obtain ⟨hu, inf, hi, hsz⟩ := sliceT_spec ht
    have he : P.elem t = e := by simp [Program.elem, hu]
    have run : ∀ A c, a.eval x = .slice A n c → (execOp a.eval o).run P w = .ok (.value (Go.sliced A m.toNat n c sz)) w := fun A c hv => by
      have := run_slice_l (P := P) w t A n c (by rw [he]; exact hu) k1 m h0 h2
      simp [execOp, ho, hv, q2.int_inv.1, run_sliceAt_slice w t _ _ _ _ (by rw [he]; exact hu), this, he, sizeOf, typeInfo, hi, hsz, Result.andThen]
    rcases q1.one_inv.sl_inv with ⟨e1, e2, e3⟩ | ⟨b, hb, h1, h3, e1⟩
    · subst e2
      refine ⟨_, run none 0 e1, .one ?_⟩
      have : m.toNat = 0 := by omega
      rw [this]
      exact .slpv 0 sz
    · refine ⟨_, run _ _ e1, .one ?_⟩
      unfold Go.sliced
      by_cases hm : g.κ r = m.toNat
      · rw [if_pos hm]
        exact .slp _ _ _ _ _ hb (.inl (by omega))
      · rw [if_neg hm]
        show RepCV P g w (.slice (some ((⟨b, 0, none⟩ : Addr).add (m.toNat * sz))) _ _) _
        rw [Addr.add_lit]
        exact .slp _ _ _ _ _ hb (.inr (by omega))
theorem ope_sl_h {t r n e sz : Nat} {x z : Operand} {k1 : IntKind} {m : Int} (ho : o.op = .slice t x none (some z) none) (hx : s.ev x = .one (.sl r n sz)) (hz : s.ev z = .one (.d (.int k1 m))) (ht : sliceT P t e sz = true) (h0 : 0 ≤ m) (h2 : m ≤ (n : Int)) : OpE P T N w0 s o (.one (.slp r 0 m.toNat sz)) :=
  ope_val fun g a w hs => by
    have q1 := hs.ev x; rw [hx] at q1
    have q2 := hs.ev z; rw [hz] at q2
    obtain ⟨hu, inf, hi, hsz⟩ := sliceT_spec ht
    have he : P.elem t = e := by simp [Program.elem, hu]
    have run : ∀ A c, a.eval x = .slice A n c → m ≤ (c : Int) → (execOp a.eval o).run P w = .ok (.value (Go.sliced A 0 m.toNat c sz)) w := fun A c hv hc => by
      have := run_slice_h (P := P) w t A n c (by rw [he]; exact hu) k1 m h0 hc
      simp [execOp, ho, hv, q2.int_inv.1, run_sliceAt_slice w t _ _ _ _ (by rw [he]; exact hu), this, he, sizeOf, typeInfo, hi, hsz, Result.andThen]
    rcases q1.one_inv.sl_inv with ⟨e1, e2, e3⟩ | ⟨b, hb, h1, h3, e1⟩
    · subst e2
      refine ⟨_, run none 0 e1 h2, .one ?_⟩
      have : m.toNat = 0 := by omega
      rw [this]
      exact .slpv 0 sz
    · refine ⟨_, run _ _ e1 (by omega), .one ?_⟩
      unfold Go.sliced
      by_cases hm : g.κ r = 0
      · rw [if_pos hm]
        exact .slp _ _ _ _ _ hb (.inl (by omega))
      · rw [if_neg hm]
        show RepCV P g w (.slice (some ((⟨b, 0, none⟩ : Addr).add (0 * sz))) _ _) _
        rw [Addr.add_lit]
        exact .slp _ _ _ _ _ hb (.inr (by omega))
end
/-- What is behind a copy of q to the place off. -/
def splT {α : Type} (xs : List α) (off : Nat) (q : List α) : List α := xs.take off ++ q ++ xs.drop (off + q.length)
theorem splT_map {α : Type} (f : α → List Cell) (xs : List α) (off : Nat) (q : List α) : splr (xs.map f) off (q.map f) = (splT xs off q).map f := by simp [splr, splT, List.map_take, List.map_drop]
theorem splT_len {α : Type} {xs : List α} {off : Nat} {q : List α} (h : off + q.length ≤ xs.length) : (splT xs off q).length = xs.length := by unfold splT; simp; omega
theorem wr_u64 {z : Int} (h : 0 ≤ z ∧ z ≤ 18446744073709551615) : IntKind.u64.wrap z = z := by simp [IntKind.wrap, IntKind.bits, IntKind.signed]; omega
theorem wr_u8 {z : Int} (h : 0 ≤ z ∧ z ≤ 255) : IntKind.u8.wrap z = z := by simp [IntKind.wrap, IntKind.bits, IntKind.signed]; omega
theorem wr_u32 {z : Int} (h : 0 ≤ z ∧ z ≤ 4294967295) : IntKind.u32.wrap z = z := by simp [IntKind.wrap, IntKind.bits, IntKind.signed]; omega
section
variable {k : Wk} {w0 : Org} {ops : Array Oper} {l : List Oper} {Q : St → Prop} {F : List (Nat × SV)} {H : List (Nat × VH)} {d t t' ty : Nat} {p : String} {af : Array Edge} {x y z : Operand} {s : St} {gd : Option (Nat × Bool)} {kk k1 : IntKind} {m n r : Int}
theorem f_conv (k2 : IntKind) (hk : convB k.P t t' k2 = true) (hx : s.ev x = .one (.d (.int kk m))) (hr : k2.wrap m = r) : OpE k.P k.T k.N w0 s ⟨some d, .convert t t' x, ty, p, af, gd⟩ (.one (.d (.int k2 r))) := ope_conv k2 rfl hk hx hr
theorem f_shr {tb : Nat} (hx : s.ev x = .one (.d (.int kk m))) (hy : s.ev y = .one (.d (.int k1 n))) (hn : 0 ≤ n) (hr : m.fdiv (2 ^ (min n.toNat kk.bits)) = r) : OpE k.P k.T k.N w0 s ⟨some d, .binOp .shr t x y tb, ty, p, af, gd⟩ (.one (.d (.int kk r))) := ope_shr rfl hx hy hn hr
theorem f_shl {tb : Nat} (hx : s.ev x = .one (.d (.int kk m))) (hy : s.ev y = .one (.d (.int k1 n))) (hn : 0 ≤ n) (hr : kk.wrap (m * 2 ^ (min n.toNat kk.bits)) = r) : OpE k.P k.T k.N w0 s ⟨some d, .binOp .shl t x y tb, ty, p, af, gd⟩ (.one (.d (.int kk r))) := ope_shl rfl hx hy hn hr
theorem v_conv (k2 : IntKind) (hN : Nat.blt d k.N = true) (hk : convB k.P t t' k2 = true) (hx : (St.mk F H).ev x = .one (.d (.int kk m))) (hr : k2.wrap m = r) (h : rg k w0 ops l Q ⟨(d, .one (.d (.int k2 r))) :: F, H⟩) : rg k w0 ops (⟨some d, .convert t t' x, ty, p, af, none⟩ :: l) Q ⟨F, H⟩ :=
  rgI (irg_e rfl rfl (nlt hN) (f_conv k2 hk hx hr) (rgO h))
theorem v_shr {tb : Nat} (hN : Nat.blt d k.N = true) (hx : (St.mk F H).ev x = .one (.d (.int kk m))) (hy : (St.mk F H).ev y = .one (.d (.int k1 n))) (hn : 0 ≤ n) (hr : m.fdiv (2 ^ (min n.toNat kk.bits)) = r) (h : rg k w0 ops l Q ⟨(d, .one (.d (.int kk r))) :: F, H⟩) : rg k w0 ops (⟨some d, .binOp .shr t x y tb, ty, p, af, none⟩ :: l) Q ⟨F, H⟩ :=
  rgI (irg_e rfl rfl (nlt hN) (f_shr hx hy hn hr) (rgO h))
theorem v_shl {tb : Nat} (hN : Nat.blt d k.N = true) (hx : (St.mk F H).ev x = .one (.d (.int kk m))) (hy : (St.mk F H).ev y = .one (.d (.int k1 n))) (hn : 0 ≤ n) (hr : kk.wrap (m * 2 ^ (min n.toNat kk.bits)) = r) (h : rg k w0 ops l Q ⟨(d, .one (.d (.int kk r))) :: F, H⟩) : rg k w0 ops (⟨some d, .binOp .shl t x y tb, ty, p, af, none⟩ :: l) Q ⟨F, H⟩ :=
  rgI (irg_e rfl rfl (nlt hN) (f_shl hx hy hn hr) (rgO h))
theorem v_make {α : Type} (f : α → List Cell) (a0 : α) {e sz by_ : Nat} {zs : List Z} {zr : List Cell} {k2 : IntKind} {c : Int} (hN : Nat.blt d k.N = true) (ht : tyAt k.τ t = .sl e sz by_) (hz : (tyAt k.τ e).zs = some zs) (hzl : zs.length = sz) (h0 : Nat.blt 0 sz = true) (hfl : unDL (zs.map Z.cv) = some zr) (hzr : zr = f a0) (hb0 : Nat.blt 0 by_ = true) (hb1 : Nat.ble by_ 100000 = true) (hfr : (St.mk F H).fresh d = true)
    (hx : (St.mk F H).ev x = .one (.d (.int k1 m))) (hy : (St.mk F H).ev y = .one (.d (.int k2 c))) (hc : 0 ≤ m ∧ m ≤ c ∧ c ≤ 1000000000)
    (h : rg k w0 ops l Q ⟨(d, .one (.sl d (List.replicate m.toNat a0).length sz)) :: F, (d, .arr e sz ((List.replicate m.toNat a0).map f)) :: H⟩) : rg k w0 ops (⟨some d, .makeSlice t x y, ty, p, af, none⟩ :: l) Q ⟨F, H⟩ :=
  rgI (irg_h rfl (opr_make k.ok rfl rfl (nlt hN) ht hz hzl (nlt h0) hfl hx hy hc.1 hc.2.1 (nlt hb0) (by
    have h1 : by_ ≤ 100000 := Nat.le_of_ble_eq_true hb1
    have h2 : c * (by_ : Int) ≤ 1000000000 * (by_ : Int) := Int.mul_le_mul_of_nonneg_right hc.2.2 (by omega)
    omega) hfr) (rgO (by rw [List.map_replicate, ← hzr, List.length_replicate] at h; exact h)))
theorem v_slsl {r n e sz by_ : Nat} (hN : Nat.blt d k.N = true) (hx : (St.mk F H).ev x = .one (.sl r n sz)) (hy : (St.mk F H).ev y = .one (.d (.int k1 m))) (ht : tyAt k.τ t = .sl e sz by_) (hc : 0 ≤ m ∧ m ≤ (n : Int)) (h : rg k w0 ops l Q ⟨(d, .one (.slp r m.toNat (n - m.toNat) sz)) :: F, H⟩) : rg k w0 ops (⟨some d, .slice t x (some y) none none, ty, p, af, none⟩ :: l) Q ⟨F, H⟩ :=
  rgI (irg_e rfl rfl (nlt hN) (ope_sl_l rfl hx hy (tab_sl k.ok ht) hc.1 hc.2) (rgO h))
theorem v_slsh {r n e sz by_ : Nat} (hN : Nat.blt d k.N = true) (hx : (St.mk F H).ev x = .one (.sl r n sz)) (hz : (St.mk F H).ev z = .one (.d (.int k1 m))) (ht : tyAt k.τ t = .sl e sz by_) (hc : 0 ≤ m ∧ m ≤ (n : Int)) (h : rg k w0 ops l Q ⟨(d, .one (.slp r 0 m.toNat sz)) :: F, H⟩) : rg k w0 ops (⟨some d, .slice t x none (some z) none, ty, p, af, none⟩ :: l) Q ⟨F, H⟩ :=
  rgI (irg_e rfl rfl (nlt hN) (ope_sl_h rfl hx hz (tab_sl k.ok ht) hc.1 hc.2) (rgO h))
theorem f_slsl {r n e sz by_ : Nat} (hx : s.ev x = .one (.sl r n sz)) (hy : s.ev y = .one (.d (.int k1 m))) (ht : tyAt k.τ t = .sl e sz by_) (hc : 0 ≤ m ∧ m ≤ (n : Int)) : OpE k.P k.T k.N w0 s ⟨some d, .slice t x (some y) none none, ty, p, af, gd⟩ (.one (.slp r m.toNat (n - m.toNat) sz)) :=
  ope_sl_l rfl hx hy (tab_sl k.ok ht) hc.1 hc.2
theorem f_slsh {r n e sz by_ : Nat} (hx : s.ev x = .one (.sl r n sz)) (hz : s.ev z = .one (.d (.int k1 m))) (ht : tyAt k.τ t = .sl e sz by_) (hc : 0 ≤ m ∧ m ≤ (n : Int)) : OpE k.P k.T k.N w0 s ⟨some d, .slice t x none (some z) none, ty, p, af, gd⟩ (.one (.slp r 0 m.toNat sz)) :=
  ope_sl_h rfl hx hz (tab_sl k.ok ht) hc.1 hc.2
/-- What is copied, with types. -/
inductive SrpT {α : Type} (H : List (Nat × VH)) (sz : Nat) (f : α → List Cell) : SV → List α → Prop where
  | d (ys : List α) : SrpT H sz f (.one (.d (.list (ys.map f)))) ys
  | sl {r n : Nat} {e : TypeId} {ys : List α} (h : getH H r = .arr e sz (ys.map f)) (hn : n = ys.length) : SrpT H sz f (.one (.sl r n sz)) ys
  | slp {r off n : Nat} {e : TypeId} {ys : List α} (h : getH H r = .arr e sz (ys.map f)) (hle : off + n ≤ ys.length) : SrpT H sz f (.one (.slp r off n sz)) ((ys.drop off).take n)
theorem SrpT.srp {α : Type} {sz : Nat} {f : α → List Cell} {sv : SV} {ys : List α} (h : SrpT H sz f sv ys) (hf : ∀ x, (f x).length = sz) : Srp ⟨F, H⟩ sz sv (ys.map f) := by
  cases h with
  | d ys => exact .d _ (map_rows hf)
  | sl h hn => exact .sl h (by simpa using hn)
  | slp h hle => rw [List.map_take, List.map_drop]; exact .slp h (by simpa using hle)
theorem v_copy {α : Type} (f : α → List Cell) {xs ys : List α} {e sz by_ r off n t2 : Nat} (hN : Nat.blt d k.N = true) (ht : tyAt k.τ t = .sl e sz by_) (h0 : Nat.blt 0 sz = true) (hx : Dst sz ((St.mk F H).ev x) r off n) (hH : getH H r = .arr e sz (xs.map f)) (hf : ∀ x, (f x).length = sz) (hy : SrpT H sz f ((St.mk F H).ev y) ys) (hc : off + n ≤ xs.length)
    (h : rg k w0 ops l Q ⟨(d, .one (.d (.int .i64 ((min ys.length n : Nat) : Int)))) :: F, (r, .arr e sz ((splT xs off (ys.take n)).map f)) :: H⟩) : rg k w0 ops (⟨some d, .call { callee := .builtin .copy, args := #[x, y], argTypes := #[t, t2] }, ty, p, af, none⟩ :: l) Q ⟨F, H⟩ :=
  rgI (irg_h rfl (opr_copy k.ok rfl rfl (nlt hN) ht (nlt h0) hx hH (hy.srp hf) (by simpa using hc)) (rgO (by
    rw [← splT_map, List.map_take] at h
    rw [List.length_map]; exact h)))
end
/-- A panic, that is not reached. -/
theorem v_pan {k : Wk} {w0 : Org} {ops : Array Oper} {Q : St → Prop} {s : St} {d d2 : Option Nat} {t t2 t3 : Nat} {x y : Operand} {p p2 : String} {af af2 : Array Edge} {g g2} (h : False) : rg k w0 ops [⟨d, .makeInterface t x, t2, p, af, g⟩, ⟨d2, .panic y, t3, p2, af2, g2⟩] Q s := h.elim
end Go.Proofs.Ytbnmcdnkeipdhaa
