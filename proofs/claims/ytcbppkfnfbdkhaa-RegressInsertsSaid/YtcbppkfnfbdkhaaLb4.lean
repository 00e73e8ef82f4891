/- Texts of the library, put together. -/
import Derived.Test.YtcbppkfnfbdkhaaLb3
import Derived.Lib.ConvBytes
import Derived.Lib.AppendStr
import Derived.Orders
import Derived.Deep.Upon
import Derived.Laws.Strings3
/- A queue: the part of a list of the call's own that is left, and that grows. -/
set_option linter.all false
set_option maxRecDepth 20000
namespace Go.Proofs.Ytcbppkfnfbdkhaa
open Go.RowKit Go.Shelf
section
variable {P : Program} {T : TypeId} {N : Nat} {w0 : Org} {s : St} {o : Oper} {τ : List TyI} {g : Gh} {a : Act} {w : World}
theorem slp_inv {v : Value} {r off n sz : Nat} (h : RepCV P g w v (.slp r off n sz)) : (v = .slice none 0 0 ∧ n = 0) ∨ ∃ b o c, g.β r = some b ∧ v = .slice (some ⟨b, o, none⟩) n c ∧ (n = 0 ∨ o = off * sz) ∧ n ≤ c ∧ (c = 0 ∨ (o = off * sz ∧ off + c ≤ g.κ r ∧ g.κ r ≤ maxLen)) := by
  cases h with
  | slpv => exact .inl ⟨rfl, rfl⟩
  | slp _ _ _ o c hb ho hle hc => exact .inr ⟨_, o, c, hb, rfl, ho, hle, hc⟩
theorem ope_len_slp {x : Operand} {t e n r off m sz : Nat} (ho : o.op = .call { callee := .builtin .len, args := #[x], argTypes := #[t] }) (hx : s.ev x = .one (.slp r off m sz)) (ht : sliceT P t e n = true) (hm : m ≤ maxLen) : OpE P T N w0 s o (.one (.d (.int .i64 (m : Int)))) :=
  ope_val fun g a w hs => by
    have h := hs.ev x; rw [hx] at h
    rcases slp_inv h.one_inv with ⟨he, h0⟩ | ⟨b, oo, c, hb, he, _⟩
    · subst h0
      exact ⟨.int .i64 0, by simp [execOp, ho, resolve, invoke, he, run_len (sliceT_spec ht).1], .one (.d (.int _ _ rfl))⟩
    · exact ⟨.int .i64 m, by simp [execOp, ho, resolve, invoke, he, run_len (sliceT_spec ht).1], .one (.d (.int _ _ (len_wf (by omega))))⟩
theorem ope_ia_slp {x y : Operand} {t r off n sz e : Nat} {k : IntKind} {m : Int} (ho : o.op = .indexAddr t x y) (hx : s.ev x = .one (.slp r off n sz)) (hy : s.ev y = .one (.d (.int k m)))
    (ht : sliceT P t e sz = true) (h0 : 0 ≤ m) (hi : m < n) : OpE P T N w0 s o (.one (.el r (off + m.toNat) 0 sz)) :=
  ope_val fun g a w hs => by
    have h1 := hs.ev x; rw [hx] at h1
    have h2 := hs.ev y; rw [hy] at h2
    rcases slp_inv h1.one_inv with ⟨_, e2⟩ | ⟨b, oo, c, hb, e1, h3, h4, _⟩
    · omega
    · have e0 : oo = off * sz := by omega
      subst e0
      refine ⟨.pointer (some ⟨b, off * sz + m.toNat * sz, none⟩), by simp [execOp, ho, e1, h2.int_inv.1, run_indexAt ht h0 hi], .one ?_⟩
      have := RepCV.el (P := P) (g := g) (w := w) (r := r) (b := b) (off + m.toNat) 0 sz hb
      rw [Nat.add_zero, Nat.add_mul] at this
      exact this
theorem ope_slp_l {t r off n e sz : Nat} {x y : Operand} {k1 : IntKind} {m : Int} (ho : o.op = .slice t x (some y) none none) (hx : s.ev x = .one (.slp r off n sz)) (hy : s.ev y = .one (.d (.int k1 m))) (ht : sliceT P t e sz = true) (h0 : 0 ≤ m) (h2 : m ≤ (n : Int)) : OpE P T N w0 s o (.one (.slp r (off + m.toNat) (n - m.toNat) sz)) :=
  ope_val fun g a w hs => by
    have q1 := hs.ev x; rw [hx] at q1
    have q2 := hs.ev y; rw [hy] at q2
    obtain ⟨hu, inf, hi, hsz⟩ := sliceT_spec ht
    have he : P.elem t = e := by simp [Program.elem, hu]
    have run : ∀ A c, a.eval x = .slice A n c → (execOp a.eval o).run P w = .ok (.value (Go.sliced A m.toNat n c sz)) w := fun A c hv => by
      have := run_slice_l (P := P) w t A n c (by rw [he]; exact hu) k1 m h0 h2
      simp [execOp, ho, hv, q2.int_inv.1, run_sliceAt_slice w t _ _ _ _ (by rw [he]; exact hu), this, he, sizeOf, typeInfo, hi, hsz, Result.andThen]
    rcases slp_inv q1.one_inv with ⟨e1, e2⟩ | ⟨b, oo, c, hb, e1, h3, h4, h5⟩
    · subst e2
      refine ⟨_, run none 0 e1, .one ?_⟩
      have : m.toNat = 0 := by omega
      rw [this]
      exact .slpv _ sz
    · refine ⟨_, run _ _ e1, .one ?_⟩
      unfold Go.sliced
      by_cases hm : c = m.toNat
      · rw [if_pos hm]
        exact .slp _ _ _ _ _ hb (.inl (by omega)) (by omega) (.inl (by omega))
      · rw [if_neg hm]
        show RepCV P g w (.slice (some ((⟨b, oo, none⟩ : Addr).add (m.toNat * sz))) _ _) _
        rw [Addr.add_lit]
        rcases h5 with h5 | ⟨h5, h6, h7⟩
        · omega
        · subst h5
          exact .slp _ _ _ _ _ hb (.inr (by rw [Nat.add_mul])) (by omega) (.inr ⟨by rw [Nat.add_mul], by omega, h7⟩)
theorem run_app_room {t ty e : TypeId} {i : TypeInfo} (ht : P.underlying t = some (.slice e)) (hi : P.info? e = some i) {g off n c : Nat} {cur : Array Value} (hg : w.heap[g]? = some (.cells cur e (0, 0))) {ad : Addr} {m c2 : Nat} {news : List Value} (hl : news.length = m * i.size) (hnews : ∀ j u, news[j]? = some u → w.cell? (ad.add j) = some u) (h1 : ∀ u ∈ news, u.oneCell' = true) (hroom : n + m ≤ c) (hfit : off + n * i.size + news.length ≤ cur.size) :
    (Builtin.append_ #[t, t] ty #[.slice (some ⟨g, off, none⟩) n c, .slice (some ad) m c2]).run P w = .ok (.slice (some ⟨g, off, none⟩) (n + m) c) (w.setRow g (cur.toList.take (off + n * i.size) ++ news ++ cur.toList.drop (off + n * i.size + news.length)).toArray) := by
  have hf := run_firstCells_some (P := P) w i.size m ad m c2 news hl hnews
  have hst := run_storeCells_at P g (off + n * i.size) e news 0 cur w hg (by simpa using hfit) h1
  simp only [Nat.add_zero] at hst
  simp [Builtin.append_, run_underlying ht, sizeOf, typeInfo, hi, Builtin.lenOf, hroom, hf, Addr.add_lit, hst]
theorem opr_append_q (hτ : tabB P 0 τ = true) {t d e sz by_ r off n : Nat} {zs : List Z} {x y : Operand} {rows rows' : List (List Cell)} (ho : o.op = .call { callee := .builtin .append, args := #[x, y], argTypes := #[t, t] }) (hd : o.dst = some d) (hN : d < N)
    (ht : tyAt τ t = .sl e sz by_) (hz : (tyAt τ e).zs = some zs) (hzl : zs.length = sz) (h0 : 0 < sz) (hx : s.ev x = .one (.slp r off n sz)) (hr : getH s.H r = .arr e sz rows) (hon : off + n = rows.length) (hy : Src s sz (s.ev y) rows') (hne : 0 < rows'.length) (hfr : allH r s.H = true)
    (hbd : (rows.length + rows'.length) * by_ ≤ 140737488355328) (hb0 : 0 < by_) :
    OpR P T N w0 s o (fun s' => ∃ rows2 off2, (rows2 = rows ++ rows' ∧ off2 = off ∨ rows2 = rows.drop off ++ rows' ∧ off2 = 0) ∧ s' = ⟨(d, .one (.slp r off2 (n + rows'.length) sz)) :: killF r s.F, (r, .arr e sz rows2) :: s.H⟩) := by
  intro g a w hs K Q hK
  obtain ⟨hu, inf, hi, hsz⟩ := sliceT_spec (tab_sl hτ ht)
  have hby : inf.bytes = by_ := by
    have := tab_by hτ ht
    unfold bytesB at this
    rw [hi] at this
    exact Nat.eq_of_beq_eq_true this
  obtain ⟨i, z, hi2, hz1, hz2, hz3⟩ := zeroB_spec (tab_zs hτ hz)
  obtain rfl : i = inf := by rw [hi] at hi2; injection hi2 with h; exact h.symm
  have hzs : z.cells.size = sz := by rw [hz2]; simp [hzl]
  obtain ⟨A, c2, news, ey, hC, hnl, hn1, hnr⟩ := hy.vals h0 hs (hs.ev y)
  have hrl' := rows_of_src hy hs
  have hh := hs.hH r; rw [hr] at hh
  obtain ⟨hrl, hh⟩ := hh
  have hle : rows.length + rows'.length ≤ (rows.length + rows'.length) * by_ := Nat.le_mul_of_pos_right _ hb0
  have hsum : rows.length + rows'.length ≤ maxLen := by unfold maxLen; omega
  have h63 : rows.length + rows'.length ≤ 9223372036854775807 := by omega
  have hnb : (n + rows'.length) * by_ ≤ 140737488355328 := Nat.le_trans (Nat.mul_le_mul_right _ (by omega)) hbd
  have hn0 : news ≠ [] := fun e => by
    have h9 := Nat.mul_pos hne h0
    rw [← hnl, e] at h9
    exact absurd h9 (by simp)
  obtain ⟨ad, rfl⟩ : ∃ ad, A = some ad := by
    cases news with
    | nil => exact absurd rfl hn0
    | cons u news => obtain ⟨ad, h, _⟩ := hC 0 u rfl; exact ⟨ad, h⟩
  have hcells : ∀ j u, news[j]? = some u → w.cell? (ad.add j) = some u := by
    intro j u hu
    obtain ⟨ad', h, _, hc⟩ := hC j u hu
    injection h with h
    subst h
    exact hc
  have hl : live s.H r := by unfold live; rw [hr]; rfl
  have ex := hs.ev x
  rw [hx] at ex
  have hsk : Sim P T N w0 g ⟨killF r s.F, s.H⟩ a w := hs.less (fun y => by
    show getF (killF r s.F) y = getF s.F y ∨ getF (killF r s.F) y = .u
    rw [killF_get]
    split
    · exact .inr rfl
    · exact .inl rfl) fun _ => .inl rfl
  have hkill : ∀ y, (getF (killF r s.F) y).has r = false := fun y => by
    rw [killF_get]
    split
    · rfl
    · simp_all
  have hrl2 : ∀ row ∈ rows.drop off ++ rows', row.length = sz := fun row hr => by
    rcases List.mem_append.1 hr with h | h
    · exact hrl _ (List.mem_of_mem_drop h)
    · exact hrl' _ h
  have hdl : (rows.drop off).length = n := by rw [List.length_drop]; omega
  -- the end of whatever lays a new row
  have grow : ∀ (w' : World) (cap : Nat) (vals : Array Value) (olds : List Value), olds.length = n * sz → (∀ (i j : Nat) (row : List Cell) (x : Cell), (rows.drop off)[i]? = some row → row[j]? = some x → ∃ u, olds[i * sz + j]? = some u ∧ RepCell g.Rd w u x) →
      w.grownBy w' none → Blk w' w.heap.size e vals → vals.size = cap * sz → vals.toList.take ((n + rows'.length) * sz) = olds ++ news → n + rows'.length ≤ cap → cap ≤ maxLen → w.heap.size < w'.heap.size →
      K (a.put (some d) (.slice (some ⟨w.heap.size, 0, none⟩) (n + rows'.length) cap)) w' := by
    intro w' cap vals olds hol hor hg hbl hvs htk hc1 hc2 hlt
    have hln : (rows.drop off ++ rows').length = n + rows'.length := by rw [List.length_append, hdl]
    have hown : w'.ownsRow 0 e sz (.slice (some ⟨w.heap.size, 0, none⟩) (n + rows'.length) cap) (rows.drop off ++ rows').length (olds ++ news) :=
      ⟨by rw [List.length_append, hol, hnl, hln, Nat.add_mul], .inr ⟨w.heap.size, cap, vals, by rw [hln], Nat.zero_le _, hbl, by rw [hln]; exact hc1, hc2, hvs, by rw [hln]; exact htk⟩⟩
    have hfut : Fut g.Rd g.Rd w w' := ⟨fun _ _ h => h, fun b o' hb => World.cell?_of_block (w := w) (a := ⟨b, o', none⟩) (hg.block b (hs.gi.rd b o' hb).1 (fun e => by cases e))⟩
    have key : ∀ (i j : Nat) (row : List Cell) (x : Cell), (rows.drop off ++ rows')[i]? = some row → row[j]? = some x → ∃ u, (olds ++ news)[i * sz + j]? = some u ∧ RepCell g.Rd w' u x := fun i j row x hi hj => by
      by_cases hlt : i < n
      · rw [List.getElem?_append_left (by omega)] at hi
        obtain ⟨u, hu, hr⟩ := hor i j row x hi hj
        refine ⟨u, ?_, hr.mono hfut.rd hfut.cell⟩
        rw [List.getElem?_append_left (List.getElem?_eq_some_iff.1 hu).1]
        exact hu
      · rw [List.getElem?_append_right (by omega)] at hi
        obtain ⟨hj', u, hu, hr⟩ := hnr _ j row x hi hj
        refine ⟨u, ?_, hr.mono hfut.rd hfut.cell⟩
        have e1 : i * sz = n * sz + (i - n) * sz := by rw [← Nat.add_mul]; congr 1; omega
        rw [hdl] at hu
        rw [List.getElem?_append_right (by omega), ← hu]
        congr 1
        omega
    obtain ⟨k, q1, q2, q3⟩ := own_arr (P := P) (g := g) (d := r) hown rfl hrl2 key
    have h1 := hsk.newG (d := r) hkill (fun q => allH_get hfr q) (r0 := some r) (ob := none) (nb := some w.heap.size) (k := k) (vh := .arr e sz (rows.drop off ++ rows')) (fun b hb => by cases hb) hg (fun b hb => by injection hb with hb; subst hb; exact ⟨.inr (Nat.le_refl _), hlt⟩) rfl (fun _ => q1)
    have q2' : RepCV P (g.new r (some w.heap.size) k) w' (.slice (some ⟨w.heap.size, 0, none⟩) (n + rows'.length) cap) (.slp r 0 (n + rows'.length) sz) := by
      rw [hln] at q2
      rcases q2.sl_inv with ⟨e1, _⟩ | ⟨b, k1, k2, k3, e1⟩
      · cases e1
      · injection e1 with e1 e2 e3
        have e4 : (g.new r (some w.heap.size) k).κ r = cap := e3.symm
        exact .slp 0 _ sz 0 cap (by simp [Gh.new, updO]) (.inr (by omega)) hc1 (.inr ⟨by omega, by rw [e4]; omega, by rw [e4]; exact hc2⟩)
    have h2 := h1.put hN (.one q2')
    refine hK _ _ _ _ ⟨rows.drop off ++ rows', 0, .inr ⟨rfl, rfl⟩, rfl⟩ (h2.alike (fun _ => .inl rfl) fun q => ?_)
    show getH ((r, _) :: s.H) q = getH ((r, _) :: goneH (some r) s.H) q
    simp only [hget_put, goneH_get]
    by_cases e9 : r = q <;> simp [e9]
  have hge := grownCap_ge w (n + rows'.length)
  rcases slp_inv ex.one_inv with ⟨ev, hnz⟩ | ⟨b, oo, c, hb, ev, h3, h4, h5⟩
  · subst hnz
    have hrun := run_append_nil (P := P) w t o.type e i z hu hi hz1 ad rows'.length c2 news (by rw [hsz]; exact hnl) hcells hne (by omega) (by
      rw [hby]; rw [Nat.zero_add] at hnb; omega)
    refine wp_append_run ho ev ey hrun ?_
    obtain ⟨g1, g2, g3⟩ := drew_alloc w (news.toArray ++ Builtin.zeroCells z.cells (grownCap w rows'.length 0 e - rows'.length)) e
    have hge := grownCap_ge w rows'.length 0 e
    have hcm := grownCap_le_maxLen w rows'.length 0 e (by omega)
    rw [hd]
    have := grow _ (grownCap w rows'.length 0 e) _ [] (by simp) (fun i j row x hi hj => by
      have := (List.getElem?_eq_some_iff.1 hi).1
      omega) g1 g2 (by
      rw [Array.size_append, List.size_toArray, hnl, size_zeroCells, hzs, ← Nat.add_mul]; congr 1; omega) (by
      rw [Nat.zero_add, ← hnl]
      simp) (by omega) hcm g3
    rw [Nat.zero_add] at this
    exact this
  · rcases hh with ⟨hbn, _⟩ | ⟨b2, vals, hb2, hbl, k1, k2, k3, k4⟩
    · rw [hb] at hbn; cases hbn
    obtain rfl : b = b2 := by rw [hb] at hb2; injection hb2
    by_cases hroom : n + rows'.length ≤ c
    · obtain ⟨e0, h6, h7⟩ : oo = off * sz ∧ off + c ≤ g.κ r ∧ g.κ r ≤ maxLen := by
        rcases h5 with h5 | h5
        · omega
        · exact h5
      subst e0
      have hkk : rows.length + rows'.length ≤ g.κ r := by omega
      have hat : off * sz + n * sz = rows.length * sz := by rw [← Nat.add_mul, hon]
      have hvs : rows.length * sz + news.length ≤ vals.size := by rw [hnl, k1, ← Nat.add_mul]; exact Nat.mul_le_mul_right _ hkk
      have hrun := run_app_room (P := P) (ty := o.type) hu hi (off := off * sz) (n := n) (c := c) hbl (c2 := c2) (by rw [hsz]; exact hnl) hcells hn1 hroom (by rw [hsz, hat]; exact hvs)
      rw [hsz, hat] at hrun
      refine wp_append_run ho ev ey hrun ?_
      generalize hv2 : (vals.toList.take (rows.length * sz) ++ news ++ vals.toList.drop (rows.length * sz + news.length)).toArray = vals2
      have hsz2 : vals2.size = vals.size := by
        rw [← hv2]
        simp only [List.size_toArray, List.length_append, List.length_take, List.length_drop, Array.length_toList]
        omega
      have hold : ∀ k, k < rows.length * sz → vals2[k]? = vals[k]? := fun k hk => by
        rw [← hv2]
        simp only [List.getElem?_toArray]
        rw [List.append_assoc, List.getElem?_append_left (by simp; omega), List.getElem?_take_of_lt hk, Array.getElem?_toList]
      have hnew : ∀ k, k < news.length → vals2[rows.length * sz + k]? = news[k]? := fun k hk => by
        have hlt : (vals.toList.take (rows.length * sz)).length = rows.length * sz := by simp; omega
        rw [← hv2]
        simp only [List.getElem?_toArray]
        rw [List.append_assoc, List.getElem?_append_right (by rw [hlt]; omega), hlt, List.getElem?_append_left (by omega)]
        congr 1; omega
      have hblk2 : Blk (w.setRow b vals2) b e vals2 := setRow_heap w b vals vals2 e _ hbl
      have c1 := hsk.change (vals := vals2) (vh := .arr e sz (rows ++ rows')) hl hb hbl rfl (fun hf => ⟨fun row hr => by
        rcases List.mem_append.1 hr with h | h
        · exact hrl _ h
        · exact hrl' _ h, .inr ⟨b, vals2, hb, hblk2, by rw [hsz2]; exact k1, by rw [List.length_append]; exact hkk, h7, fun i j row x hi hj => by
        by_cases hlt : i < rows.length
        · rw [List.getElem?_append_left hlt] at hi
          obtain ⟨u, hu, hr⟩ := k4 i j row x hi hj
          have hjl := (List.getElem?_eq_some_iff.1 hj).1
          have e1 := hrl _ (List.mem_of_getElem? hi)
          have hin : i * sz + j < rows.length * sz := by
            have : (i + 1) * sz ≤ rows.length * sz := Nat.mul_le_mul_right _ hlt
            rw [Nat.add_mul] at this
            omega
          exact ⟨u, by rw [hold _ hin]; exact hu, hr.mono hf.rd hf.cell⟩
        · rw [List.getElem?_append_right (by omega)] at hi
          obtain ⟨hj', u, hu, hr⟩ := hnr _ j row x hi hj
          have e1 : i * sz = rows.length * sz + (i - rows.length) * sz := by rw [← Nat.add_mul]; congr 1; omega
          refine ⟨u, ?_, hr.mono hf.rd hf.cell⟩
          rw [show i * sz + j = rows.length * sz + ((i - rows.length) * sz + j) by omega, hnew _ (List.getElem?_eq_some_iff.1 hu).1]
          exact hu⟩⟩)
      have q2 : RepCV P g (w.setRow b vals2) (.slice (some ⟨b, off * sz, none⟩) (n + rows'.length) c) (.slp r off (n + rows'.length) sz) := .slp off _ sz _ c hb (.inr rfl) hroom (.inr ⟨rfl, h6, h7⟩)
      have c2 := c1.put hN (.one q2)
      rw [hd]
      exact hK _ _ _ _ ⟨rows ++ rows', off, .inl ⟨rfl, rfl⟩, rfl⟩ c2
    · have hvs : rows.length * sz ≤ vals.size := by rw [k1]; exact Nat.mul_le_mul_right _ k2
      have hat : off * sz + n * sz = rows.length * sz := by rw [← Nat.add_mul, hon]
      have holds : ∀ j u, ((vals.toList.drop (off * sz)).take (n * sz))[j]? = some u → w.cell? ((⟨b, oo, none⟩ : Addr).add j) = some u := fun j u hj => by
        have hk : j < n * sz := by have := (List.getElem?_eq_some_iff.1 hj).1; simp at this; omega
        have e0 : oo = off * sz := by
          rcases h3 with h3 | h3
          · subst h3; simp at hk
          · exact h3
        rw [List.getElem?_take_of_lt hk, List.getElem?_drop, Array.getElem?_toList] at hj
        rw [Addr.add_lit, hbl.cell, e0]; exact hj
      have hol : ((vals.toList.drop (off * sz)).take (n * sz)).length = n * sz := by simp; omega
      have hrun := run_append_grow (P := P) w t o.type e i z hu hi hz1 ⟨b, oo, none⟩ n c ((vals.toList.drop (off * sz)).take (n * sz)) (by rw [hsz]; exact hol) holds ad rows'.length c2 news (by rw [hsz]; exact hnl) hcells (by omega) (by omega) (growslice_fits (by omega) (by rw [hby]; exact hnb))
      refine wp_append_run ho ev ey hrun ?_
      obtain ⟨g1, g2, g3⟩ := drew_alloc w (((vals.toList.drop (off * sz)).take (n * sz)).toArray ++ news.toArray ++ Builtin.zeroCells z.cells (grownCap w (n + rows'.length) c e - (n + rows'.length))) e
      have hge := grownCap_ge w (n + rows'.length) c e
      have hcm := grownCap_le_maxLen w (n + rows'.length) c e (by omega)
      rw [hd]
      refine grow _ _ _ ((vals.toList.drop (off * sz)).take (n * sz)) hol (fun i j row x hi hj => ?_) g1 g2 ?_ ?_ hge hcm g3
      · rw [List.getElem?_drop] at hi
        obtain ⟨u, hu, hr⟩ := k4 (off + i) j row x hi hj
        have hil := (List.getElem?_eq_some_iff.1 hi).1
        have hjl := (List.getElem?_eq_some_iff.1 hj).1
        have e1 := hrl _ (List.mem_of_getElem? hi)
        have hk : i * sz + j < n * sz := by
          have : (i + 1) * sz ≤ n * sz := Nat.mul_le_mul_right _ (by omega)
          rw [Nat.add_mul] at this
          omega
        refine ⟨u, ?_, hr⟩
        rw [List.getElem?_take_of_lt hk, List.getElem?_drop, Array.getElem?_toList, ← hu]
        congr 1
        rw [Nat.add_mul]; omega
      · rw [Array.size_append, Array.size_append, List.size_toArray, List.size_toArray, hol, hnl, size_zeroCells, hzs, ← Nat.add_mul, ← Nat.add_mul]; congr 1; omega
      · have hlen : ((vals.toList.drop (off * sz)).take (n * sz) ++ news).length = (n + rows'.length) * sz := by rw [List.length_append, hol, hnl, Nat.add_mul]
        simp only [Array.toList_append, List.append_assoc]
        rw [← List.append_assoc, ← hlen]
        exact List.take_left
end
section
variable {k : Wk} {w0 : Org} {ops : Array Oper} {l : List Oper} {Q : St → Prop} {F F' : List (Nat × SV)} {H : List (Nat × VH)} {d t t' : Nat} {x y : Operand} {p : String} {af : Array Edge}
theorem v_lenslp {r off n sz e sz2 by_ : Nat} (hN : Nat.blt d k.N = true) (hx : (St.mk F H).ev x = .one (.slp r off n sz)) (ht : tyAt k.τ t' = .sl e sz2 by_) (hc : n ≤ 1000000000) (h : rg k w0 ops l Q ⟨(d, .one (.d (.int .i64 (n : Int)))) :: F, H⟩) : rg k w0 ops (⟨some d, .call { callee := .builtin .len, args := #[x], argTypes := #[t'] }, t, p, af, none⟩ :: l) Q ⟨F, H⟩ :=
  rgI (irg_e rfl rfl (nlt hN) (ope_len_slp rfl hx (tab_sl k.ok ht) (by unfold maxLen; omega)) (rgO h))
theorem v_iaslp {α : Type} {f : α → List Cell} {xs : List α} {r off n sz e e' by_ : Nat} {kk : IntKind} {m : Int} (hN : Nat.blt d k.N = true) (hx : (St.mk F H).ev x = .one (.slp r off n sz)) (hy : (St.mk F H).ev y = .one (.d (.int kk m))) (ht : tyAt k.τ t' = .sl e sz by_) (hH : getH H r = .arr e' sz (xs.map f)) (hc : 0 ≤ m ∧ m < (n : Int) ∧ (off : Int) + m < (xs.length : Int)) (h : rg k w0 ops l Q ⟨(d, .one (.el r ((off : Int) + m).toNat 0 sz)) :: F, H⟩) : rg k w0 ops (⟨some d, .indexAddr t' x y, t, p, af, none⟩ :: l) Q ⟨F, H⟩ := by
  have e0 : ((off : Int) + m).toNat = off + m.toNat := by omega
  rw [e0] at h
  exact rgI (irg_e rfl rfl (nlt hN) (ope_ia_slp rfl hx hy (tab_sl k.ok ht) hc.1 hc.2.1) (rgO h))
theorem v_slslp {r off n e sz by_ : Nat} {k1 : IntKind} {m : Int} (hN : Nat.blt d k.N = true) (hx : (St.mk F H).ev x = .one (.slp r off n sz)) (hy : (St.mk F H).ev y = .one (.d (.int k1 m))) (ht : tyAt k.τ t' = .sl e sz by_) (hc : 0 ≤ m ∧ m ≤ (n : Int)) (h : rg k w0 ops l Q ⟨(d, .one (.slp r (off + m.toNat) (n - m.toNat) sz)) :: F, H⟩) : rg k w0 ops (⟨some d, .slice t' x (some y) none none, t, p, af, none⟩ :: l) Q ⟨F, H⟩ :=
  rgI (irg_e rfl rfl (nlt hN) (ope_slp_l rfl hx hy (tab_sl k.ok ht) hc.1 hc.2) (rgO h))
def QueA {α : Type} (xs ys zs : List α) (off n o2 : Nat) : Prop := zs.drop o2 = xs.drop off ++ ys ∧ o2 + (n + ys.length) = zs.length ∧ zs.length ≤ xs.length + ys.length
theorem v_apq {α : Type} (f : α → List Cell) {xs ys : List α} {A : List α → Nat → Prop} {e sz by_ r off n : Nat} {zs : List Z} {rows' : List (List Cell)} (hN : Nat.blt d k.N = true) (ht : tyAt k.τ t' = .sl e sz by_) (hz : (tyAt k.τ e).zs = some zs) (hzl : zs.length = sz) (h0 : Nat.blt 0 sz = true) (hx : (St.mk F H).ev x = .one (.slp r off n sz)) (hr : getH H r = .arr e sz (xs.map f)) (hy : Src (St.mk F H) sz ((St.mk F H).ev y) rows') (hrow : rows' = ys.map f) (hne : Nat.blt 0 ys.length = true) (hfr : allH r H = true) (hF : killK r F (fun a => some a) = some F') (hb0 : Nat.blt 0 by_ = true) (hb1 : Nat.ble by_ 140000 = true)
    (hbd : off + n = xs.length ∧ xs.length + ys.length ≤ 1000000000) (hP : Hld (∀ ws o2, QueA xs ys ws off n o2 → A ws o2)) (h : ∀ ws o2, QueA xs ys ws off n o2 → Hld (A ws o2) → rg k w0 ops l Q ⟨(d, .one (.slp r o2 (n + ys.length) sz)) :: F', (r, .arr e sz (ws.map f)) :: H⟩) :
    rg k w0 ops (⟨some d, .call { callee := .builtin .append, args := #[x, y], argTypes := #[t', t'] }, t, p, af, none⟩ :: l) Q ⟨F, H⟩ := by
  subst hrow
  rw [killK_eq] at hF
  injection hF with hF
  subst hF
  have h1 := opr_append_q (P := k.P) (T := k.T) (N := k.N) (w0 := w0) (s := ⟨F, H⟩) (o := ⟨some d, .call { callee := .builtin .append, args := #[x, y], argTypes := #[t', t'] }, t, p, af, none⟩) k.ok rfl rfl (nlt hN) ht hz hzl (nlt h0) hx hr (by rw [List.length_map]; exact hbd.1) hy (by rw [List.length_map]; exact nlt hne) hfr (by
    rw [List.length_map, List.length_map]
    have := Nat.le_of_ble_eq_true hb1
    have h9 : (xs.length + ys.length) * by_ ≤ 1000000000 * 140000 := Nat.mul_le_mul hbd.2 this
    omega) (nlt hb0)
  have h2 : OpR k.P k.T k.N w0 ⟨F, H⟩ ⟨some d, .call { callee := .builtin .append, args := #[x, y], argTypes := #[t', t'] }, t, p, af, none⟩ (fun s' => ∃ ws o2, QueA xs ys ws off n o2 ∧ s' = ⟨(d, .one (.slp r o2 (n + ys.length) sz)) :: killF r F, (r, .arr e sz (ws.map f)) :: H⟩) := by
    intro g a w hs K Q' hK
    refine h1 g a w hs K Q' fun g' s' a' w' ⟨rows2, o2, hc, e0⟩ hs' => ?_
    rw [List.length_map] at e0
    rcases hc with ⟨e1, e2⟩ | ⟨e1, e2⟩
    · subst e2
      rw [← List.map_append] at e1
      subst e1
      refine hK g' s' a' w' ⟨xs ++ ys, o2, ⟨?_, ?_, ?_⟩, e0⟩ hs'
      · rw [List.drop_append_of_le_length (by omega)]
      · rw [List.length_append]; omega
      · rw [List.length_append]; omega
    · subst e2
      rw [← List.map_drop, ← List.map_append] at e1
      subst e1
      refine hK g' s' a' w' ⟨xs.drop off ++ ys, 0, ⟨by simp, ?_, ?_⟩, e0⟩ hs'
      · rw [List.length_append, List.length_drop]; omega
      · rw [List.length_append, List.length_drop]; omega
  exact rgI (irg_op rfl h2 fun s' ⟨ws, o2, hq, e0⟩ => by subst e0; exact rgO (h ws o2 hq ⟨hP.out ws o2 hq⟩))
end
end Go.Proofs.Ytcbppkfnfbdkhaa
/- Queues whose old head is read behind the append. -/
set_option linter.all false
set_option maxRecDepth 20000
set_option maxHeartbeats 4000000
namespace Go.Proofs.Ytcbppkfnfbdkhaa
open Go.RowKit Go.Shelf
section
variable {P : Program} {T : TypeId} {N : Nat} {w0 : Org} {s : St} {o : Oper} {τ : List TyI} {g : Gh} {a : Act} {w : World}
end
section
variable {k : Wk} {w0 : Org} {ops : Array Oper} {l : List Oper} {Q : St → Prop} {F F' : List (Nat × SV)} {H : List (Nat × VH)} {d t t' : Nat} {x y : Operand} {p : String} {af : Array Edge}
end
section
variable {k : Wk} {w0 : Org} {ops : Array Oper} {W : Option (List Nat)} {S listed : Array Bool} {nq m n : Nat} {Q : St → Prop} {s : St} {l : List Nat}
end
section
variable {k : Wk} {w0 : Org} {s : St} {o : Oper}
end
end Go.Proofs.Ytcbppkfnfbdkhaa
/- Arrays of bools at a variable index. -/
set_option linter.all false
set_option maxRecDepth 20000
namespace Go.Proofs.Ytcbppkfnfbdkhaa
open Go.RowKit Go.Shelf
section
variable {k : Wk} {w0 : Org} {ops : Array Oper} {l : List Oper} {Q : St → Prop} {F F' : List (Nat × SV)} {H H' : List (Nat × VH)} {d t t' ty : Nat} {p : String} {af : Array Edge} {x y : Operand} {s : St} {gd : Option (Nat × Bool)} {xs : List Bool}
end
section
variable {k : Wk} {w0 : Org} {ops : Array Oper} {W : Option (List Nat)} {S listed : Array Bool} {nq m n : Nat} {Q : St → Prop} {s : St} {l : List Nat} {op : Op} {ty : TypeId} {pp : String} {af : Array Edge} {i : Nat} {x y : Operand} {t tt r : Nat} {xs : List Bool} {v : Bool} {a b : Int}
end
section
variable {k : Wk} {w0 : Org} {d t t' ty : Nat} {p : String} {af : Array Edge} {x y : Operand} {s : St} {gd : Option (Nat × Bool)} {b c : Bool}
end
end Go.Proofs.Ytcbppkfnfbdkhaa
/- Methods that change what their receiver points to. -/
set_option linter.all false
set_option maxRecDepth 20000
namespace Go.Proofs.Ytcbppkfnfbdkhaa
open Go.RowKit Go.Shelf
def bytI (q : ByteArray) : List Int := q.data.toList.map fun b => (b.toNat : Int)
theorem bytI_len (q : ByteArray) : (bytI q).length = q.size := by unfold bytI; simp
section
variable {P : Program} {T : TypeId} {N : Nat} {w0 : Org} {s : St} {o : Oper} {τ : List TyI}
theorem opr_sby (hτ : tabB P 0 τ = true) {t t' d e by_ : Nat} {x : Operand} {q : ByteArray} (ho : o.op = .convert t t' x) (hd : o.dst = some d) (hN : d < N) (hst : strB P t = true) (ht : tyAt τ t' = .sl e 1 by_) (he : u8B P e = true) (hx : s.ev x = .one (.d (.str q))) (hb0 : 0 < by_) (hb1 : by_ ≤ 100000) (hq : q.size ≤ 1000000000) (hfr : s.fresh d = true) (hg0 : getH s.H d = .gone) :
    OpR P T N w0 s o (fun s' => s' = s.put d (.one (.d (.list ((bytI q).map irow_u8))))) := by
  intro g a w hs K Q hK
  obtain ⟨f1, f2, f3⟩ := St.fresh_spec hfr
  obtain ⟨hu, inf, hi, hsz⟩ := sliceT_spec (tab_sl hτ ht)
  have h1 := hs.ev x; rw [hx] at h1
  have hrun : (execOp a.eval o).run P w = .ok (.value (.slice (some ⟨w.heap.size, 0, none⟩) q.size (grownCap w q.size 0 e))) (Lib.bytesWorld w e q) := by
    simp only [execOp, ho, h1.str_inv.1, Sem.run_bind, Lib.run_convert_string_bytes w t t' e q (strB_spec hst) hu (u8B_spec he), Result.andThen_ok, Sem.run_pure]
  have hG := grownCap_ge w q.size 0 e
  have hGm := grownCap_le_maxLen w q.size 0 e (by unfold maxLen; omega)
  obtain ⟨G, hGe⟩ : ∃ G, G = grownCap w q.size 0 e := ⟨_, rfl⟩
  obtain ⟨cells, hce⟩ : ∃ cells, cells = Lib.bytesCells w e q := ⟨_, rfl⟩
  have hcs : cells.size = G := by
    rw [hce, hGe]; unfold Lib.bytesCells
    simp
    omega
  have hbw : Lib.bytesWorld w e q = (w.drew.alloc (.cells cells e)).freeze ⟨w.heap.size, cells.size, none⟩ 1 := by rw [hce]; rfl
  rw [hbw, ← hGe] at hrun
  rw [← hGe] at hG hGm
  have hg : w.grownBy (w.drew.alloc (.cells cells e)) none := by
    have h := World.grownBy_alloc w.drew (.cells cells e) none
    exact ⟨h.os, h.tape, h.output, h.size, h.block⟩
  have hsz2 : (w.drew.alloc (.cells cells e)).heap.size = w.heap.size + 1 := by rw [World.size_alloc]; rfl
  have hblk : Blk (w.drew.alloc (.cells cells e)) w.heap.size e cells := Blk.new w.drew _ _
  have hk := hs.newG (d := d) f1 f2 (r0 := none) (ob := none) (nb := some w.heap.size) (k := G) (w' := w.drew.alloc (.cells cells e)) (vh := .arr e 1 ((bytI q).map irow_u8)) (fun b hb => (by cases hb)) hg (fun b hb => (by simp at hb; subst hb; exact ⟨.inr (Nat.le_refl _), by omega⟩)) rfl (fun hf => by
    refine ⟨fun row hrow => ?_, .inr ⟨w.heap.size, cells, by simp [Gh.new, updO], hblk, by simp [Gh.new, updN]; omega, by simp [Gh.new, updN]; rw [bytI_len]; omega, by simp [Gh.new, updN]; exact hGm, fun i' j row x hi' hj => ?_⟩⟩
    · obtain ⟨z, _, rfl⟩ := List.mem_map.1 hrow; rfl
    · have hlt := (List.getElem?_eq_some_iff.1 hi').1
      rw [List.length_map, bytI_len] at hlt
      have hq2 : q.data.toList.length = q.size := by simp
      rw [List.getElem?_map, bytI, List.getElem?_map, List.getElem?_eq_getElem (by omega)] at hi'
      injection hi' with hi'
      subst hi'
      have hjl := (List.getElem?_eq_some_iff.1 hj).1
      have hj0 : j = 0 := by simp [irow_u8] at hjl; exact hjl
      subst hj0
      simp [irow_u8] at hj
      subst hj
      have hc := Lib.bytesWorld_cell w e q i' hlt
      refine ⟨.int .u8 ((q.data.toList[i']'(by omega)).toNat), ?_, ?_⟩
      · rw [hce, Lib.bytesCells, Nat.mul_one, Nat.add_zero, Array.getElem?_append_left (by simp; exact hlt), Array.getElem?_map, Array.getElem?_eq_getElem (by simpa using hlt)]
        simp
      · have h256 := (q.data.toList[i']'(by omega)).toNat_lt
        have hwf : (Lit.int .u8 (((q.data.toList[i']'(by omega)).toNat : Nat) : Int)).wf = true := by
          generalize (q.data.toList[i']'(by omega)).toNat = z at h256
          simp [Lit.wf, IntKind.min, IntKind.max, IntKind.bits, IntKind.signed]; omega
        exact .int _ _ hwf)
  have hs1 := hk
  obtain ⟨H1, hH1⟩ : ∃ H1, H1 = (d, VH.arr e 1 ((bytI q).map irow_u8)) :: goneH none s.H := ⟨_, rfl⟩
  have hr1 : getH H1 d = .arr e 1 ((bytI q).map irow_u8) := by rw [hH1, hget_put, if_pos rfl]
  rw [← hH1] at hs1
  have hrep0 : RepCV P (g.new d (some w.heap.size) G) (w.drew.alloc (.cells cells e)) (.slice (some ⟨w.heap.size, 0, none⟩) q.size G) (.sl d q.size 1) := by
    have := RepCV.sl (P := P) (g := g.new d (some w.heap.size) G) (w := w.drew.alloc (.cells cells e)) (r := d) (b := w.heap.size) q.size 1 (by simp [Gh.new, updO]) (by simp [Gh.new, updN]; omega) (by simp [Gh.new, updN]; exact hGm)
    simpa [Gh.new, updN] using this
  have hs2 := hs1.fr (rs := [d]) (F' := s.F) (dropH_fr _ d _) (frF_same s.F)
  have hrep : RepCV P ((g.new d (some w.heap.size) G).fr H1 [d] (w.drew.alloc (.cells cells e))) (w.drew.alloc (.cells cells e)) (.slice (some ⟨w.heap.size, 0, none⟩) q.size G) (.d (.list ((bytI q).map irow_u8))) :=
    CVz.rep hs1 (.fz (by simp) hr1 (by rw [List.length_map, bytI_len])) hrep0
  obtain ⟨f1', f2', f3'⟩ := freeze_spec (k := cells.size) hblk
  have hlr : live H1 d := by unfold live; rw [hr1]; rfl
  have hb : (g.new d (some w.heap.size) G).β d = some w.heap.size := by simp [Gh.new, updO]
  obtain ⟨b1, b2, b3⟩ := hs1.gi.bd d w.heap.size hlr hb
  have hs3 := hs2.mark b1 (fun r' hl' hb' => by
    have hk := ((dropH_fr H1 d H1).get r').live hl'
    have := hs1.gi.inj r' d w.heap.size hk.2 hlr hb' hb
    subst this
    simp at hk) b3 f1' f2' f3' (by
    show (g.new d (some w.heap.size) G).ex w.heap.size = none
    cases hx : (g.new d (some w.heap.size) G).ex w.heap.size with
    | none => rfl
    | some o => exact absurd hb ((hs1.gi.ex w.heap.size o hx).2.2.2.2.2 d hlr))
  have hs4 := hs3.less (s' := s) (fun x => .inl rfl) (fun r => by
    show getH s.H r = getH (dropH d H1) r ∨ _
    rw [dropH_get, hH1, hget_put, goneH_get]
    by_cases e1 : r = d
    · right
      rw [e1]; exact hg0
    · rw [if_neg e1, if_neg (fun h => e1 h.symm)]; simp)
  unfold Oper.wp
  rw [hrun]
  refine hK ((g.new d (some w.heap.size) G).fr H1 [d] (w.drew.alloc (.cells cells e))) _ _ _ rfl ?_
  rw [hd]
  exact hs4.put hN (.one (hrep.move ⟨fun _ _ h => h, fun b o _ => f3' _⟩ (fun _ h => h) fun _ _ => ⟨rfl, rfl⟩))
end
section
variable {k : Wk} {w0 : Org} {ops : Array Oper} {l : List Oper} {Q : St → Prop} {F : List (Nat × SV)} {H : List (Nat × VH)} {d t t' ty : Nat} {p : String} {af : Array Edge} {x : Operand}
theorem v_sby {e by_ : Nat} {q : ByteArray} (hN : Nat.blt d k.N = true) (hst : strB k.P t = true) (ht : tyAt k.τ t' = .sl e 1 by_) (he : u8B k.P e = true) (hb : (Nat.blt 0 by_ && Nat.ble by_ 100000) = true) (hx : (St.mk F H).ev x = .one (.d (.str q))) (hfr : (St.mk F H).fresh d = true) (hg : getH H d = .gone) (hq : q.size ≤ 1000000000) (h : rg k w0 ops l Q ⟨(d, .one (.d (.list ((bytI q).map irow_u8)))) :: F, H⟩) : rg k w0 ops (⟨some d, .convert t t' x, ty, p, af, none⟩ :: l) Q ⟨F, H⟩ := by
  have h2 := Bool.and_eq_true_iff.1 hb
  exact rgI (irg_h rfl (opr_sby k.ok rfl rfl (nlt hN) hst ht he hx (nlt h2.1) (Nat.le_of_ble_eq_true h2.2) hq hfr hg) (rgO h))
end
section
variable {k : Wk} {w0 : Org} {ops : Array Oper} {l : List Oper} {Q : St → Prop} {F : List (Nat × SV)} {H : List (Nat × VH)} {d t : Nat} {p : String} {af : Array Edge}
end
section
variable {τ : List TyI} {fn : Func} {F : List (Nat × SV)} {H : List (Nat × VH)} {ty : TypeId} {cs cs' : List CV} {u : Value} {c : CV} {ex : Exit} {sv : SV}
end
end Go.Proofs.Ytcbppkfnfbdkhaa
/- A text is appended to bytes. -/
set_option linter.all false
set_option maxRecDepth 20000
namespace Go.Proofs.Ytcbppkfnfbdkhaa
open Go.RowKit Go.Shelf Go.Lib
section
variable {P : Program}
end
section
variable {P : Program} {T : TypeId} {N : Nat} {w0 : Org} {s : St} {o : Oper} {τ : List TyI}
end
section
variable {P : Program} {T : TypeId} {N : Nat} {w0 : Org} {s : St} {o : Oper} {τ : List TyI}
end
section
variable {k : Wk} {w0 : Org} {ops : Array Oper} {l : List Oper} {Q : St → Prop} {F F' : List (Nat × SV)} {H H' : List (Nat × VH)} {d t t' u : Nat} {x y : Operand} {p : String} {af : Array Edge}
end
section
variable {P : Program} {T : TypeId} {N : Nat} {w0 : Org} {s : St} {o : Oper} {τ : List TyI}
end
section
variable {k : Wk} {w0 : Org} {ops : Array Oper} {l : List Oper} {Q : St → Prop} {F F' : List (Nat × SV)} {H H' : List (Nat × VH)} {d t t' u : Nat} {x y : Operand} {p : String} {af : Array Edge}
end
end Go.Proofs.Ytcbppkfnfbdkhaa
/- To bytes whose room is used up, bytes are appended. -/
set_option linter.all false
set_option maxRecDepth 20000
namespace Go.Proofs.Ytcbppkfnfbdkhaa
open Go.RowKit Go.Shelf Go.Lib
section
variable {P : Program} {o : Oper} {a : Act} {w : World} {K K' : Act → World → Prop} {Q1 Q' : Exit → Act → World → Prop} {b : Nat}
end
section
variable {P : Program} {T : TypeId} {N : Nat} {w0 : Org} {g g' : Gh} {s : St} {a : Act} {w w' : World} {o : Oper} {τ : List TyI}
end
@[irreducible] def rgx (k : Wk) (w0 : Org) (b n : Nat) (ops : Array Oper) (l : List Oper) (Q : St → Prop) (s : St) : Prop :=
  ∀ g a w, Sim k.P k.T k.N w0 g s a w → (∃ A, a.eval (.tmp b) = .slice A n n) → ∀ Q' : Exit → Act → World → Prop, (∀ g' s' a' w', Q s' → Sim k.P k.T k.N w0 g' s' a' w' → Q' .normal a' w') → wpList k.P ops Q' l a w
def dstNe (b : Nat) (l : List Oper) : Bool := l.all fun o => match o.dst with | some d => !(Nat.beq d b) | none => true
section
variable {k : Wk} {w0 : Org} {ops : Array Oper} {l rest : List Oper} {Q : St → Prop} {F F' : List (Nat × SV)} {H H' : List (Nat × VH)} {d b n t : Nat} {p p' pa pb pc pd : String} {af af' afa afb afc afd : Array Edge} {s : St}
end
end Go.Proofs.Ytcbppkfnfbdkhaa
/- Results that are owned lists, of which only a property is known. -/
set_option linter.all false
set_option maxRecDepth 20000
namespace Go.Proofs.Ytcbppkfnfbdkhaa
open Go.RowKit Go.Shelf
theorem v_cut {G R : Prop} (hP : Hld (Chk False R)) : G := (chk_c hP).elim
section
variable {P : Program} {T : TypeId} {N : Nat} {w0 : Org} {s : St} {o : Oper}
end
section
variable {k : Wk} {w0 : Org} {ops : Array Oper} {l : List Oper} {Q : St → Prop} {F : List (Nat × SV)} {H : List (Nat × VH)} {d t : Nat} {p : String} {af : Array Edge} {α : Type} {φ : List α → Prop} {gg : α → List Cell}
end
section
variable {τ : List TyI} {fn : Func} {F : List (Nat × SV)} {H : List (Nat × VH)} {α : Type} {φ : List α → Prop} {f : α → List Cell} {xs : List α} {e sz : Nat} {t : Tmp}
end
end Go.Proofs.Ytcbppkfnfbdkhaa
/- Texts put together. -/
set_option linter.all false
set_option maxRecDepth 20000
namespace Go.Proofs.Ytcbppkfnfbdkhaa
open Go.RowKit Go.Shelf
section
variable {P : Program} {T : TypeId} {N : Nat} {w0 : Org} {s : St} {o : Oper}
theorem ope_cat {t t' : TypeId} {x y : Operand} {a b : ByteArray} (hu : strB P t = true) (ho : o.op = .binOp .add t x y t') (hx : s.ev x = .one (.d (.str a))) (hy : s.ev y = .one (.d (.str b))) (h : a.size + b.size ≤ 1000000000) : OpE P T N w0 s o (.one (.d (.str (a ++ b)))) :=
  ope_val fun g ac w hs => by
    have h1 := hs.ev x; rw [hx] at h1
    have h2 := hs.ev y; rw [hy] at h2
    have e : (eqGuard .add t x y (.string a) (.string b)).run P w = .ok () w := by unfold eqGuard; rfl
    refine ⟨.string (a ++ b), ?_, .one (.d (.str _ (by rw [ByteArray.size_append]; unfold maxLen; omega)))⟩
    simp [execOp, ho, h1.str_inv.1, h2.str_inv.1, Sem.run_bind, e, binOp, Op.stringOp, Result.andThen_ok, Sem.run_pure]
    omega
end
section
variable {k : Wk} {w0 : Org} {ops : Array Oper} {l : List Oper} {Q : St → Prop} {F : List (Nat × SV)} {H : List (Nat × VH)} {d t ty tb : Nat} {x y : Operand} {p : String} {af : Array Edge} {a b : ByteArray}
theorem v_cat (hN : Nat.blt d k.N = true) (hu : strB k.P t = true) (hx : (St.mk F H).ev x = .one (.d (.str a))) (hy : (St.mk F H).ev y = .one (.d (.str b))) (hc : a.size + b.size ≤ 1000000000) (h : rg k w0 ops l Q ⟨(d, .one (.d (.str (a ++ b)))) :: F, H⟩) : rg k w0 ops (⟨some d, .binOp .add t x y tb, ty, p, af, none⟩ :: l) Q ⟨F, H⟩ :=
  rgI (irg_e rfl rfl (nlt hN) (ope_cat hu rfl hx hy hc) (rgO h))
end
end Go.Proofs.Ytcbppkfnfbdkhaa
/- Calls that change blocks they were handed, and hand lists back. -/
set_option linter.all false
set_option maxRecDepth 20000
namespace Go.Proofs.Ytcbppkfnfbdkhaa
open Go.RowKit Go.Shelf
def CV.upn (ρ : List Nat) : CV → CV
  | .d x => .d x
  | .nil => .nil
  | .sl r n sz => .sl (ρ.getD r 0) n sz
  | .ref r off => .ref (ρ.getD r 0) off
  | .u => .u
  | .el _ _ _ _ => .u
  | .slp _ _ _ _ => .u
  | .rp _ => .u
  | .clo _ _ => .u
  | .fn _ => .u
  | .tape => .u
def CV.okn (m : Nat) (k : Bool) : CV → Bool
  | .d _ => true
  | .nil => true
  | .sl r _ _ => Nat.blt r m && !(k && Nat.beq r 0)
  | .ref r _ => Nat.blt r m
  | .u => true
  | .el _ _ _ _ => false
  | .slp _ _ _ _ => false
  | .rp _ => false
  | .clo _ _ => false
  | .fn _ => false
  | .tape => false
def CV.oknL (m : Nat) (k : Bool) : List CV → Bool
  | [] => true
  | c :: l => c.okn m k && CV.oknL m k l
def CV.upnL (ρ : List Nat) : List CV → List CV
  | [] => []
  | c :: l => c.upn ρ :: CV.upnL ρ l
mutual
def SV.upn (ρ : List Nat) : SV → SV
  | .u => .u
  | .one c => .one (c.upn ρ)
  | .agg cs => .agg (CV.upnL ρ cs)
  | .tup vs => .tup (SV.upnL ρ vs)
def SV.upnL (ρ : List Nat) : List SV → List SV
  | [] => []
  | v :: l => v.upn ρ :: SV.upnL ρ l
end
mutual
def SV.okn (m : Nat) (k : Bool) : SV → Bool
  | .u => true
  | .one c => c.okn m k
  | .agg cs => CV.oknL m k cs
  | .tup vs => SV.oknL m k vs
def SV.oknL (m : Nat) (k : Bool) : List SV → Bool
  | [] => true
  | v :: l => v.okn m k && SV.oknL m k l
end
def VH.upn (ρ : List Nat) : VH → VH
  | .arr e sz rows => .arr e sz rows
  | .blk t cs => .blk t (CV.upnL ρ cs)
  | .gone => .gone
  | .pin _ _ => .gone
  | .tbl _ _ _ _ => .gone
def VH.okn (m : Nat) (k b : Bool) : VH → Bool
  | .arr _ _ _ => !b
  | .blk _ cs => CV.oknL m k cs
  | .gone => false
  | .pin _ _ => false
  | .tbl _ _ _ _ => false
theorem CV.oknL_get {m : Nat} {k : Bool} {cs : List CV} (h : CV.oknL m k cs = true) {j : Nat} {c : CV} (hj : cs[j]? = some c) : c.okn m k = true := by
  induction cs generalizing j with
  | nil => simp at hj
  | cons x cs ih =>
    simp only [CV.oknL, Bool.and_eq_true] at h
    cases j with
    | zero => simp at hj; subst hj; exact h.1
    | succ j => exact ih h.2 (by simpa using hj)
theorem SV.oknL_get {m : Nat} {k : Bool} {cs : List SV} (h : SV.oknL m k cs = true) {j : Nat} {c : SV} (hj : cs[j]? = some c) : c.okn m k = true := by
  induction cs generalizing j with
  | nil => simp at hj
  | cons x cs ih =>
    simp only [SV.oknL, Bool.and_eq_true] at h
    cases j with
    | zero => simp at hj; subst hj; exact h.1
    | succ j => exact ih h.2 (by simpa using hj)
theorem CV.upnL_get (ρ : List Nat) (cs : List CV) (j : Nat) : (CV.upnL ρ cs)[j]? = (cs[j]?).map (CV.upn ρ) := by
  induction cs generalizing j with
  | nil => rfl
  | cons x cs ih => cases j with
    | zero => rfl
    | succ j => simpa [CV.upnL] using ih j
theorem CV.upnL_len (ρ : List Nat) (cs : List CV) : (CV.upnL ρ cs).length = cs.length := by
  induction cs with
  | nil => rfl
  | cons x cs ih => simp [CV.upnL, ih]
theorem SV.upnL_get (ρ : List Nat) (cs : List SV) (j : Nat) : (SV.upnL ρ cs)[j]? = (cs[j]?).map (SV.upn ρ) := by
  induction cs generalizing j with
  | nil => rfl
  | cons x cs ih => cases j with
    | zero => rfl
    | succ j => simpa [SV.upnL] using ih j
theorem SV.upnL_len (ρ : List Nat) (cs : List SV) : (SV.upnL ρ cs).length = cs.length := by
  induction cs with
  | nil => rfl
  | cons x cs ih => simp [SV.upnL, ih]
structure Names (ρ : List Nat) (k : Bool) (gl gu : Gh) : Prop where
  β : ∀ i q, ρ[i]? = some q → gu.β q = gl.β i
  κ : ∀ i q, ρ[i]? = some q → (k = true → i ≠ 0) → gu.κ q = gl.κ i
theorem okn_sl {m : Nat} {k : Bool} {r n sz : Nat} (h : (CV.sl r n sz).okn m k = true) : r < m ∧ (k = true → r ≠ 0) := by
  simp only [CV.okn, Bool.and_eq_true, Bool.not_eq_true', beq_eq] at h
  refine ⟨blt_lt h.1, fun hk e => ?_⟩
  subst hk e
  simp at h
theorem getD_some {ρ : List Nat} {r : Nat} (h : r < ρ.length) : ρ[r]? = some (ρ.getD r 0) := by
  rw [List.getD_eq_getElem?_getD, List.getElem?_eq_getElem h]; rfl
theorem RepCV.down {P : Program} {gl gu : Gh} {w : World} {ρ : List Nat} {k : Bool} (hn : Names ρ k gl gu) (hR : gl.Rd = gu.Rd) {v : Value} {c : CV} (ho : c.okn ρ.length k = true) (h : RepCV P gu w v (c.upn ρ)) : RepCV P gl w v c := by
  cases c with
  | u => exact .u h.one
  | d x => cases h; rename_i h; exact .d (hR ▸ h)
  | nil => cases h; exact .nil
  | sl r n sz =>
    obtain ⟨o1, o2⟩ := okn_sl ho
    have hq := getD_some o1
    have e1 := hn.β _ _ hq
    have e2 := hn.κ _ _ hq o2
    rcases RepCV.sl_inv h with ⟨rfl, rfl, hb⟩ | ⟨b, hb, h1, h2, rfl⟩
    · exact .slv _ (e1.symm.trans hb)
    · have := RepCV.sl (P := P) (g := gl) (w := w) (r := r) (b := b) n sz (e1.symm.trans hb) (by rw [← e2]; exact h1) (by rw [← e2]; exact h2)
      rwa [← e2] at this
  | ref r off =>
    have o1 : r < ρ.length := blt_lt ho
    obtain ⟨b, hb, rfl⟩ := RepCV.ref_inv h
    exact .ref _ ((hn.β _ _ (getD_some o1)).symm.trans hb)
  | el _ _ _ _ => cases ho
  | slp _ _ _ _ => cases ho
  | rp _ => cases ho
  | clo _ _ => cases ho
  | fn _ => cases ho
  | tape => cases ho
theorem RepCV.upn {P : Program} {gl gu : Gh} {w : World} {ρ : List Nat} {k : Bool} (hn : Names ρ k gl gu) (hR : gl.Rd = gu.Rd) {v : Value} {c : CV} (ho : c.okn ρ.length k = true) (h : RepCV P gl w v c) : RepCV P gu w v (c.upn ρ) := by
  cases c with
  | u => exact .u h.one
  | d x => cases h; rename_i h; exact .d (hR ▸ h)
  | nil => cases h; exact .nil
  | sl r n sz =>
    obtain ⟨o1, o2⟩ := okn_sl ho
    have hq := getD_some o1
    have e1 := hn.β _ _ hq
    have e2 := hn.κ _ _ hq o2
    rcases h.sl_inv with ⟨rfl, rfl, hb⟩ | ⟨b, hb, h1, h2, rfl⟩
    · exact .slv _ (e1.trans hb)
    · have := RepCV.sl (P := P) (g := gu) (w := w) (r := ρ.getD r 0) (b := b) n sz (e1.trans hb) (by rw [e2]; exact h1) (by rw [e2]; exact h2)
      rwa [e2] at this
  | ref r off =>
    have o1 : r < ρ.length := blt_lt ho
    obtain ⟨b, hb, rfl⟩ := h.ref_inv
    exact .ref _ ((hn.β _ _ (getD_some o1)).trans hb)
  | el _ _ _ _ => cases ho
  | slp _ _ _ _ => cases ho
  | rp _ => cases ho
  | clo _ _ => cases ho
  | fn _ => cases ho
  | tape => cases ho
theorem RepSV.upn {P : Program} {gl gu : Gh} {w : World} {ρ : List Nat} {k : Bool} (hn : Names ρ k gl gu) (hR : gl.Rd = gu.Rd) {v : Value} {c : SV} (h : RepSV P gl w v c) (ho : c.okn ρ.length k = true) : RepSV P gu w v (c.upn ρ) := by
  induction h with
  | u v => exact .u v
  | one h => exact .one (h.upn hn hR ho)
  | agg vs cs hs h =>
    refine .agg vs _ (by rw [CV.upnL_len]; exact hs) fun j v c' h1 h2 => ?_
    rw [CV.upnL_get] at h2
    cases hc : cs[j]? with
    | none => rw [hc] at h2; cases h2
    | some c =>
      rw [hc] at h2; simp at h2; subst h2
      exact (h j v c h1 hc).upn hn hR (CV.oknL_get ho hc)
  | tup vs ss hs h ih =>
    refine .tup vs _ (by rw [SV.upnL_len]; exact hs) fun j v c' h1 h2 => ?_
    rw [SV.upnL_get] at h2
    cases hc : ss[j]? with
    | none => rw [hc] at h2; cases h2
    | some c =>
      rw [hc] at h2; simp at h2; subst h2
      exact ih j v c h1 hc (SV.oknL_get ho hc)
theorem HeapOK.down {P : Program} {gl gu : Gh} {w : World} {ρ : List Nat} {k : Bool} (hn : Names ρ k gl gu) (hR : gl.Rd = gu.Rd) {i q : Nat} {vh : VH} (hi : ρ[i]? = some q) {b : Bool} (hb : b = (k && Nat.beq i 0)) (ho : vh.okn ρ.length k b = true) (h : HeapOK P gu w q (vh.upn ρ)) : HeapOK P gl w i vh := by
  cases vh with
  | gone => cases ho
  | pin _ _ => cases ho
  | tbl _ _ _ _ => cases ho
  | blk t cs =>
    obtain ⟨bb, vals, h1, h2, h3, h4⟩ := h
    refine ⟨bb, vals, (hn.β _ _ hi).symm.trans h1, h2, by rw [h3, CV.upnL_len], fun j v c hv hc => ?_⟩
    exact RepCV.down hn hR (CV.oknL_get ho hc) (h4 j v (c.upn ρ) hv (by rw [CV.upnL_get, hc]; rfl))
  | arr e sz rows =>
    have e1 := hn.β _ _ hi
    have e2 := hn.κ _ _ hi fun hk e => by subst hk e; subst hb; cases ho
    obtain ⟨h0, h⟩ := h
    refine ⟨h0, ?_⟩
    rcases h with ⟨h1, h2⟩ | ⟨bb, vals, h1, h2, h3, h4, h5, h6⟩
    · exact .inl ⟨e1.symm.trans h1, h2⟩
    · refine .inr ⟨bb, vals, e1.symm.trans h1, h2, by rw [← e2]; exact h3, by rw [← e2]; exact h4, by rw [← e2]; exact h5, fun i j row x hi hj => ?_⟩
      obtain ⟨u, hu, hr⟩ := h6 i j row x hi hj
      exact ⟨u, hu, hR ▸ hr⟩
theorem HeapOK.upn {P : Program} {gl gu : Gh} {w : World} {ρ : List Nat} {k : Bool} (hn : Names ρ k gl gu) (hR : gl.Rd = gu.Rd) {i q : Nat} {vh : VH} (hi : ρ[i]? = some q) {b : Bool} (hb : b = (k && Nat.beq i 0)) (ho : vh.okn ρ.length k b = true) (h : HeapOK P gl w i vh) : HeapOK P gu w q (vh.upn ρ) := by
  cases vh with
  | gone => cases ho
  | pin _ _ => cases ho
  | tbl _ _ _ _ => cases ho
  | blk t cs =>
    obtain ⟨bb, vals, h1, h2, h3, h4⟩ := h
    refine ⟨bb, vals, (hn.β _ _ hi).trans h1, h2, by rw [h3, CV.upnL_len], fun j v c' hv hc' => ?_⟩
    rw [CV.upnL_get] at hc'
    cases hc : cs[j]? with
    | none => rw [hc] at hc'; cases hc'
    | some c =>
      rw [hc] at hc'; simp at hc'; subst hc'
      exact (h4 j v c hv hc).upn hn hR (CV.oknL_get ho hc)
  | arr e sz rows =>
    have e1 := hn.β _ _ hi
    have e2 := hn.κ _ _ hi fun hk e => by subst hk e; subst hb; cases ho
    obtain ⟨h0, h⟩ := h
    refine ⟨h0, ?_⟩
    rcases h with ⟨h1, h2⟩ | ⟨bb, vals, h1, h2, h3, h4, h5, h6⟩
    · exact .inl ⟨e1.trans h1, h2⟩
    · refine .inr ⟨bb, vals, e1.trans h1, h2, by rw [e2]; exact h3, by rw [e2]; exact h4, by rw [e2]; exact h5, fun i j row x hi hj => ?_⟩
      obtain ⟨u, hu, hr⟩ := h6 i j row x hi hj
      exact ⟨u, hu, hR ▸ hr⟩
theorem VH.upn_live {ρ : List Nat} {vh : VH} {m : Nat} {k b : Bool} (h : vh.okn m k b = true) : (vh.upn ρ).live = true := by cases vh <;> first | rfl | cases h
section
variable {P : Program} {T : TypeId} {N : Nat} {w0 : Org} {g g' : Gh} {s s' : St} {a : Act} {w w' : World} {o : Oper} {τ : List TyI}
end
end Go.Proofs.Ytcbppkfnfbdkhaa
/- Calls that change blocks they were handed, and hand lists back: the caller. -/
set_option linter.all false
set_option maxRecDepth 20000
namespace Go.Proofs.Ytcbppkfnfbdkhaa
open Go.RowKit Go.Shelf
def inv : List Nat → Nat → Nat → Option Nat
  | [], _, _ => none
  | q :: l, i, x => if q = x then some i else inv l (i + 1) x
def Gh.lendN (g : Gh) (ρ : List Nat) : Gh := ⟨fun i => (ρ[i]?).bind g.β, fun i => match ρ[i]? with | some q => g.κ q | none => g.κ i, g.Rd, g.tp, g.tl, fun _ => none⟩
def Org.lendN (g : Gh) (w : World) (ρ : List Nat) : Org := ⟨w, g.Rd, g.tp, g.tl, fun k => ∃ q ∈ ρ, g.β q = some k⟩
theorem names_lend (g : Gh) (ρ : List Nat) (k : Bool) : Names ρ k (g.lendN ρ) g := ⟨fun i q h => by simp [Gh.lendN, h], fun i q h _ => by simp [Gh.lendN, h]⟩
def Gh.back (g g' : Gh) (ρ : List Nat) (k : Bool) : Gh := ⟨fun x => match inv ρ 0 x with | some i => g'.β i | none => g.β x, fun x => match inv ρ 0 x with | some i => bif k && Nat.beq i 0 then g.κ x else g'.κ i | none => g.κ x, g'.Rd, g.tp, g.tl, g.ex⟩
structure Handed (s : St) (ρ : List Nat) (k : Bool) (hh : List VH) : Prop where
  nd : ρ.Nodup
  len : hh.length = ρ.length
  h : ∀ (i q : Nat) (vh : VH), ρ[i]? = some q → hh[i]? = some vh → getH s.H q = vh.upn ρ ∧ vh.okn ρ.length k (k && Nat.beq i 0) = true
section
variable {P : Program} {T : TypeId} {N : Nat} {w0 : Org} {g g' : Gh} {s s' : St} {a : Act} {w w' : World} {o : Oper} {τ : List TyI} {ρ : List Nat} {k : Bool} {hh hh' : List VH} {u : Value}
theorem Handed.get (h : Handed s ρ k hh) {i q : Nat} (hi : ρ[i]? = some q) : ∃ vh, hh[i]? = some vh ∧ getH s.H q = vh.upn ρ ∧ vh.okn ρ.length k (k && Nat.beq i 0) = true ∧ live s.H q := by
  have := (List.getElem?_eq_some_iff.1 hi).1
  have hv : hh[i]? = some (hh[i]'(by have := h.len; omega)) := List.getElem?_eq_getElem _
  obtain ⟨h1, h2⟩ := h.h i q _ hi hv
  exact ⟨_, hv, h1, h2, by unfold live; rw [h1]; exact VH.upn_live h2⟩
def SV.noN (m : Nat) (v : SV) : Bool := (List.range m).all fun i => !v.has i
inductive ArgN (P : Program) (T : TypeId) (s : St) (ρ : List Nat) (z : Bool) : List Operand → List SV → Prop where
  | nil : ArgN P T s ρ z [] []
  | pl {x : Operand} {v : SV} {l : List Operand} {l' : List SV} (h : PsS P T s.H true (s.ev x) v) (hn : v.noN ρ.length = true) (hl : ArgN P T s ρ z l l') : ArgN P T s ρ z (x :: l) (v :: l')
  | nm {x : Operand} {c c' : CV} {l : List Operand} {l' : List SV} (h : s.ev x = .one c') (hc : c.upn ρ = c') (ho : c.okn ρ.length false = true) (hl : ArgN P T s ρ z l l') : ArgN P T s ρ z (x :: l) (.one c :: l')
  | nz {x : Operand} {i sz : Nat} {l : List Operand} {l' : List SV} (hz : z = true) (h : s.ev x = .one .nil) (hi : Nat.blt i ρ.length = true) (hl : ArgN P T s ρ z l l') : ArgN P T s ρ z (x :: l) (.one (.sl i 0 sz) :: l')
theorem psG_lendN {v : Value} {sv : SV} {H : List (Nat × VH)} (h : RepSV P (psG g H w true) w v sv) (h0 : sv.noN ρ.length = true) : RepSV P (g.lendN ρ) w v sv := by
  refine h.move (g' := g.lendN ρ) ⟨fun _ _ h => h, fun _ _ _ => rfl⟩ (fun _ h => h) fun q hq => ?_
  have : ρ[q]? = none := by
    cases hr : ρ[q]? with
    | none => rfl
    | some x =>
      have hlt := (List.getElem?_eq_some_iff.1 hr).1
      unfold SV.noN at h0
      rw [List.all_eq_true] at h0
      have := h0 q (List.mem_range.2 hlt)
      rw [hq] at this; cases this
  simp [Gh.lendN, this, psG]
theorem ArgN.rep {z : Bool} {l : List Operand} {l' : List SV} (h : ArgN P T s ρ z l l') (hs : Sim P T N w0 g s a w) (hz : z = true → ∀ (i q : Nat), ρ[i]? = some q → g.β q = none) : l.length = l'.length ∧ ∀ (j : Nat) (v : Value) (c' : SV), (l.map a.eval)[j]? = some v → l'[j]? = some c' → RepSV P (g.lendN ρ) w v c' := by
  induction h with
  | nil => simp
  | pl h hn hl ih =>
    obtain ⟨ih1, ih2⟩ := ih
    refine ⟨by simp [ih1], fun j v c' h1 h2 => ?_⟩
    cases j with
    | zero => simp at h1 h2; subst h1 h2; exact psG_lendN (h.rep hs (hs.ev _)) hn
    | succ j => exact ih2 j v c' (by simpa using h1) (by simpa using h2)
  | @nm x c c1 l l' h hc ho hl ih =>
    obtain ⟨ih1, ih2⟩ := ih
    refine ⟨by simp [ih1], fun j v c' h1 h2 => ?_⟩
    cases j with
    | zero =>
      simp at h1 h2; subst h1 h2 hc
      have := hs.ev x; rw [h] at this
      exact .one (RepCV.down (names_lend g ρ false) rfl ho this.one_inv)
    | succ j => exact ih2 j v c' (by simpa using h1) (by simpa using h2)
  | @nz x i sz l l' hzt h hi hl ih =>
    obtain ⟨ih1, ih2⟩ := ih
    refine ⟨by simp [ih1], fun j v c' h1 h2 => ?_⟩
    cases j with
    | zero =>
      simp at h1 h2; subst h1 h2
      have := hs.ev x; rw [h] at this
      have e := this.one_inv
      generalize a.eval x = v at e
      cases e
      have hq := getD_some (blt_lt hi)
      exact .one (.slv _ (((names_lend g ρ false).β _ _ hq).symm.trans (hz hzt i _ hq)))
    | succ j => exact ih2 j v c' (by simpa using h1) (by simpa using h2)
end
section
variable {k : Wk} {w0 : Org} {ops : Array Oper} {l : List Oper} {Q : St → Prop} {F F' : List (Nat × SV)} {H : List (Nat × VH)} {d t : Nat} {p : String} {af : Array Edge}
end
theorem CVleL.rfl_ (l : List CV) : CVleL [] l l := by
  induction l with
  | nil => exact .nil
  | cons c l ih => exact .cons (CVle.rfl_ c) ih
section
variable {τ : List TyI} {fn : Func} {F : List (Nat × SV)} {H : List (Nat × VH)} {α : Type} {f : α → List Cell} {xs x0 : List α} {e sz n : Nat} {u : Value} {ex : Exit} {t t1 t2 : Tmp} {c1 c2 d1 d2 : Cell}
end
end Go.Proofs.Ytcbppkfnfbdkhaa
/- More operations that may be taken first. -/
set_option linter.all false
set_option maxRecDepth 20000
namespace Go.Proofs.Ytcbppkfnfbdkhaa
open Go.RowKit Go.Shelf
section
variable {k : Wk} {w0 : Org} {s : St} {o : Oper}
theorem f_cat {d t ty tb : Nat} {x y : Operand} {p : String} {af : Array Edge} {gd : Option (Nat × Bool)} {a b : ByteArray} (hu : strB k.P t = true) (hx : s.ev x = .one (.d (.str a))) (hy : s.ev y = .one (.d (.str b))) (hc : a.size + b.size ≤ 1000000000) : OpE k.P k.T k.N w0 s ⟨some d, .binOp .add t x y tb, ty, p, af, gd⟩ (.one (.d (.str (a ++ b)))) := ope_cat hu rfl hx hy hc
end
section
variable {P : Program} {T : TypeId} {N : Nat} {w0 : Org} {g : Gh} {s : St} {a : Act} {w : World}
end
section
variable {k : Wk} {w0 : Org} {ops : Array Oper} {l : List Oper} {Q : St → Prop} {F F' : List (Nat × SV)} {H : List (Nat × VH)} {d t : Nat} {p : String} {af : Array Edge}
end
end Go.Proofs.Ytcbppkfnfbdkhaa
/- A difference may be taken first. -/
set_option linter.all false
set_option maxRecDepth 20000
namespace Go.Proofs.Ytcbppkfnfbdkhaa
open Go.RowKit Go.Shelf
section
variable {k : Wk} {w0 : Org} {s : St} {o : Oper}
end
end Go.Proofs.Ytcbppkfnfbdkhaa
/- To bytes whose room is used up, bytes are appended that may be none; what comes is only read from then on. -/
set_option linter.all false
set_option maxRecDepth 20000
namespace Go.Proofs.Ytcbppkfnfbdkhaa
open Go.RowKit Go.Shelf Go.Lib
section
variable {k : Wk} {w0 : Org} {ops : Array Oper} {l rest : List Oper} {Q : St → Prop} {F F' : List (Nat × SV)} {H H' : List (Nat × VH)} {d b n t : Nat} {p p' pa pb pc pd : String} {af af' afa afb afc afd : Array Edge} {s : St}
end
end Go.Proofs.Ytcbppkfnfbdkhaa
/- Parts of texts. -/
set_option linter.all false
set_option maxRecDepth 20000
namespace Go.Proofs.Ytcbppkfnfbdkhaa
open Go.RowKit Go.Shelf
section
variable {P : Program} {T : TypeId} {N : Nat} {w0 : Org} {s : St} {o : Oper}
theorem ope_strh {t : TypeId} {x z : Operand} {a : ByteArray} {kk : IntKind} {n : Int} (hu : strB P t = true) (ho : o.op = .slice t x none (some z) none) (hx : s.ev x = .one (.d (.str a))) (hz : s.ev z = .one (.d (.int kk n))) (h : 0 ≤ n ∧ n ≤ (a.size : Int)) : OpE P T N w0 s o (.one (.d (.str (a.extract 0 n.toNat)))) :=
  ope_val fun g ac w hs => by
    have h1 := hs.ev x; rw [hx] at h1
    have h2 := hs.ev z; rw [hz] at h2
    have hs' := strB_spec hu
    refine ⟨.string (a.extract 0 n.toNat), ?_, .one (.d (.str _ (by have := h1.str_inv.2; simp only [ByteArray.size_extract]; omega)))⟩
    simp [execOp, ho, h1.str_inv.1, h2.int_inv.1, run_sliceAt_string w t _ _ _ _ hs', run_slice_string_to_if w t a kk n hs', h, Result.andThen]
theorem ope_strl {t : TypeId} {x y : Operand} {a : ByteArray} {kk : IntKind} {n : Int} (hu : strB P t = true) (ho : o.op = .slice t x (some y) none none) (hx : s.ev x = .one (.d (.str a))) (hy : s.ev y = .one (.d (.int kk n))) (h : 0 ≤ n ∧ n ≤ (a.size : Int)) : OpE P T N w0 s o (.one (.d (.str (a.extract n.toNat a.size)))) :=
  ope_val fun g ac w hs => by
    have h1 := hs.ev x; rw [hx] at h1
    have h2 := hs.ev y; rw [hy] at h2
    have hs' := strB_spec hu
    refine ⟨.string (a.extract n.toNat a.size), ?_, .one (.d (.str _ (by have := h1.str_inv.2; simp only [ByteArray.size_extract]; omega)))⟩
    simp [execOp, ho, h1.str_inv.1, h2.int_inv.1, run_sliceAt_string w t _ _ _ _ hs', run_slice_string_from_if w t a kk n hs', h, Result.andThen]
end
section
variable {k : Wk} {w0 : Org} {ops : Array Oper} {l : List Oper} {Q : St → Prop} {F : List (Nat × SV)} {H : List (Nat × VH)} {d t ty : Nat} {x y : Operand} {p : String} {af : Array Edge} {a : ByteArray} {kk : IntKind} {n : Int}
theorem v_strh (hN : Nat.blt d k.N = true) (hu : strB k.P t = true) (hx : (St.mk F H).ev x = .one (.d (.str a))) (hy : (St.mk F H).ev y = .one (.d (.int kk n))) (hc : 0 ≤ n ∧ n ≤ (a.size : Int)) (h : rg k w0 ops l Q ⟨(d, .one (.d (.str (a.extract 0 n.toNat)))) :: F, H⟩) : rg k w0 ops (⟨some d, .slice t x none (some y) none, ty, p, af, none⟩ :: l) Q ⟨F, H⟩ :=
  rgI (irg_e rfl rfl (nlt hN) (ope_strh hu rfl hx hy hc) (rgO h))
theorem v_strl (hN : Nat.blt d k.N = true) (hu : strB k.P t = true) (hx : (St.mk F H).ev x = .one (.d (.str a))) (hy : (St.mk F H).ev y = .one (.d (.int kk n))) (hc : 0 ≤ n ∧ n ≤ (a.size : Int)) (h : rg k w0 ops l Q ⟨(d, .one (.d (.str (a.extract n.toNat a.size)))) :: F, H⟩) : rg k w0 ops (⟨some d, .slice t x (some y) none none, ty, p, af, none⟩ :: l) Q ⟨F, H⟩ :=
  rgI (irg_e rfl rfl (nlt hN) (ope_strl hu rfl hx hy hc) (rgO h))
end
end Go.Proofs.Ytcbppkfnfbdkhaa
/- Function values that are only called: as functions of data. -/
set_option linter.all false
set_option maxRecDepth 20000
namespace Go.Proofs.Ytcbppkfnfbdkhaa
open Go.RowKit Go.Shelf
section
variable {P : Program} {T : TypeId} {N : Nat} {w0 : Org} {s : St} {o : Oper}
theorem clo_fn {g : Gh} {w : World} {v : Value} {f : FuncId} {cs : List CV} {p : List DV → Option Cell} (h : RepCV P g w v (.clo f cs)) (hpl : ∀ r, CV.hasL r cs = false) (he : Enters P f) (hn : CV.ntL cs = true) (hf : FnSpec P T f cs p) : RepCV P g w v (.fn p) := by
  cases h with
  | clo f vs cs hs' hr =>
    have hok := fnspec_ok (P := P) (T := T) (w := w) (p := p) (vs := vs) (⟨fun _ => none, g.κ, g.Rd, none, g.tl, fun _ => none⟩ : Gh) (fun _ => rfl) he hf (by omega) (fun j v c h1 h2 =>
      (hr j v c h1 h2).moveN (g' := ⟨fun _ => none, g.κ, g.Rd, none, g.tl, fun _ => none⟩) (Fut.refl _ _) (CV.ntL_get hn h2) fun r hc => by
        have := CV.hasL_get h2 hc
        rw [hpl r] at this; cases this) hn
    exact .fn hok
theorem ope_mfn {f : FuncId} {caps : Array Operand} {cs : List CV} {p : List DV → Option Cell} (ho : o.op = .makeFunc (.func f) #[] caps) (hc : evL s caps.toList = some cs) (hpl : ∀ r, CV.hasL r cs = false) (he : Enters P f) (hn : CV.ntL cs = true) (hf : FnSpec P T f cs p) : OpE P T N w0 s o (.one (.fn p)) :=
  ope_val fun g a w hs => by
    obtain ⟨k1, k2⟩ := evL_rep hs _ _ hc
    refine ⟨.func (.func f) #[] (caps.map a.eval), by simp [execOp, ho, Instr.makeFunc], .one (clo_fn (T := T) (.clo f _ cs (by simpa using k1) fun j v c hv hc' => k2 j v c (by simpa using hv) hc') hpl he hn hf)⟩
end
section
variable {k : Wk} {w0 : Org} {ops : Array Oper} {l : List Oper} {Q : St → Prop} {s : St} {d t : Nat} {p : String} {af : Array Edge}
theorem v_mfn {F : List (Nat × SV)} {H : List (Nat × VH)} {f : FuncId} {caps : Array Operand} {cs : List CV} {pp : List DV → Option Cell} (hf : Enters k.P f ∧ CV.ntL cs = true ∧ FnSpec k.P k.T f cs pp) (hN : Nat.blt d k.N = true) (hc : evL ⟨F, H⟩ caps.toList = some cs) (hpl : ∀ r, CV.hasL r cs = false) (h : rg k w0 ops l Q ⟨(d, .one (.fn pp)) :: F, H⟩) : rg k w0 ops (⟨some d, .makeFunc (.func f) #[] caps, t, p, af, none⟩ :: l) Q ⟨F, H⟩ :=
  rgI (irg_e rfl rfl (nlt hN) (ope_mfn rfl hc hpl hf.1 hf.2.1 hf.2.2) (rgO h))
theorem f_callf {o : Oper} {y : Operand} {pp : List DV → Option Cell} {xs : Array Operand} {ts : Array TypeId} {args : List DV} {r : Cell} (ho : o.op = .call { callee := .value y, args := xs, argTypes := ts }) (hy : s.ev y = .one (.fn pp)) (ha : dvL s xs.toList args) (hp : pp args = some r) (hw : ∀ k n, r = .int k n → (Lit.int k n).wf = true) (hz : ∀ b, r = .str b → b.size ≤ maxLen) : OpE k.P k.T k.N w0 s o (.one (.d r)) :=
  ope_call_fn ho hy ha hp hw hz
end
end Go.Proofs.Ytcbppkfnfbdkhaa
/- Texts in order. -/
set_option linter.all false
set_option maxRecDepth 20000
namespace Go.Proofs.Ytcbppkfnfbdkhaa
open Go.RowKit Go.Shelf
def sLt (a b : ByteArray) : Bool := Go.Op.bytesLess a.toList b.toList
section
variable {P : Program} {T : TypeId} {N : Nat} {w0 : Org} {s : St} {o : Oper}
theorem ope_strlt {t t' : TypeId} {x y : Operand} {a b : ByteArray} (ho : o.op = .binOp .lss t x y t') (hx : s.ev x = .one (.d (.str a))) (hy : s.ev y = .one (.d (.str b))) : OpE P T N w0 s o (.one (.d (.bool (sLt a b)))) :=
  ope_scalar (v := .bool (sLt a b)) (fun g ac w hs => by
    have h1 := hs.ev x; rw [hx] at h1
    have h2 := hs.ev y; rw [hy] at h2
    have e : (eqGuard .lss t x y (.string a) (.string b)).run P w = .ok () w := by unfold eqGuard; rfl
    have e2 : (binOp .lss t (.string a) (.string b)).run P w = .ok (.bool (sLt a b)) w := by simp [binOp, Op.stringOp, sLt]
    simp only [execOp, ho, h1.str_inv.1, h2.str_inv.1, Sem.run_bind, e, e2, Result.andThen_ok, Sem.run_pure]) rfl (by simp) (by simp)
theorem ope_strgt {t t' : TypeId} {x y : Operand} {a b : ByteArray} (ho : o.op = .binOp .gtr t x y t') (hx : s.ev x = .one (.d (.str a))) (hy : s.ev y = .one (.d (.str b))) : OpE P T N w0 s o (.one (.d (.bool (!(sLt a b || decide (a = b)))))) :=
  ope_scalar (v := .bool (!(sLt a b || decide (a = b)))) (fun g ac w hs => by
    have h1 := hs.ev x; rw [hx] at h1
    have h2 := hs.ev y; rw [hy] at h2
    have e : (eqGuard .gtr t x y (.string a) (.string b)).run P w = .ok () w := by unfold eqGuard; rfl
    have e2 : (binOp .gtr t (.string a) (.string b)).run P w = .ok (.bool (!(sLt a b || decide (a = b)))) w := by
      simp [binOp, Op.stringOp, sLt, ← ba_list]
    simp only [execOp, ho, h1.str_inv.1, h2.str_inv.1, Sem.run_bind, e, e2, Result.andThen_ok, Sem.run_pure]) rfl (by simp) (by simp)
end
section
variable {k : Wk} {w0 : Org} {ops : Array Oper} {l : List Oper} {Q : St → Prop} {F : List (Nat × SV)} {H : List (Nat × VH)} {d t ty tb : Nat} {x y : Operand} {p : String} {af : Array Edge} {a b : ByteArray}
theorem v_strlt (hN : Nat.blt d k.N = true) (hx : (St.mk F H).ev x = .one (.d (.str a))) (hy : (St.mk F H).ev y = .one (.d (.str b))) (h : rg k w0 ops l Q ⟨(d, .one (.d (.bool (sLt a b)))) :: F, H⟩) : rg k w0 ops (⟨some d, .binOp .lss t x y tb, ty, p, af, none⟩ :: l) Q ⟨F, H⟩ :=
  rgI (irg_e rfl rfl (nlt hN) (ope_strlt rfl hx hy) (rgO h))
theorem v_strgt (hN : Nat.blt d k.N = true) (hx : (St.mk F H).ev x = .one (.d (.str a))) (hy : (St.mk F H).ev y = .one (.d (.str b))) (h : rg k w0 ops l Q ⟨(d, .one (.d (.bool (!(sLt a b || decide (a = b)))))) :: F, H⟩) : rg k w0 ops (⟨some d, .binOp .gtr t x y tb, ty, p, af, none⟩ :: l) Q ⟨F, H⟩ :=
  rgI (irg_e rfl rfl (nlt hN) (ope_strgt rfl hx hy) (rgO h))
end
end Go.Proofs.Ytcbppkfnfbdkhaa
/- A whole struct out of an own list. -/
set_option linter.all false
set_option maxRecDepth 20000
namespace Go.Proofs.Ytcbppkfnfbdkhaa
open Go.RowKit Go.Shelf
section
variable {k : Wk} {w0 : Org} {ops : Array Oper} {l : List Oper} {Q : St → Prop} {F : List (Nat × SV)} {H : List (Nat × VH)} {d t t' : Nat} {x : Operand} {p : String} {af : Array Edge}
theorem v_ldel {α : Type} {f : α → List Cell} {xs : List α} {e sz r : Nat} {m : Int} {fs zs} (hN : Nat.blt d k.N = true) (hx : (St.mk F H).ev x = .one (.el r m.toNat 0 sz)) (hH : getH H r = .arr e sz (xs.map f)) (ht : tyAt k.τ t' = .st sz fs zs) (inst : Inhabited α) (hf : (f (gt xs m)).length = sz) (hc : 0 ≤ m ∧ m < (xs.length : Int)) (h : rg k w0 ops l Q ⟨(d, .agg ((f (gt xs m)).map .d)) :: F, H⟩) : rg k w0 ops (⟨some d, .load t' x, t, p, af, none⟩ :: l) Q ⟨F, H⟩ := by
  refine j_ld_eln hN hx hH ht (row := f (gt xs m)) ?_ (by omega) ?_
  · rw [List.getElem?_map, List.getElem?_eq_getElem (by omega), gt_eq (by omega)]; rfl
  · rw [List.drop_zero, List.take_of_length_le (by omega)]
    exact h
end
theorem v_fzg {k : Wk} {w0 : Org} {ops : Array Oper} {l : List Oper} {Q : St → Prop} {F F' : List (Nat × SV)} {H H' : List (Nat × VH)} {e sz : Nat} {rows : List (List Cell)} {p q : Prop} (d r : Nat) {cs : List CV} (hd : getF F d = .agg cs) (hr : getH H r = .arr e sz rows) (hF : fzK r sz rows F (fun a p => some (a, p)) = some (F', p)) (hH : fzHK r sz rows H (fun a p => some (a, p)) = some (H', q)) (hp : p ∧ q) (h : rg k w0 ops l Q ⟨F', H'⟩) : rg k w0 ops l Q ⟨F, H⟩ := j_fz r hr hF hH hp h
end Go.Proofs.Ytcbppkfnfbdkhaa
/- The length of a list of the function's own, as the slice says it. -/
set_option linter.all false
set_option maxRecDepth 20000
namespace Go.Proofs.Ytcbppkfnfbdkhaa
open Go.RowKit Go.Shelf
theorem v_lnc {k : Wk} {w0 : Org} {ops : Array Oper} {l : List Oper} {Q : St → Prop} {F : List (Nat × SV)} {H : List (Nat × VH)} {o : Oper} (D i j : Nat) {α : Type} {f : α → List Cell} {xs : List α} {r n sz e t : Nat} {cs : List CV} (hd : o.dst = some D) (h1 : getH H i = .blk t cs) (h2 : cs[j]? = some (.sl r n sz)) (h3 : getH H r = .arr e sz (xs.map f)) (hc : xs.length = n) (h : rg k w0 ops (o :: l) Q ⟨F, H⟩) : rg k w0 ops (o :: l) Q ⟨F, H⟩ := h
theorem v_ldes {k : Wk} {w0 : Org} {ops : Array Oper} {l : List Oper} {Q : St → Prop} {F : List (Nat × SV)} {H : List (Nat × VH)} {d t t' : Nat} {x : Operand} {p : String} {af : Array Edge} {α : Type} {f : α → List Cell} {xs : List α} {e sz r n j : Nat} {m : Int} {fs zs} (hN : Nat.blt d k.N = true) (hx : (St.mk F H).ev x = .one (.el r m.toNat j sz)) (hH : getH H r = .arr e sz (xs.map f)) (ht : tyAt k.τ t' = .st n fs zs) (inst : Inhabited α) (hf : Nat.ble (j + n) (f (gt xs m)).length = true) (hc : 0 ≤ m ∧ m < (xs.length : Int)) (h : rg k w0 ops l Q ⟨(d, .agg ((((f (gt xs m)).drop j).take n).map .d)) :: F, H⟩) : rg k w0 ops (⟨some d, .load t' x, t, p, af, none⟩ :: l) Q ⟨F, H⟩ := by
  refine j_ld_eln hN hx hH ht (row := f (gt xs m)) ?_ (Nat.le_of_ble_eq_true hf) h
  rw [List.getElem?_map, List.getElem?_eq_getElem (by omega), gt_eq (by omega)]; rfl
section
variable {k : Wk} {w0 : Org} {s : St} {o : Oper}
theorem p_add {t t' : Nat} {x y : Operand} {kk : IntKind} {m n r : Int} (ho : o.op = .binOp .add t x y t') (hx : s.ev x = .one (.d (.int kk m))) (hy : s.ev y = .one (.d (.int kk n))) (hr : kk.wrap (m + n) = r) : OpP k w0 s o (.one (.d (.int kk r))) := by
  intro g a w hs
  have h1 := hs.ev x; rw [hx] at h1
  have h2 := hs.ev y; rw [hy] at h2
  refine ⟨.int kk r, fun w' => ?_, .one (.d (.int _ _ (by rw [← hr]; exact wrap_wf _ _)))⟩
  have e : (eqGuard .add t x y (.int kk m) (.int kk n)).run k.P w' = .ok () w' := by unfold eqGuard; rfl
  simp [execOp, ho, h1.int_inv.1, h2.int_inv.1, e, binOp, Op.intArith, hr]
theorem p_sl {α : Type} {f : α → List Cell} {xs : List α} {e sz by_ t : Nat} {x y : Operand} {k1 : IntKind} {m : Int} (ho : o.op = .slice t x (some y) none none) (hx : s.ev x = .one (.d (.list (xs.map f)))) (hy : s.ev y = .one (.d (.int k1 m))) (ht : tyAt k.τ t = .sl e sz by_) (hf : ∀ x, (f x).length = sz) (hc : 0 ≤ m ∧ m ≤ (xs.length : Int)) : OpP k w0 s o (.one (.d (.list ((xs.drop m.toNat).map f)))) := by
  intro g a w hs
  have q1 := hs.ev x; rw [hx] at q1
  have q2 := hs.ev y; rw [hy] at q2
  obtain ⟨hu, inf, hi, hsz⟩ := sliceT_spec (tab_sl k.ok ht)
  have he : k.P.elem t = e := by simp [Program.elem, hu]
  have q := q1.one_inv.unD rfl
  have hr : ∀ row ∈ xs.map f, row.length = sz := fun row hrow => by obtain ⟨q, _, rfl⟩ := List.mem_map.1 hrow; exact hf q
  have hl : (xs.map f).length = xs.length := List.length_map _
  rw [List.map_drop]
  generalize xs.map f = rows at *
  generalize hv : a.eval x = v at q
  cases q with
  | list A cap _ sz' vals k0 k1' k2' ksz kc kr =>
    refine ⟨Go.sliced A m.toNat rows.length cap sz, fun w' => ?_, .one (.d (by have := rep_sliced (.list A cap rows sz' vals k0 k1' k2' ksz kc kr) hr (l := m.toNat) (u := rows.length) (by omega) (by omega); simpa using this))⟩
    have := run_slice_l (P := k.P) w' t A rows.length cap (by rw [he]; exact hu) k1 m hc.1 (by omega)
    simp [execOp, ho, hv, q2.int_inv.1, run_sliceAt_slice w' t _ _ _ _ (by rw [he]; exact hu), this, he, sizeOf, typeInfo, hi, hsz, Result.andThen]
end
end Go.Proofs.Ytcbppkfnfbdkhaa
