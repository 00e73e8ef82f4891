/- Texts of the library, put together. -/
import Derived.Test.YtoflahjlnbligaaLb3
/- A queue: the part of a list of the call's own that is left, and that grows. -/
set_option linter.all false
set_option maxRecDepth 20000
namespace Go.Proofs.Ytoflahjlnbligaa
open Go.RowKit Go.Shelf
section
variable {P : Program} {T : TypeId} {N : Nat} {w0 : Org} {s : St} {o : Oper} {τ : List TyI} {g : Gh} {a : Act} {w : World}
theorem slp_inv {v : Value} {r off n sz : Nat} (h : RepCV P g w v (.slp r off n sz)) : (v = .slice none 0 0 ∧ n = 0) ∨ ∃ b o c, g.β r = some b ∧ v = .slice (some ⟨b, o, none⟩) n c ∧ (n = 0 ∨ o = off * sz) ∧ n ≤ c ∧ (c = 0 ∨ (o = off * sz ∧ off + c ≤ g.κ r ∧ g.κ r ≤ maxLen)) := by
  cases h with
  | slpv => exact .inl ⟨rfl, rfl⟩
  | slp _ _ _ o c hb ho hle hc => exact .inr ⟨_, o, c, hb, rfl, ho, hle, hc⟩
theorem ope_len_slp {x : Operand} {t e n r off m sz : Nat} (ho : o.op = .call { callee := .builtin .len, args := #[x], argTypes := #[t] }) (hx : s.ev x = .one (.slp r off m sz)) (ht : sliceT P t e n = true) (hm : m ≤ maxLen) : OpE P T N w0 s o (.one (.d (.int .i64 (m : Int)))) :=
  ope_val fun g a w hs => by
    have h := hs.ev x; rw [hx] at h
    rcases slp_inv h.one_inv with ⟨he, h0⟩ | ⟨b, oo, c, hb, he, _⟩
    · subst h0
      exact ⟨.int .i64 0, by simp [execOp, ho, resolve, invoke, he, run_len (sliceT_spec ht).1], .one (.d (.int _ _ rfl))⟩
    · exact ⟨.int .i64 m, by simp [execOp, ho, resolve, invoke, he, run_len (sliceT_spec ht).1], .one (.d (.int _ _ (len_wf (by omega))))⟩
theorem ope_ia_slp {x y : Operand} {t r off n sz e : Nat} {k : IntKind} {m : Int} (ho : o.op = .indexAddr t x y) (hx : s.ev x = .one (.slp r off n sz)) (hy : s.ev y = .one (.d (.int k m)))
    (ht : sliceT P t e sz = true) (h0 : 0 ≤ m) (hi : m < n) : OpE P T N w0 s o (.one (.el r (off + m.toNat) 0 sz)) :=
  ope_val fun g a w hs => by
    have h1 := hs.ev x; rw [hx] at h1
    have h2 := hs.ev y; rw [hy] at h2
    rcases slp_inv h1.one_inv with ⟨_, e2⟩ | ⟨b, oo, c, hb, e1, h3, h4, _⟩
    · omega
    · have e0 : oo = off * sz := by omega
      subst e0
      refine ⟨.pointer (some ⟨b, off * sz + m.toNat * sz, none⟩), by simp [execOp, ho, e1, h2.int_inv.1, run_indexAt ht h0 hi], .one ?_⟩
      have := RepCV.el (P := P) (g := g) (w := w) (r := r) (b := b) (off + m.toNat) 0 sz hb
      rw [Nat.add_zero, Nat.add_mul] at this
      exact this
theorem ope_slp_l {t r off n e sz : Nat} {x y : Operand} {k1 : IntKind} {m : Int} (ho : o.op = .slice t x (some y) none none) (hx : s.ev x = .one (.slp r off n sz)) (hy : s.ev y = .one (.d (.int k1 m))) (ht : sliceT P t e sz = true) (h0 : 0 ≤ m) (h2 : m ≤ (n : Int)) : OpE P T N w0 s o (.one (.slp r (off + m.toNat) (n - m.toNat) sz)) :=
  ope_val fun g a w hs => by
    have q1 := hs.ev x; rw [hx] at q1
    have q2 := hs.ev y; rw [hy] at q2
    obtain ⟨hu, inf, hi, hsz⟩ := sliceT_spec ht
    have he : P.elem t = e := by simp [Program.elem, hu]
    have run : ∀ A c, a.eval x = .slice A n c → (execOp a.eval o).run P w = .ok (.value (Go.sliced A m.toNat n c sz)) w := fun A c hv => by
      have := run_slice_l (P := P) w t A n c (by rw [he]; exact hu) k1 m h0 h2
      simp [execOp, ho, hv, q2.int_inv.1, run_sliceAt_slice w t _ _ _ _ (by rw [he]; exact hu), this, he, sizeOf, typeInfo, hi, hsz, Result.andThen]
    rcases slp_inv q1.one_inv with ⟨e1, e2⟩ | ⟨b, oo, c, hb, e1, h3, h4, h5⟩
    · subst e2
      refine ⟨_, run none 0 e1, .one ?_⟩
      have : m.toNat = 0 := by omega
      rw [this]
      exact .slpv _ sz
    · refine ⟨_, run _ _ e1, .one ?_⟩
      unfold Go.sliced
      by_cases hm : c = m.toNat
      · rw [if_pos hm]
        exact .slp _ _ _ _ _ hb (.inl (by omega)) (by omega) (.inl (by omega))
      · rw [if_neg hm]
        show RepCV P g w (.slice (some ((⟨b, oo, none⟩ : Addr).add (m.toNat * sz))) _ _) _
        rw [Addr.add_lit]
        rcases h5 with h5 | ⟨h5, h6, h7⟩
        · omega
        · subst h5
          exact .slp _ _ _ _ _ hb (.inr (by rw [Nat.add_mul])) (by omega) (.inr ⟨by rw [Nat.add_mul], by omega, h7⟩)
theorem run_app_room {t ty e : TypeId} {i : TypeInfo} (ht : P.underlying t = some (.slice e)) (hi : P.info? e = some i) {g off n c : Nat} {cur : Array Value} (hg : w.heap[g]? = some (.cells cur e (0, 0))) {ad : Addr} {m c2 : Nat} {news : List Value} (hl : news.length = m * i.size) (hnews : ∀ j u, news[j]? = some u → w.cell? (ad.add j) = some u) (h1 : ∀ u ∈ news, u.oneCell' = true) (hroom : n + m ≤ c) (hfit : off + n * i.size + news.length ≤ cur.size) :
    (Builtin.append_ #[t, t] ty #[.slice (some ⟨g, off, none⟩) n c, .slice (some ad) m c2]).run P w = .ok (.slice (some ⟨g, off, none⟩) (n + m) c) (w.setRow g (cur.toList.take (off + n * i.size) ++ news ++ cur.toList.drop (off + n * i.size + news.length)).toArray) := by
  have hf := run_firstCells_some (P := P) w i.size m ad m c2 news hl hnews
  have hst := run_storeCells_at P g (off + n * i.size) e news 0 cur w hg (by simpa using hfit) h1
  simp only [Nat.add_zero] at hst
  simp [Builtin.append_, run_underlying ht, sizeOf, typeInfo, hi, Builtin.lenOf, hroom, hf, Addr.add_lit, hst]
theorem opr_append_q (hτ : tabB P 0 τ = true) {t d e sz by_ r off n : Nat} {zs : List Z} {x y : Operand} {rows rows' : List (List Cell)} (ho : o.op = .call { callee := .builtin .append, args := #[x, y], argTypes := #[t, t] }) (hd : o.dst = some d) (hN : d < N)
    (ht : tyAt τ t = .sl e sz by_) (hz : (tyAt τ e).zs = some zs) (hzl : zs.length = sz) (h0 : 0 < sz) (hx : s.ev x = .one (.slp r off n sz)) (hr : getH s.H r = .arr e sz rows) (hon : off + n = rows.length) (hy : Src s sz (s.ev y) rows') (hne : 0 < rows'.length) (hfr : allH r s.H = true)
    (hbd : (rows.length + rows'.length) * by_ ≤ 140737488355328) (hb0 : 0 < by_) :
    OpR P T N w0 s o (fun s' => ∃ rows2 off2, (rows2 = rows ++ rows' ∧ off2 = off ∨ rows2 = rows.drop off ++ rows' ∧ off2 = 0) ∧ s' = ⟨(d, .one (.slp r off2 (n + rows'.length) sz)) :: killF r s.F, (r, .arr e sz rows2) :: s.H⟩) := by
  intro g a w hs K Q hK
  obtain ⟨hu, inf, hi, hsz⟩ := sliceT_spec (tab_sl hτ ht)
  have hby : inf.bytes = by_ := by
    have := tab_by hτ ht
    unfold bytesB at this
    rw [hi] at this
    exact Nat.eq_of_beq_eq_true this
  obtain ⟨i, z, hi2, hz1, hz2, hz3⟩ := zeroB_spec (tab_zs hτ hz)
  obtain rfl : i = inf := by rw [hi] at hi2; injection hi2 with h; exact h.symm
  have hzs : z.cells.size = sz := by rw [hz2]; simp [hzl]
  obtain ⟨A, c2, news, ey, hC, hnl, hn1, hnr⟩ := hy.vals h0 hs (hs.ev y)
  have hrl' := rows_of_src hy hs
  have hh := hs.hH r; rw [hr] at hh
  obtain ⟨hrl, hh⟩ := hh
  have hle : rows.length + rows'.length ≤ (rows.length + rows'.length) * by_ := Nat.le_mul_of_pos_right _ hb0
  have hsum : rows.length + rows'.length ≤ maxLen := by unfold maxLen; omega
  have h63 : rows.length + rows'.length ≤ 9223372036854775807 := by omega
  have hnb : (n + rows'.length) * by_ ≤ 140737488355328 := Nat.le_trans (Nat.mul_le_mul_right _ (by omega)) hbd
  have hn0 : news ≠ [] := fun e => by
    have h9 := Nat.mul_pos hne h0
    rw [← hnl, e] at h9
    exact absurd h9 (by simp)
  obtain ⟨ad, rfl⟩ : ∃ ad, A = some ad := by
    cases news with
    | nil => exact absurd rfl hn0
    | cons u news => obtain ⟨ad, h, _⟩ := hC 0 u rfl; exact ⟨ad, h⟩
  have hcells : ∀ j u, news[j]? = some u → w.cell? (ad.add j) = some u := by
    intro j u hu
    obtain ⟨ad', h, _, hc⟩ := hC j u hu
    injection h with h
    subst h
    exact hc
  have hl : live s.H r := by unfold live; rw [hr]; rfl
  have ex := hs.ev x
  rw [hx] at ex
  have hsk : Sim P T N w0 g ⟨killF r s.F, s.H⟩ a w := hs.less (fun y => by
    show getF (killF r s.F) y = getF s.F y ∨ getF (killF r s.F) y = .u
    rw [killF_get]
    split
    · exact .inr rfl
    · exact .inl rfl) fun _ => .inl rfl
  have hkill : ∀ y, (getF (killF r s.F) y).has r = false := fun y => by
    rw [killF_get]
    split
    · rfl
    · simp_all
  have hrl2 : ∀ row ∈ rows.drop off ++ rows', row.length = sz := fun row hr => by
    rcases List.mem_append.1 hr with h | h
    · exact hrl _ (List.mem_of_mem_drop h)
    · exact hrl' _ h
  have hdl : (rows.drop off).length = n := by rw [List.length_drop]; omega
  -- the end of whatever lays a new row
  have grow : ∀ (w' : World) (cap : Nat) (vals : Array Value) (olds : List Value), olds.length = n * sz → (∀ (i j : Nat) (row : List Cell) (x : Cell), (rows.drop off)[i]? = some row → row[j]? = some x → ∃ u, olds[i * sz + j]? = some u ∧ RepCell g.Rd w u x) →
      w.grownBy w' none → Blk w' w.heap.size e vals → vals.size = cap * sz → vals.toList.take ((n + rows'.length) * sz) = olds ++ news → n + rows'.length ≤ cap → cap ≤ maxLen → w.heap.size < w'.heap.size →
      K (a.put (some d) (.slice (some ⟨w.heap.size, 0, none⟩) (n + rows'.length) cap)) w' := by
    intro w' cap vals olds hol hor hg hbl hvs htk hc1 hc2 hlt
    have hln : (rows.drop off ++ rows').length = n + rows'.length := by rw [List.length_append, hdl]
    have hown : w'.ownsRow 0 e sz (.slice (some ⟨w.heap.size, 0, none⟩) (n + rows'.length) cap) (rows.drop off ++ rows').length (olds ++ news) :=
      ⟨by rw [List.length_append, hol, hnl, hln, Nat.add_mul], .inr ⟨w.heap.size, cap, vals, by rw [hln], Nat.zero_le _, hbl, by rw [hln]; exact hc1, hc2, hvs, by rw [hln]; exact htk⟩⟩
    have hfut : Fut g.Rd g.Rd w w' := ⟨fun _ _ h => h, fun b o' hb => World.cell?_of_block (w := w) (a := ⟨b, o', none⟩) (hg.block b (hs.gi.rd b o' hb).1 (fun e => by cases e))⟩
    have key : ∀ (i j : Nat) (row : List Cell) (x : Cell), (rows.drop off ++ rows')[i]? = some row → row[j]? = some x → ∃ u, (olds ++ news)[i * sz + j]? = some u ∧ RepCell g.Rd w' u x := fun i j row x hi hj => by
      by_cases hlt : i < n
      · rw [List.getElem?_append_left (by omega)] at hi
        obtain ⟨u, hu, hr⟩ := hor i j row x hi hj
        refine ⟨u, ?_, hr.mono hfut.rd hfut.cell⟩
        rw [List.getElem?_append_left (List.getElem?_eq_some_iff.1 hu).1]
        exact hu
      · rw [List.getElem?_append_right (by omega)] at hi
        obtain ⟨hj', u, hu, hr⟩ := hnr _ j row x hi hj
        refine ⟨u, ?_, hr.mono hfut.rd hfut.cell⟩
        have e1 : i * sz = n * sz + (i - n) * sz := by rw [← Nat.add_mul]; congr 1; omega
        rw [hdl] at hu
        rw [List.getElem?_append_right (by omega), ← hu]
        congr 1
        omega
    obtain ⟨k, q1, q2, q3⟩ := own_arr (P := P) (g := g) (d := r) hown rfl hrl2 key
    have h1 := hsk.newG (d := r) hkill (fun q => allH_get hfr q) (r0 := some r) (ob := none) (nb := some w.heap.size) (k := k) (vh := .arr e sz (rows.drop off ++ rows')) (fun b hb => by cases hb) hg (fun b hb => by injection hb with hb; subst hb; exact ⟨.inr (Nat.le_refl _), hlt⟩) rfl (fun _ => q1)
    have q2' : RepCV P (g.new r (some w.heap.size) k) w' (.slice (some ⟨w.heap.size, 0, none⟩) (n + rows'.length) cap) (.slp r 0 (n + rows'.length) sz) := by
      rw [hln] at q2
      rcases q2.sl_inv with ⟨e1, _⟩ | ⟨b, k1, k2, k3, e1⟩
      · cases e1
      · injection e1 with e1 e2 e3
        have e4 : (g.new r (some w.heap.size) k).κ r = cap := e3.symm
        exact .slp 0 _ sz 0 cap (by simp [Gh.new, updO]) (.inr (by omega)) hc1 (.inr ⟨by omega, by rw [e4]; omega, by rw [e4]; exact hc2⟩)
    have h2 := h1.put hN (.one q2')
    refine hK _ _ _ _ ⟨rows.drop off ++ rows', 0, .inr ⟨rfl, rfl⟩, rfl⟩ (h2.alike (fun _ => .inl rfl) fun q => ?_)
    show getH ((r, _) :: s.H) q = getH ((r, _) :: goneH (some r) s.H) q
    simp only [hget_put, goneH_get]
    by_cases e9 : r = q <;> simp [e9]
  have hge := grownCap_ge w (n + rows'.length)
  rcases slp_inv ex.one_inv with ⟨ev, hnz⟩ | ⟨b, oo, c, hb, ev, h3, h4, h5⟩
  · subst hnz
    have hrun := run_append_nil (P := P) w t o.type e i z hu hi hz1 ad rows'.length c2 news (by rw [hsz]; exact hnl) hcells hne (by omega) (by
      rw [hby]; rw [Nat.zero_add] at hnb; omega)
    refine wp_append_run ho ev ey hrun ?_
    obtain ⟨g1, g2, g3⟩ := drew_alloc w (news.toArray ++ Builtin.zeroCells z.cells (grownCap w rows'.length 0 e - rows'.length)) e
    have hge := grownCap_ge w rows'.length 0 e
    have hcm := grownCap_le_maxLen w rows'.length 0 e (by omega)
    rw [hd]
    have := grow _ (grownCap w rows'.length 0 e) _ [] (by simp) (fun i j row x hi hj => by
      have := (List.getElem?_eq_some_iff.1 hi).1
      omega) g1 g2 (by
      rw [Array.size_append, List.size_toArray, hnl, size_zeroCells, hzs, ← Nat.add_mul]; congr 1; omega) (by
      rw [Nat.zero_add, ← hnl]
      simp) (by omega) hcm g3
    rw [Nat.zero_add] at this
    exact this
  · rcases hh with ⟨hbn, _⟩ | ⟨b2, vals, hb2, hbl, k1, k2, k3, k4⟩
    · rw [hb] at hbn; cases hbn
    obtain rfl : b = b2 := by rw [hb] at hb2; injection hb2
    by_cases hroom : n + rows'.length ≤ c
    · obtain ⟨e0, h6, h7⟩ : oo = off * sz ∧ off + c ≤ g.κ r ∧ g.κ r ≤ maxLen := by
        rcases h5 with h5 | h5
        · omega
        · exact h5
      subst e0
      have hkk : rows.length + rows'.length ≤ g.κ r := by omega
      have hat : off * sz + n * sz = rows.length * sz := by rw [← Nat.add_mul, hon]
      have hvs : rows.length * sz + news.length ≤ vals.size := by rw [hnl, k1, ← Nat.add_mul]; exact Nat.mul_le_mul_right _ hkk
      have hrun := run_app_room (P := P) (ty := o.type) hu hi (off := off * sz) (n := n) (c := c) hbl (c2 := c2) (by rw [hsz]; exact hnl) hcells hn1 hroom (by rw [hsz, hat]; exact hvs)
      rw [hsz, hat] at hrun
      refine wp_append_run ho ev ey hrun ?_
      generalize hv2 : (vals.toList.take (rows.length * sz) ++ news ++ vals.toList.drop (rows.length * sz + news.length)).toArray = vals2
      have hsz2 : vals2.size = vals.size := by
        rw [← hv2]
        simp only [List.size_toArray, List.length_append, List.length_take, List.length_drop, Array.length_toList]
        omega
      have hold : ∀ k, k < rows.length * sz → vals2[k]? = vals[k]? := fun k hk => by
        rw [← hv2]
        simp only [List.getElem?_toArray]
        rw [List.append_assoc, List.getElem?_append_left (by simp; omega), List.getElem?_take_of_lt hk, Array.getElem?_toList]
      have hnew : ∀ k, k < news.length → vals2[rows.length * sz + k]? = news[k]? := fun k hk => by
        have hlt : (vals.toList.take (rows.length * sz)).length = rows.length * sz := by simp; omega
        rw [← hv2]
        simp only [List.getElem?_toArray]
        rw [List.append_assoc, List.getElem?_append_right (by rw [hlt]; omega), hlt, List.getElem?_append_left (by omega)]
        congr 1; omega
      have hblk2 : Blk (w.setRow b vals2) b e vals2 := setRow_heap w b vals vals2 e _ hbl
      have c1 := hsk.change (vals := vals2) (vh := .arr e sz (rows ++ rows')) hl hb hbl rfl (fun hf => ⟨fun row hr => by
        rcases List.mem_append.1 hr with h | h
        · exact hrl _ h
        · exact hrl' _ h, .inr ⟨b, vals2, hb, hblk2, by rw [hsz2]; exact k1, by rw [List.length_append]; exact hkk, h7, fun i j row x hi hj => by
        by_cases hlt : i < rows.length
        · rw [List.getElem?_append_left hlt] at hi
          obtain ⟨u, hu, hr⟩ := k4 i j row x hi hj
          have hjl := (List.getElem?_eq_some_iff.1 hj).1
          have e1 := hrl _ (List.mem_of_getElem? hi)
          have hin : i * sz + j < rows.length * sz := by
            have : (i + 1) * sz ≤ rows.length * sz := Nat.mul_le_mul_right _ hlt
            rw [Nat.add_mul] at this
            omega
          exact ⟨u, by rw [hold _ hin]; exact hu, hr.mono hf.rd hf.cell⟩
        · rw [List.getElem?_append_right (by omega)] at hi
          obtain ⟨hj', u, hu, hr⟩ := hnr _ j row x hi hj
          have e1 : i * sz = rows.length * sz + (i - rows.length) * sz := by rw [← Nat.add_mul]; congr 1; omega
          refine ⟨u, ?_, hr.mono hf.rd hf.cell⟩
          rw [show i * sz + j = rows.length * sz + ((i - rows.length) * sz + j) by omega, hnew _ (List.getElem?_eq_some_iff.1 hu).1]
          exact hu⟩⟩)
      have q2 : RepCV P g (w.setRow b vals2) (.slice (some ⟨b, off * sz, none⟩) (n + rows'.length) c) (.slp r off (n + rows'.length) sz) := .slp off _ sz _ c hb (.inr rfl) hroom (.inr ⟨rfl, h6, h7⟩)
      have c2 := c1.put hN (.one q2)
      rw [hd]
      exact hK _ _ _ _ ⟨rows ++ rows', off, .inl ⟨rfl, rfl⟩, rfl⟩ c2
    · have hvs : rows.length * sz ≤ vals.size := by rw [k1]; exact Nat.mul_le_mul_right _ k2
      have hat : off * sz + n * sz = rows.length * sz := by rw [← Nat.add_mul, hon]
      have holds : ∀ j u, ((vals.toList.drop (off * sz)).take (n * sz))[j]? = some u → w.cell? ((⟨b, oo, none⟩ : Addr).add j) = some u := fun j u hj => by
        have hk : j < n * sz := by have := (List.getElem?_eq_some_iff.1 hj).1; simp at this; omega
        have e0 : oo = off * sz := by
          rcases h3 with h3 | h3
          · subst h3; simp at hk
          · exact h3
        rw [List.getElem?_take_of_lt hk, List.getElem?_drop, Array.getElem?_toList] at hj
        rw [Addr.add_lit, hbl.cell, e0]; exact hj
      have hol : ((vals.toList.drop (off * sz)).take (n * sz)).length = n * sz := by simp; omega
      have hrun := run_append_grow (P := P) w t o.type e i z hu hi hz1 ⟨b, oo, none⟩ n c ((vals.toList.drop (off * sz)).take (n * sz)) (by rw [hsz]; exact hol) holds ad rows'.length c2 news (by rw [hsz]; exact hnl) hcells (by omega) (by omega) (growslice_fits (by omega) (by rw [hby]; exact hnb))
      refine wp_append_run ho ev ey hrun ?_
      obtain ⟨g1, g2, g3⟩ := drew_alloc w (((vals.toList.drop (off * sz)).take (n * sz)).toArray ++ news.toArray ++ Builtin.zeroCells z.cells (grownCap w (n + rows'.length) c e - (n + rows'.length))) e
      have hge := grownCap_ge w (n + rows'.length) c e
      have hcm := grownCap_le_maxLen w (n + rows'.length) c e (by omega)
      rw [hd]
      refine grow _ _ _ ((vals.toList.drop (off * sz)).take (n * sz)) hol (fun i j row x hi hj => ?_) g1 g2 ?_ ?_ hge hcm g3
      · rw [List.getElem?_drop] at hi
        obtain ⟨u, hu, hr⟩ := k4 (off + i) j row x hi hj
        have hil := (List.getElem?_eq_some_iff.1 hi).1
        have hjl := (List.getElem?_eq_some_iff.1 hj).1
        have e1 := hrl _ (List.mem_of_getElem? hi)
        have hk : i * sz + j < n * sz := by
          have : (i + 1) * sz ≤ n * sz := Nat.mul_le_mul_right _ (by omega)
          rw [Nat.add_mul] at this
          omega
        refine ⟨u, ?_, hr⟩
        rw [List.getElem?_take_of_lt hk, List.getElem?_drop, Array.getElem?_toList, ← hu]
        congr 1
        rw [Nat.add_mul]; omega
      · rw [Array.size_append, Array.size_append, List.size_toArray, List.size_toArray, hol, hnl, size_zeroCells, hzs, ← Nat.add_mul, ← Nat.add_mul]; congr 1; omega
      · have hlen : ((vals.toList.drop (off * sz)).take (n * sz) ++ news).length = (n + rows'.length) * sz := by rw [List.length_append, hol, hnl, Nat.add_mul]
        simp only [Array.toList_append, List.append_assoc]
        rw [← List.append_assoc, ← hlen]
        exact List.take_left
end
section
variable {k : Wk} {w0 : Org} {ops : Array Oper} {l : List Oper} {Q : St → Prop} {F F' : List (Nat × SV)} {H : List (Nat × VH)} {d t t' : Nat} {x y : Operand} {p : String} {af : Array Edge}
theorem v_lenslp {r off n sz e sz2 by_ : Nat} (hN : Nat.blt d k.N = true) (hx : (St.mk F H).ev x = .one (.slp r off n sz)) (ht : tyAt k.τ t' = .sl e sz2 by_) (hc : n ≤ 1000000000) (h : rg k w0 ops l Q ⟨(d, .one (.d (.int .i64 (n : Int)))) :: F, H⟩) : rg k w0 ops (⟨some d, .call { callee := .builtin .len, args := #[x], argTypes := #[t'] }, t, p, af, none⟩ :: l) Q ⟨F, H⟩ :=
  rgI (irg_e rfl rfl (nlt hN) (ope_len_slp rfl hx (tab_sl k.ok ht) (by unfold maxLen; omega)) (rgO h))
theorem v_iaslp {α : Type} {f : α → List Cell} {xs : List α} {r off n sz e e' by_ : Nat} {kk : IntKind} {m : Int} (hN : Nat.blt d k.N = true) (hx : (St.mk F H).ev x = .one (.slp r off n sz)) (hy : (St.mk F H).ev y = .one (.d (.int kk m))) (ht : tyAt k.τ t' = .sl e sz by_) (hH : getH H r = .arr e' sz (xs.map f)) (hc : 0 ≤ m ∧ m < (n : Int) ∧ (off : Int) + m < (xs.length : Int)) (h : rg k w0 ops l Q ⟨(d, .one (.el r ((off : Int) + m).toNat 0 sz)) :: F, H⟩) : rg k w0 ops (⟨some d, .indexAddr t' x y, t, p, af, none⟩ :: l) Q ⟨F, H⟩ := by
  have e0 : ((off : Int) + m).toNat = off + m.toNat := by omega
  rw [e0] at h
  exact rgI (irg_e rfl rfl (nlt hN) (ope_ia_slp rfl hx hy (tab_sl k.ok ht) hc.1 hc.2.1) (rgO h))
theorem v_slslp {r off n e sz by_ : Nat} {k1 : IntKind} {m : Int} (hN : Nat.blt d k.N = true) (hx : (St.mk F H).ev x = .one (.slp r off n sz)) (hy : (St.mk F H).ev y = .one (.d (.int k1 m))) (ht : tyAt k.τ t' = .sl e sz by_) (hc : 0 ≤ m ∧ m ≤ (n : Int)) (h : rg k w0 ops l Q ⟨(d, .one (.slp r (off + m.toNat) (n - m.toNat) sz)) :: F, H⟩) : rg k w0 ops (⟨some d, .slice t' x (some y) none none, t, p, af, none⟩ :: l) Q ⟨F, H⟩ :=
  rgI (irg_e rfl rfl (nlt hN) (ope_slp_l rfl hx hy (tab_sl k.ok ht) hc.1 hc.2) (rgO h))
def QueA {α : Type} (xs ys zs : List α) (off n o2 : Nat) : Prop := zs.drop o2 = xs.drop off ++ ys ∧ o2 + (n + ys.length) = zs.length ∧ zs.length ≤ xs.length + ys.length
theorem v_apq {α : Type} (f : α → List Cell) {xs ys : List α} {A : List α → Nat → Prop} {e sz by_ r off n : Nat} {zs : List Z} {rows' : List (List Cell)} (hN : Nat.blt d k.N = true) (ht : tyAt k.τ t' = .sl e sz by_) (hz : (tyAt k.τ e).zs = some zs) (hzl : zs.length = sz) (h0 : Nat.blt 0 sz = true) (hx : (St.mk F H).ev x = .one (.slp r off n sz)) (hr : getH H r = .arr e sz (xs.map f)) (hy : Src (St.mk F H) sz ((St.mk F H).ev y) rows') (hrow : rows' = ys.map f) (hne : Nat.blt 0 ys.length = true) (hfr : allH r H = true) (hF : killK r F (fun a => some a) = some F') (hb0 : Nat.blt 0 by_ = true) (hb1 : Nat.ble by_ 140000 = true)
    (hbd : off + n = xs.length ∧ xs.length + ys.length ≤ 1000000000) (hP : Hld (∀ ws o2, QueA xs ys ws off n o2 → A ws o2)) (h : ∀ ws o2, QueA xs ys ws off n o2 → Hld (A ws o2) → rg k w0 ops l Q ⟨(d, .one (.slp r o2 (n + ys.length) sz)) :: F', (r, .arr e sz (ws.map f)) :: H⟩) :
    rg k w0 ops (⟨some d, .call { callee := .builtin .append, args := #[x, y], argTypes := #[t', t'] }, t, p, af, none⟩ :: l) Q ⟨F, H⟩ := by
  subst hrow
  rw [killK_eq] at hF
  injection hF with hF
  subst hF
  have h1 := opr_append_q (P := k.P) (T := k.T) (N := k.N) (w0 := w0) (s := ⟨F, H⟩) (o := ⟨some d, .call { callee := .builtin .append, args := #[x, y], argTypes := #[t', t'] }, t, p, af, none⟩) k.ok rfl rfl (nlt hN) ht hz hzl (nlt h0) hx hr (by rw [List.length_map]; exact hbd.1) hy (by rw [List.length_map]; exact nlt hne) hfr (by
    rw [List.length_map, List.length_map]
    have := Nat.le_of_ble_eq_true hb1
    have h9 : (xs.length + ys.length) * by_ ≤ 1000000000 * 140000 := Nat.mul_le_mul hbd.2 this
    omega) (nlt hb0)
  have h2 : OpR k.P k.T k.N w0 ⟨F, H⟩ ⟨some d, .call { callee := .builtin .append, args := #[x, y], argTypes := #[t', t'] }, t, p, af, none⟩ (fun s' => ∃ ws o2, QueA xs ys ws off n o2 ∧ s' = ⟨(d, .one (.slp r o2 (n + ys.length) sz)) :: killF r F, (r, .arr e sz (ws.map f)) :: H⟩) := by
    intro g a w hs K Q' hK
    refine h1 g a w hs K Q' fun g' s' a' w' ⟨rows2, o2, hc, e0⟩ hs' => ?_
    rw [List.length_map] at e0
    rcases hc with ⟨e1, e2⟩ | ⟨e1, e2⟩
    · subst e2
      rw [← List.map_append] at e1
      subst e1
      refine hK g' s' a' w' ⟨xs ++ ys, o2, ⟨?_, ?_, ?_⟩, e0⟩ hs'
      · rw [List.drop_append_of_le_length (by omega)]
      · rw [List.length_append]; omega
      · rw [List.length_append]; omega
    · subst e2
      rw [← List.map_drop, ← List.map_append] at e1
      subst e1
      refine hK g' s' a' w' ⟨xs.drop off ++ ys, 0, ⟨by simp, ?_, ?_⟩, e0⟩ hs'
      · rw [List.length_append, List.length_drop]; omega
      · rw [List.length_append, List.length_drop]; omega
  exact rgI (irg_op rfl h2 fun s' ⟨ws, o2, hq, e0⟩ => by subst e0; exact rgO (h ws o2 hq ⟨hP.out ws o2 hq⟩))
end
end Go.Proofs.Ytoflahjlnbligaa
/- Queues whose old head is read behind the append. -/
set_option linter.all false
set_option maxRecDepth 20000
set_option maxHeartbeats 4000000
namespace Go.Proofs.Ytoflahjlnbligaa
open Go.RowKit Go.Shelf
theorem frH_gone (H0 : List (Nat × VH)) (r : Nat) : ∀ H : List (Nat × VH), ∃ H', FrH H0 [r] H H' ∧ ∀ x, getH H' x = if r = x then .gone else getH H x
  | [] => ⟨[], .nil, fun x => by split <;> rfl⟩
  | (y, v) :: l => by
    obtain ⟨l', h1, h2⟩ := frH_gone H0 r l
    by_cases e : r = y
    · subst e
      refine ⟨(r, .gone) :: l', .cons (.gone _ (by simp)) h1, fun x => ?_⟩
      simp only [getH, beq_eq]
      by_cases e2 : r = x
      · simp [e2]
      · simp [e2, h2]
    · refine ⟨(y, v) :: l', .cons (.same _ (by simpa using fun q => e q.symm)) h1, fun x => ?_⟩
      simp only [getH, beq_eq]
      by_cases e2 : y = x
      · subst e2; simp [e]
      · simp [e2, h2]
theorem frF_kill (H0 : List (Nat × VH)) (r : Nat) : ∀ F : List (Nat × SV), FrF H0 [r] F (killF r F)
  | [] => .nil
  | p :: l => by
    refine .cons ?_ (frF_kill H0 r l)
    cases p.2.has r with
    | true => exact .u _
    | false => exact .same _
section
variable {P : Program} {T : TypeId} {N : Nat} {w0 : Org} {s : St} {o : Oper} {τ : List TyI} {g : Gh} {a : Act} {w : World}
theorem opr_append_q2 (hτ : tabB P 0 τ = true) {t d e sz by_ r off n : Nat} {zs : List Z} {x y : Operand} {rows rows' : List (List Cell)} {q m : Nat} {xc : Cell} (ho : o.op = .call { callee := .builtin .append, args := #[x, y], argTypes := #[t, t] }) (hd : o.dst = some d) (hN : d < N)
    (ht : tyAt τ t = .sl e sz by_) (hz : (tyAt τ e).zs = some zs) (hzl : zs.length = sz) (h0 : 0 < sz) (hx : s.ev x = .one (.slp r off n sz)) (hr : getH s.H r = .arr e sz rows) (hon : off + n = rows.length) (hnn : 0 < n) (hs1 : sz = 1) (hqv : getF s.F q = .one (.el r m 0 sz)) (hxm : rows[m]? = some [xc]) (hy : Src s sz (s.ev y) rows') (hne : 0 < rows'.length) (hfr : allH r s.H = true)
    (hbd : (rows.length + rows'.length) * by_ ≤ 140737488355328) (hb0 : 0 < by_) :
    OpR P T N w0 s o (fun s' => s' = ⟨(d, .one (.slp r off (n + rows'.length) sz)) :: s.F, (r, .arr e sz (rows ++ rows')) :: s.H⟩ ∨
      s' = ⟨(d, .one (.slp r 0 (n + rows'.length) sz)) :: (q, .one (.rp [.d xc])) :: killF r s.F, (r, .arr e sz (rows.drop off ++ rows')) :: s.H⟩) := by
  intro g a w hs K Q hK
  obtain ⟨hu, inf, hi, hsz⟩ := sliceT_spec (tab_sl hτ ht)
  have hby : inf.bytes = by_ := by
    have := tab_by hτ ht
    unfold bytesB at this
    rw [hi] at this
    exact Nat.eq_of_beq_eq_true this
  obtain ⟨i, z, hi2, hz1, hz2, hz3⟩ := zeroB_spec (tab_zs hτ hz)
  obtain rfl : i = inf := by rw [hi] at hi2; injection hi2 with h; exact h.symm
  have hzs : z.cells.size = sz := by rw [hz2]; simp [hzl]
  obtain ⟨A, c2, news, ey, hC, hnl, hn1, hnr⟩ := hy.vals h0 hs (hs.ev y)
  have hrl' := rows_of_src hy hs
  have hh := hs.hH r; rw [hr] at hh
  obtain ⟨hrl, hh⟩ := hh
  have hle : rows.length + rows'.length ≤ (rows.length + rows'.length) * by_ := Nat.le_mul_of_pos_right _ hb0
  have hsum : rows.length + rows'.length ≤ maxLen := by unfold maxLen; omega
  have h63 : rows.length + rows'.length ≤ 9223372036854775807 := by omega
  have hnb : (n + rows'.length) * by_ ≤ 140737488355328 := Nat.le_trans (Nat.mul_le_mul_right _ (by omega)) hbd
  have hn0 : news ≠ [] := fun e => by
    have h9 := Nat.mul_pos hne h0
    rw [← hnl, e] at h9
    exact absurd h9 (by simp)
  obtain ⟨ad, rfl⟩ : ∃ ad, A = some ad := by
    cases news with
    | nil => exact absurd rfl hn0
    | cons u news => obtain ⟨ad, h, _⟩ := hC 0 u rfl; exact ⟨ad, h⟩
  have hcells : ∀ j u, news[j]? = some u → w.cell? (ad.add j) = some u := by
    intro j u hu
    obtain ⟨ad', h, _, hc⟩ := hC j u hu
    injection h with h
    subst h
    exact hc
  have hl : live s.H r := by unfold live; rw [hr]; rfl
  have ex := hs.ev x
  rw [hx] at ex
  obtain ⟨H', fh1, fh2⟩ := frH_gone s.H r s.H
  have fr1 := hs.fr (rs := [r]) fh1 (frF_kill s.H r s.F)
  have hrl2 : ∀ row ∈ rows.drop off ++ rows', row.length = sz := fun row hr => by
    rcases List.mem_append.1 hr with h | h
    · exact hrl _ (List.mem_of_mem_drop h)
    · exact hrl' _ h
  have hdl : (rows.drop off).length = n := by rw [List.length_drop]; omega
  -- the end of whatever lays a new row
  have grow : ∀ (w' : World) (cap : Nat) (vals : Array Value) (olds : List Value), olds.length = n * sz → (∀ (i j : Nat) (row : List Cell) (x : Cell), (rows.drop off)[i]? = some row → row[j]? = some x → ∃ u, olds[i * sz + j]? = some u ∧ RepCell g.Rd w u x) →
      w.grownBy w' none → Blk w' w.heap.size e vals → vals.size = cap * sz → vals.toList.take ((n + rows'.length) * sz) = olds ++ news → n + rows'.length ≤ cap → cap ≤ maxLen → w.heap.size < w'.heap.size →
      K (a.put (some d) (.slice (some ⟨w.heap.size, 0, none⟩) (n + rows'.length) cap)) w' := by
    intro w' cap vals olds hol hor hg hbl hvs htk hc1 hc2 hlt
    have q0 : RepCV P (g.fr s.H [r] w) w (a.tmps.getD q undef) (.rp [.d xc]) := by
      have h9 := hs.hF q
      rw [hqv] at h9
      obtain ⟨b', hb', ev'⟩ := h9.one_inv.el_inv
      rcases hh with ⟨hbn, _⟩ | ⟨b2, vals2, hb2, hbl2, k1, k2, k3, k4⟩
      · rw [hb'] at hbn; cases hbn
      obtain rfl : b' = b2 := by rw [hb'] at hb2; injection hb2
      obtain ⟨u9, hu9, hr9⟩ := k4 m 0 [xc] xc hxm rfl
      rw [ev']
      refine .rp b' (m * sz + 0) _ (fun _ => u9) (fun j c hj => ?_) (fun j c hj => ?_)
      · obtain rfl : j = 0 := by have := (List.getElem?_eq_some_iff.1 hj).1; simp at this; exact this
        have e9 : w.cell? ⟨b', m * sz + 0 + 0, none⟩ = some u9 := by rw [Nat.add_zero, hbl2.cell]; exact hu9
        exact ⟨.inr ⟨⟨r, hl, by simp, hb'⟩, by rw [e9]; rfl⟩, e9⟩
      · obtain rfl : j = 0 := by have := (List.getElem?_eq_some_iff.1 hj).1; simp at this; exact this
        simp at hj
        subst hj
        exact .d (hr9.mono (fun _ _ h => .inl h) (fun _ _ _ => rfl))
    have fr2 : Sim P T N w0 (g.fr s.H [r] w) ⟨(q, .one (.rp [.d xc])) :: killF r s.F, H'⟩ a w := ⟨fr1.gi, fr1.dn, fr1.nt, fun y => by
      show RepSV P _ w _ (getF ((q, _) :: killF r s.F) y)
      simp only [getF, beq_eq]
      by_cases e9 : q = y
      · subst e9; simp only [decide_true, cond_true]; exact .one q0
      · simp only [e9, decide_false, cond_false]; exact fr1.hF y, fr1.hH⟩
    have hkill2 : ∀ y, (getF ((q, SV.one (.rp [.d xc])) :: killF r s.F) y).has r = false := fun y => by
      simp only [getF, beq_eq]
      by_cases e9 : q = y
      · subst e9; simp [SV.has, CV.has, CV.hasL]
      · simp only [e9, decide_false, cond_false]
        rw [killF_get]
        split
        · rfl
        · simp_all
    have hln : (rows.drop off ++ rows').length = n + rows'.length := by rw [List.length_append, hdl]
    have hown : w'.ownsRow 0 e sz (.slice (some ⟨w.heap.size, 0, none⟩) (n + rows'.length) cap) (rows.drop off ++ rows').length (olds ++ news) :=
      ⟨by rw [List.length_append, hol, hnl, hln, Nat.add_mul], .inr ⟨w.heap.size, cap, vals, by rw [hln], Nat.zero_le _, hbl, by rw [hln]; exact hc1, hc2, hvs, by rw [hln]; exact htk⟩⟩
    have hfut : Fut g.Rd g.Rd w w' := ⟨fun _ _ h => h, fun b o' hb => World.cell?_of_block (w := w) (a := ⟨b, o', none⟩) (hg.block b (hs.gi.rd b o' hb).1 (fun e => by cases e))⟩
    have key : ∀ (i j : Nat) (row : List Cell) (x : Cell), (rows.drop off ++ rows')[i]? = some row → row[j]? = some x → ∃ u, (olds ++ news)[i * sz + j]? = some u ∧ RepCell (g.fr s.H [r] w).Rd w' u x := fun i j row x hi hj => by
      by_cases hlt : i < n
      · rw [List.getElem?_append_left (by omega)] at hi
        obtain ⟨u, hu, hr⟩ := hor i j row x hi hj
        refine ⟨u, ?_, (hr.mono hfut.rd hfut.cell).mono (fun _ _ h => .inl h) (fun _ _ _ => rfl)⟩
        rw [List.getElem?_append_left (List.getElem?_eq_some_iff.1 hu).1]
        exact hu
      · rw [List.getElem?_append_right (by omega)] at hi
        obtain ⟨hj', u, hu, hr⟩ := hnr _ j row x hi hj
        refine ⟨u, ?_, (hr.mono hfut.rd hfut.cell).mono (fun _ _ h => .inl h) (fun _ _ _ => rfl)⟩
        have e1 : i * sz = n * sz + (i - n) * sz := by rw [← Nat.add_mul]; congr 1; omega
        rw [hdl] at hu
        rw [List.getElem?_append_right (by omega), ← hu]
        congr 1
        omega
    obtain ⟨k, q1, q2, q3⟩ := own_arr (P := P) (g := g.fr s.H [r] w) (d := r) hown rfl hrl2 key
    have h1 := fr2.newG (d := r) hkill2 (fun q => by rw [fh2]; split <;> first | rfl | exact allH_get hfr q) (r0 := none) (ob := none) (nb := some w.heap.size) (k := k) (vh := .arr e sz (rows.drop off ++ rows')) (fun b hb => by cases hb) hg (fun b hb => by injection hb with hb; subst hb; exact ⟨.inr (Nat.le_refl _), hlt⟩) rfl (fun _ => q1)
    have q2' : RepCV P ((g.fr s.H [r] w).new r (some w.heap.size) k) w' (.slice (some ⟨w.heap.size, 0, none⟩) (n + rows'.length) cap) (.slp r 0 (n + rows'.length) sz) := by
      rw [hln] at q2
      rcases q2.sl_inv with ⟨e1, _⟩ | ⟨b, k1, k2, k3, e1⟩
      · cases e1
      · injection e1 with e1 e2 e3
        have e4 : ((g.fr s.H [r] w).new r (some w.heap.size) k).κ r = cap := e3.symm
        exact .slp 0 _ sz 0 cap (by simp [Gh.new, updO]) (.inr (by omega)) hc1 (.inr ⟨by omega, by rw [e4]; omega, by rw [e4]; exact hc2⟩)
    have h2 := h1.put hN (.one q2')
    refine hK _ _ _ _ (.inr rfl) (h2.alike (fun _ => .inl rfl) fun q => ?_)
    show getH ((r, _) :: s.H) q = getH ((r, _) :: goneH none H') q
    simp only [hget_put, goneH]
    rw [fh2]
    by_cases e9 : r = q <;> simp [e9]
  rcases slp_inv ex.one_inv with ⟨ev, hnz⟩ | ⟨b, oo, c, hb, ev, h3, h4, h5⟩
  · omega
  · rcases hh with ⟨hbn, _⟩ | ⟨b2, vals, hb2, hbl, k1, k2, k3, k4⟩
    · rw [hb] at hbn; cases hbn
    obtain rfl : b = b2 := by rw [hb] at hb2; injection hb2
    by_cases hroom : n + rows'.length ≤ c
    · obtain ⟨e0, h6, h7⟩ : oo = off * sz ∧ off + c ≤ g.κ r ∧ g.κ r ≤ maxLen := by
        rcases h5 with h5 | h5
        · omega
        · exact h5
      subst e0
      have hkk : rows.length + rows'.length ≤ g.κ r := by omega
      have hat : off * sz + n * sz = rows.length * sz := by rw [← Nat.add_mul, hon]
      have hvs : rows.length * sz + news.length ≤ vals.size := by rw [hnl, k1, ← Nat.add_mul]; exact Nat.mul_le_mul_right _ hkk
      have hrun := run_app_room (P := P) (ty := o.type) hu hi (off := off * sz) (n := n) (c := c) hbl (c2 := c2) (by rw [hsz]; exact hnl) hcells hn1 hroom (by rw [hsz, hat]; exact hvs)
      rw [hsz, hat] at hrun
      refine wp_append_run ho ev ey hrun ?_
      generalize hv2 : (vals.toList.take (rows.length * sz) ++ news ++ vals.toList.drop (rows.length * sz + news.length)).toArray = vals2
      have hsz2 : vals2.size = vals.size := by
        rw [← hv2]
        simp only [List.size_toArray, List.length_append, List.length_take, List.length_drop, Array.length_toList]
        omega
      have hold : ∀ k, k < rows.length * sz → vals2[k]? = vals[k]? := fun k hk => by
        rw [← hv2]
        simp only [List.getElem?_toArray]
        rw [List.append_assoc, List.getElem?_append_left (by simp; omega), List.getElem?_take_of_lt hk, Array.getElem?_toList]
      have hnew : ∀ k, k < news.length → vals2[rows.length * sz + k]? = news[k]? := fun k hk => by
        have hlt : (vals.toList.take (rows.length * sz)).length = rows.length * sz := by simp; omega
        rw [← hv2]
        simp only [List.getElem?_toArray]
        rw [List.append_assoc, List.getElem?_append_right (by rw [hlt]; omega), hlt, List.getElem?_append_left (by omega)]
        congr 1; omega
      have hblk2 : Blk (w.setRow b vals2) b e vals2 := setRow_heap w b vals vals2 e _ hbl
      have c1 := hs.change (vals := vals2) (vh := .arr e sz (rows ++ rows')) hl hb hbl rfl (fun hf => ⟨fun row hr => by
        rcases List.mem_append.1 hr with h | h
        · exact hrl _ h
        · exact hrl' _ h, .inr ⟨b, vals2, hb, hblk2, by rw [hsz2]; exact k1, by rw [List.length_append]; exact hkk, h7, fun i j row x hi hj => by
        by_cases hlt : i < rows.length
        · rw [List.getElem?_append_left hlt] at hi
          obtain ⟨u, hu, hr⟩ := k4 i j row x hi hj
          have hjl := (List.getElem?_eq_some_iff.1 hj).1
          have e1 := hrl _ (List.mem_of_getElem? hi)
          have hin : i * sz + j < rows.length * sz := by
            have : (i + 1) * sz ≤ rows.length * sz := Nat.mul_le_mul_right _ hlt
            rw [Nat.add_mul] at this
            omega
          exact ⟨u, by rw [hold _ hin]; exact hu, hr.mono hf.rd hf.cell⟩
        · rw [List.getElem?_append_right (by omega)] at hi
          obtain ⟨hj', u, hu, hr⟩ := hnr _ j row x hi hj
          have e1 : i * sz = rows.length * sz + (i - rows.length) * sz := by rw [← Nat.add_mul]; congr 1; omega
          refine ⟨u, ?_, hr.mono hf.rd hf.cell⟩
          rw [show i * sz + j = rows.length * sz + ((i - rows.length) * sz + j) by omega, hnew _ (List.getElem?_eq_some_iff.1 hu).1]
          exact hu⟩⟩)
      have q2 : RepCV P g (w.setRow b vals2) (.slice (some ⟨b, off * sz, none⟩) (n + rows'.length) c) (.slp r off (n + rows'.length) sz) := .slp off _ sz _ c hb (.inr rfl) hroom (.inr ⟨rfl, h6, h7⟩)
      have c2 := c1.put hN (.one q2)
      rw [hd]
      exact hK _ _ _ _ (.inl rfl) c2
    · have hvs : rows.length * sz ≤ vals.size := by rw [k1]; exact Nat.mul_le_mul_right _ k2
      have hat : off * sz + n * sz = rows.length * sz := by rw [← Nat.add_mul, hon]
      have holds : ∀ j u, ((vals.toList.drop (off * sz)).take (n * sz))[j]? = some u → w.cell? ((⟨b, oo, none⟩ : Addr).add j) = some u := fun j u hj => by
        have hk : j < n * sz := by have := (List.getElem?_eq_some_iff.1 hj).1; simp at this; omega
        have e0 : oo = off * sz := by
          rcases h3 with h3 | h3
          · subst h3; simp at hk
          · exact h3
        rw [List.getElem?_take_of_lt hk, List.getElem?_drop, Array.getElem?_toList] at hj
        rw [Addr.add_lit, hbl.cell, e0]; exact hj
      have hol : ((vals.toList.drop (off * sz)).take (n * sz)).length = n * sz := by simp; omega
      have hrun := run_append_grow (P := P) w t o.type e i z hu hi hz1 ⟨b, oo, none⟩ n c ((vals.toList.drop (off * sz)).take (n * sz)) (by rw [hsz]; exact hol) holds ad rows'.length c2 news (by rw [hsz]; exact hnl) hcells (by omega) (by omega) (growslice_fits (by omega) (by rw [hby]; exact hnb))
      refine wp_append_run ho ev ey hrun ?_
      obtain ⟨g1, g2, g3⟩ := drew_alloc w (((vals.toList.drop (off * sz)).take (n * sz)).toArray ++ news.toArray ++ Builtin.zeroCells z.cells (grownCap w (n + rows'.length) c e - (n + rows'.length))) e
      have hge := grownCap_ge w (n + rows'.length) c e
      have hcm := grownCap_le_maxLen w (n + rows'.length) c e (by omega)
      rw [hd]
      refine grow _ _ _ ((vals.toList.drop (off * sz)).take (n * sz)) hol (fun i j row x hi hj => ?_) g1 g2 ?_ ?_ hge hcm g3
      · rw [List.getElem?_drop] at hi
        obtain ⟨u, hu, hr⟩ := k4 (off + i) j row x hi hj
        have hil := (List.getElem?_eq_some_iff.1 hi).1
        have hjl := (List.getElem?_eq_some_iff.1 hj).1
        have e1 := hrl _ (List.mem_of_getElem? hi)
        have hk : i * sz + j < n * sz := by
          have : (i + 1) * sz ≤ n * sz := Nat.mul_le_mul_right _ (by omega)
          rw [Nat.add_mul] at this
          omega
        refine ⟨u, ?_, hr⟩
        rw [List.getElem?_take_of_lt hk, List.getElem?_drop, Array.getElem?_toList, ← hu]
        congr 1
        rw [Nat.add_mul]; omega
      · rw [Array.size_append, Array.size_append, List.size_toArray, List.size_toArray, hol, hnl, size_zeroCells, hzs, ← Nat.add_mul, ← Nat.add_mul]; congr 1; omega
      · have hlen : ((vals.toList.drop (off * sz)).take (n * sz) ++ news).length = (n + rows'.length) * sz := by rw [List.length_append, hol, hnl, Nat.add_mul]
        simp only [Array.toList_append, List.append_assoc]
        rw [← List.append_assoc, ← hlen]
        exact List.take_left
end
section
variable {k : Wk} {w0 : Org} {ops : Array Oper} {l : List Oper} {Q : St → Prop} {F F' : List (Nat × SV)} {H : List (Nat × VH)} {d t t' : Nat} {x y : Operand} {p : String} {af : Array Edge}
theorem v_apq2 (q : Nat) {xs ys : List Int} {A : List Int → Prop} {B : Prop} {e by_ r off n m : Nat} {zs : List Z} {rows' : List (List Cell)} (hqv : getF F q = .one (.el r m 0 1)) (hN : Nat.blt d k.N = true) (ht : tyAt k.τ t' = .sl e 1 by_) (hz : (tyAt k.τ e).zs = some zs) (hzl : zs.length = 1) (hx : (St.mk F H).ev x = .one (.slp r off n 1)) (hr : getH H r = .arr e 1 (xs.map irow)) (hy : Src (St.mk F H) 1 ((St.mk F H).ev y) rows') (hrow : rows' = ys.map irow) (hne : Nat.blt 0 ys.length = true) (hfr : allH r H = true) (hF : killK r F (fun a => some a) = some F') (hb0 : Nat.blt 0 by_ = true) (hb1 : Nat.ble by_ 140000 = true)
    (hbd : off + n = xs.length ∧ xs.length + ys.length ≤ 1000000000 ∧ 0 < n ∧ m < xs.length) (hP : Hld (Bth (∀ ws, ws = xs ++ ys → ws.length = xs.length + ys.length → A ws) B)) (qA : ∀ ws, ws = xs ++ ys → ws.length = xs.length + ys.length → Hld (A ws) → rg k w0 ops l Q ⟨(d, .one (.slp r off (n + ys.length) 1)) :: F, (r, .arr e 1 (ws.map irow)) :: H⟩) (qB : Hld B → rg k w0 ops l Q ⟨(d, .one (.slp r 0 (n + ys.length) 1)) :: (q, .one (.rp [.d (.int .i64 (gt xs (m : Int)))])) :: F', (r, .arr e 1 ((xs.drop off ++ ys).map irow)) :: H⟩) :
    rg k w0 ops (⟨some d, .call { callee := .builtin .append, args := #[x, y], argTypes := #[t', t'] }, t, p, af, none⟩ :: l) Q ⟨F, H⟩ := by
  subst hrow
  rw [killK_eq] at hF
  injection hF with hF
  subst hF
  have hq := opr_append_q2 (P := k.P) (T := k.T) (N := k.N) (w0 := w0) (s := ⟨F, H⟩) (o := ⟨some d, .call { callee := .builtin .append, args := #[x, y], argTypes := #[t', t'] }, t, p, af, none⟩) (q := q) (m := m) (xc := .int .i64 (gt xs (m : Int))) k.ok rfl rfl (nlt hN) ht hz hzl Nat.one_pos hx hr (by rw [List.length_map]; exact hbd.1) hbd.2.2.1 rfl hqv (by rw [List.getElem?_map, List.getElem?_eq_getElem hbd.2.2.2, gt_nat hbd.2.2.2]; rfl) hy (by rw [List.length_map]; exact nlt hne) hfr (by
    rw [List.length_map, List.length_map]
    have := Nat.le_of_ble_eq_true hb1
    have h9 : (xs.length + ys.length) * by_ ≤ 1000000000 * 140000 := Nat.mul_le_mul hbd.2.1 this
    omega) (nlt hb0)
  refine rgI (irg_op rfl hq fun s' hs' => ?_)
  rcases hs' with e0 | e0
  · rw [List.length_map, ← List.map_append] at e0
    subst e0
    exact rgO (qA _ rfl (by simp) ⟨(bth_a hP).out _ rfl (by simp)⟩)
  · rw [List.length_map, ← List.map_drop, ← List.map_append] at e0
    subst e0
    exact rgO (qB (bth_b hP))
end
section
variable {k : Wk} {w0 : Org} {ops : Array Oper} {W : Option (List Nat)} {S listed : Array Bool} {nq m n : Nat} {Q : St → Prop} {s : St} {l : List Nat}
theorem n_pureF {F : List (Nat × SV)} {H : List (Nat × VH)} {d : Nat} {v : SV} {op : Op} {ty : TypeId} {pp : String} {af : Array Edge} (i : Nat) (hs1 : Region.noSelect ops = true) (hi : ops[i]? = some ⟨some d, op, ty, pp, af, none⟩) (hN : Nat.blt d k.N = true) (hr : (Region.ready .any ops listed).contains i = true) (hf : Region.free .any ops listed i = true) (hp : OpP k w0 ⟨F, H⟩ ⟨some d, op, ty, pp, af, none⟩ v)
    (h : rn k w0 ops n (listed.setIfInBounds i true) Q ⟨(d, v) :: F, H⟩) : rn k w0 ops (n + 1) listed Q ⟨F, H⟩ := n_pure i hs1 hi hN hr hf hp h
theorem v_ntwo {P1 P2 : Prop} {d0 : Option Nat} {op0 : Op} {ty0 : TypeId} {pp0 : String} {af0 : Array Edge} {gd0 : Option (Nat × Bool)} {d1 : Option Nat} {op1 : Op} {ty1 : TypeId} {pp1 : String} {af1 : Array Edge} {gd1 : Option (Nat × Bool)} (i j : Nat) (hr : Region.ready .any ops listed = [i, j]) (hi : ops[i]? = some ⟨d0, op0, ty0, pp0, af0, gd0⟩) (hj : ops[j]? = some ⟨d1, op1, ty1, pp1, af1, gd1⟩) (hP : Hld (Bth P1 P2)) (nA : Hld P1 → rg k w0 ops [⟨d0, op0, ty0, pp0, af0, gd0⟩] (fun s' => rn k w0 ops n (listed.setIfInBounds i true) Q s') s) (nB : Hld P2 → rg k w0 ops [⟨d1, op1, ty1, pp1, af1, gd1⟩] (fun s' => rn k w0 ops n (listed.setIfInBounds j true) Q s') s) : rn k w0 ops (n + 1) listed Q s :=
  n_two i j hr hi hj (nA (bth_a hP)) (nB (bth_b hP))
end
section
variable {k : Wk} {w0 : Org} {s : St} {o : Oper}
theorem p_iaslp {α : Type} {f : α → List Cell} {xs : List α} {x y : Operand} {t r off n sz e e' by_ : Nat} {kk : IntKind} {m : Int} (ho : o.op = .indexAddr t x y) (hx : s.ev x = .one (.slp r off n sz)) (hy : s.ev y = .one (.d (.int kk m))) (ht : tyAt k.τ t = .sl e sz by_) (hH : getH s.H r = .arr e' sz (xs.map f)) (hc : 0 ≤ m ∧ m < (n : Int) ∧ (off : Int) + m < (xs.length : Int)) : OpP k w0 s o (.one (.el r ((off : Int) + m).toNat 0 sz)) := by
  intro g a w hs
  have h1 := hs.ev x; rw [hx] at h1
  have h2 := hs.ev y; rw [hy] at h2
  rcases slp_inv h1.one_inv with ⟨_, e2⟩ | ⟨b, oo, c, hb, e1, h3, h4, _⟩
  · omega
  · have e0 : oo = off * sz := by omega
    subst e0
    refine ⟨.pointer (some ⟨b, off * sz + m.toNat * sz, none⟩), fun w' => by simp [execOp, ho, e1, h2.int_inv.1, run_indexAt (w := w') (tab_sl k.ok ht) hc.1 hc.2.1], .one ?_⟩
    have := RepCV.el (P := k.P) (g := g) (w := w) (r := r) (b := b) (off + m.toNat) 0 sz hb
    rw [Nat.add_zero, Nat.add_mul] at this
    rw [show ((off : Int) + m).toNat = off + m.toNat by omega]
    exact this
end
end Go.Proofs.Ytoflahjlnbligaa
/- Arrays of bools at a variable index. -/
set_option linter.all false
set_option maxRecDepth 20000
namespace Go.Proofs.Ytoflahjlnbligaa
open Go.RowKit Go.Shelf
section
variable {k : Wk} {w0 : Org} {ops : Array Oper} {l : List Oper} {Q : St → Prop} {F F' : List (Nat × SV)} {H H' : List (Nat × VH)} {d t t' ty : Nat} {p : String} {af : Array Edge} {x y : Operand} {s : St} {gd : Option (Nat × Bool)} {xs : List Bool}
def bcv (z : Bool) : CV := .d (.bool z)
theorem cvl_bcv {vs : List Nat} {xs : List Bool} : CVleL vs (xs.map bcv) (xs.map bcv) := by
  induction xs with
  | nil => exact .nil
  | cons x xs ih => exact .cons (.d rfl) ih
theorem setSeg_bcv {xs : List Bool} {m : Nat} {v : Bool} (h : m < xs.length) : setSeg (xs.map bcv) m [bcv v] = (xs.set m v).map bcv := by
  unfold setSeg
  rw [List.map_set]
  refine List.ext_getElem? fun i => ?_
  rw [List.getElem?_set]
  by_cases h1 : i < m
  · rw [List.append_assoc, List.getElem?_append_left (by simp; omega), List.getElem?_take_of_lt h1, if_neg (by omega)]
  · by_cases h2 : i = m
    · subst h2
      have hl : ((xs.map bcv).take i).length = i := by simp; omega
      rw [List.append_assoc, List.getElem?_append_right (by omega), hl]
      simp [h]
    · rw [List.getElem?_append_right (by simp; omega), if_neg (by omega), List.getElem?_drop]
      congr 1
      simp
      omega
theorem v_alab {len : Nat} {zs : List Z} {n e sz : Nat} {zs2} (hN : Nat.blt d k.N = true) (ht : tyAt k.τ t = .ar n len e sz zs2) (hz : (tyAt k.τ t).zs = some zs) (hv : zs.map Z.cv = (List.replicate len false).map bcv) (hfr : (St.mk F H).fresh d = true) (h : rg k w0 ops l Q ⟨(d, .one (.ref d 0)) :: F, (d, .blk t ((List.replicate len false).map bcv)) :: H⟩) : rg k w0 ops (⟨some d, .alloc t, ty, p, af, none⟩ :: l) Q ⟨F, H⟩ :=
  rgI (irg_h rfl (opr_alloc k.ok rfl rfl (nlt hN) hz hfr) (rgO (by rw [hv]; exact h)))
theorem v_ldxb {r tt : Nat} {m : Int} (hN : Nat.blt d k.N = true) (hx : (St.mk F H).ev x = .one (.ref r (0 + m.toNat * 1))) (hH : getH H r = .blk tt (xs.map bcv)) (ht : (tyAt k.τ t').isOne = true) (hc : 0 ≤ m ∧ m < (xs.length : Int)) (h : rg k w0 ops l Q ⟨(d, .one (.d (.bool (gt xs m)))) :: F, H⟩) : rg k w0 ops (⟨some d, .load t' x, t, p, af, none⟩ :: l) Q ⟨F, H⟩ :=
  rgI (irg_e rfl rfl (nlt hN) (ope_load_ref1 rfl hx hH (tab_one k.ok ht) (by
    rw [List.getElem?_map, show 0 + m.toNat * 1 = m.toNat by omega, List.getElem?_eq_getElem (by omega), gt_eq (by omega)]; rfl)) (rgO h))
theorem v_stxb {r tt : Nat} {m : Int} {v : Bool} (hx : (St.mk F H).ev x = .one (.ref r (0 + m.toNat * 1))) (hH : getH H r = .blk tt (xs.map bcv)) (hn : (tyAt k.τ t).size = some 1) (hy : (St.mk F H).ev y = .one (.d (.bool v))) (hc : 0 ≤ m ∧ m < (xs.length : Int)) (h : rg k w0 ops l Q ⟨F, (r, .blk tt ((xs.set m.toNat v).map bcv)) :: H⟩) : rg k w0 ops (⟨none, .store t x y, ty, p, af, none⟩ :: l) Q ⟨F, H⟩ :=
  rgI (irg_h rfl (opr_store (n := 1) (vs := [bcv v]) k.ok rfl rfl hx hH hn (by rw [hy]; rfl) rfl (by rw [List.length_map]; omega)) (rgO (by
    rw [show 0 + m.toNat * 1 = m.toNat by omega, setSeg_bcv (by omega)]; exact h)))
theorem e_ldxb {r tt : Nat} {m : Int} {p : String} (hx : s.ev x = .one (.ref r (0 + m.toNat * 1))) (hH : getH s.H r = .blk tt (xs.map bcv)) (ht : (tyAt k.τ t').isOne = true) (hc : 0 ≤ m ∧ m < (xs.length : Int)) : OpE k.P k.T k.N w0 s ⟨some d, .load t' x, t, p, af, gd⟩ (.one (.d (.bool (gt xs m)))) :=
  e_ld_ref1 hx hH ht (by rw [List.getElem?_map, show 0 + m.toNat * 1 = m.toNat by omega, List.getElem?_eq_getElem (by omega), gt_eq (by omega)]; rfl)
end
end Go.Proofs.Ytoflahjlnbligaa
