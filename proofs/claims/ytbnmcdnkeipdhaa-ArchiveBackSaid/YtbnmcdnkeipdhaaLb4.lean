/- Texts of the library, put together. -/
import Derived.Test.YtbnmcdnkeipdhaaLb3
import Derived.Lib.AppendStr
import Derived.Orders
/- A text is appended to bytes. -/
set_option linter.all false
set_option maxRecDepth 20000
namespace Go.Proofs.Ytbnmcdnkeipdhaa
open Go.RowKit Go.Shelf Go.Lib
section
variable {P : Program}
theorem run_append_str_any (w : World) (t u ty e : TypeId) (i : TypeInfo) (ht : P.underlying t = some (.slice e)) (hu : P.underlying u = some .string) (hi : P.info? e = some i) (hz : i.zero = some (.int .u8 0)) (hsize : i.size = 1) (hby : i.bytes = 1)
    (v : Value) (n : Nat) (xs : List Value) (hown : w.ownsRow 0 e 1 v n xs) (s : ByteArray) (h63 : n + s.size ≤ maxLen) (hbytes : n + s.size ≤ 140737488355328) :
    ∃ v' w', (Builtin.append_ #[t, u] ty #[v, .string s]).run P w = .ok v' w' ∧ w'.ownsRow 0 e 1 v' (n + s.size) (xs ++ strCells s) ∧ w.grownBy w' v.ownBlock ∧ (v'.ownBlock = v.ownBlock ∨ ∀ b, v'.ownBlock = some b → w.heap.size ≤ b) := by
  obtain ⟨v', w', h1, h2, h3, h4⟩ := run_append_own_string (P := P) w 0 t u ty e i ht hu hi hz hsize hby v n xs hown s h63 hbytes (Nat.zero_le _)
  refine ⟨v', w', h1, h2, h3, ?_⟩
  have hxl : xs.length = n := by simpa using hown.1
  rcases hown.2 with ⟨rfl, rfl⟩ | ⟨g, cap, cur, rfl, hbg, hg, hnc, hcm, hcs, htake⟩
  · obtain ⟨v2, w2, k1, k2, k3, k4⟩ := run_append_own_string (P := P) w w.heap.size t u ty e i ht hu hi hz hsize hby (.slice none 0 0) 0 xs ⟨hown.1, .inl ⟨rfl, rfl⟩⟩ s h63 hbytes (Nat.le_refl _)
    rw [h1] at k1
    injection k1 with e1 e2
    subst e1
    exact .inr fun b hb => (k2.lt b hb).1
  · by_cases hroom : n + s.size ≤ cap
    · have hcs' : cur.size = cap := by simpa using hcs
      have hr := run_append_room_string (P := P) (w := w) t u ty e i ht hu hi hsize g n cap cur hg s hroom (by omega)
      rw [h1] at hr
      injection hr with e1 e2
      subst e1
      exact .inl rfl
    · have holds : ∀ j u, xs[j]? = some u → w.cell? ((⟨g, 0, none⟩ : Addr).add j) = some u := hown.cells (g := g) rfl
      have hr := run_append_grow_string (P := P) (w := w) t u ty e i (.int .u8 0) ht hu hi hz ⟨g, 0, none⟩ n cap xs (by rw [hsize]; simpa using hxl) holds s (by omega) (by unfold maxLen at h63; omega) (by rw [hby]; exact growslice_fits (by omega) (by omega))
      rw [h1] at hr
      injection hr with e1 e2
      subst e1
      refine .inr fun b hb => ?_
      simp [Value.ownBlock] at hb
      omega
theorem wp_append_str {o : Oper} {a : Act} {w : World} {K : Act → World → Prop} {Q : Exit → Act → World → Prop} (s x : Operand) (t u : TypeId)
    (ho : o.op = .call { callee := .builtin .append, args := #[s, x], argTypes := #[t, u] }) (e : TypeId) (i : TypeInfo) (ht : P.underlying t = some (.slice e)) (hu : P.underlying u = some .string) (hi : P.info? e = some i) (hz : i.zero = some (.int .u8 0)) (hsize : i.size = 1) (hby : i.bytes = 1)
    (v : Value) (n : Nat) (xs : List Value) (hs : a.eval s = v) (hown : w.ownsRow 0 e 1 v n xs) (q : ByteArray) (hx : a.eval x = .string q) (h63 : n + q.size ≤ maxLen) (hbytes : n + q.size ≤ 140737488355328)
    (h : ∀ v' w', w'.ownsRow 0 e 1 v' (n + q.size) (xs ++ strCells q) → w.grownBy w' v.ownBlock → (v'.ownBlock = v.ownBlock ∨ ∀ b, v'.ownBlock = some b → w.heap.size ≤ b) → K (a.put o.dst v') w') : o.wp P a w K Q := by
  obtain ⟨v', w', hrun, h2, h3, h4⟩ := run_append_str_any (P := P) w t u o.type e i ht hu hi hz hsize hby v n xs hown q h63 hbytes
  unfold Oper.wp execOp
  simp only [ho, resolve, invoke, builtin, Sem.run_bind, Sem.run_pure, Result.andThen_ok, List.map_toArray, List.map_cons, List.map_nil, hs, hx, hrun]
  exact h v' w' h2 h3 h4
end
theorem strCells_get (q : ByteArray) (i : Nat) : (strCells q)[i]? = ((bytI q)[i]?).map fun z => Value.int .u8 z := by
  unfold strCells bytI
  simp
  cases q.data[i]? <;> rfl
section
variable {P : Program} {T : TypeId} {N : Nat} {w0 : Org} {s : St} {o : Oper} {τ : List TyI}
theorem append_coreS (hτ : tabB P 0 τ = true) {t u d e by_ D : Nat} {F : List (Nat × SV)} {x y : Operand} {q : ByteArray} {r0 : Option Nat} {rows : List (List Cell)} (ho : o.op = .call { callee := .builtin .append, args := #[x, y], argTypes := #[t, u] }) (hd : o.dst = some d) (hN : d < N)
    (ht : tyAt τ t = .sl e 1 by_) (hu : strB P u = true) (hin : (P.info? e).map (fun i => (i.zero, i.size, i.bytes)) = some (some (.int .u8 0), 1, 1)) (hx : Tgt s e 1 (s.ev x) r0 rows) (hy : s.ev y = .one (.d (.str q))) (f1 : ∀ x, (getF F x).has D = false) (f2 : ∀ r, (getH s.H r).has D = false) (hF : ∀ x, getF F x = .u ∨ getF F x = getF s.F x)
    (hbd : rows.length + q.size ≤ 140737488355328) :
    OpR P T N w0 s o (fun s' => s' = (St.mk F ((D, .arr e 1 (rows ++ (bytI q).map irow_u8)) :: goneH r0 s.H)).put d (.one (.sl D (rows ++ (bytI q).map irow_u8).length 1))) := by
  intro g a w hs K Q hK
  obtain ⟨hu', inf, hi, hsz⟩ := sliceT_spec (tab_sl hτ ht)
  obtain ⟨i, hi2, hz0, hz1, hz2⟩ := info_parts hin
  obtain ⟨xs, hown, hrl, hob, hxr⟩ := hx.owns Nat.one_pos hs (hs.ev x)
  have hyv := hs.ev y; rw [hy] at hyv
  have ey := hyv.str_inv.1
  refine wp_append_str x y t u ho e i hu' (strB_spec hu) hi2 hz0 hz1 hz2 (a.eval x) rows.length xs rfl hown q ey (by unfold maxLen; omega) hbd fun v' w' hown' hg' hat => ?_
  have hlb : ((bytI q).map irow_u8).length = q.size := by rw [List.length_map, bytI_len]
  have hlen : (rows ++ (bytI q).map irow_u8).length = rows.length + q.size := by rw [List.length_append, hlb]
  have key : Fut g.Rd g.Rd w w' → ∀ (i j : Nat) (row : List Cell) (x : Cell), (rows ++ (bytI q).map irow_u8)[i]? = some row → row[j]? = some x → ∃ u, (xs ++ strCells q)[i * 1 + j]? = some u ∧ RepCell g.Rd w' u x := fun hf i j row x hi hj => by
    have hxl : xs.length = rows.length * 1 := hown.1
    by_cases hlt : i < rows.length
    · rw [List.getElem?_append_left hlt] at hi
      obtain ⟨u, hu, hr⟩ := hxr i j row x hi hj
      refine ⟨u, ?_, hr.mono hf.rd hf.cell⟩
      rw [List.getElem?_append_left (List.getElem?_eq_some_iff.1 hu).1]
      exact hu
    · rw [List.getElem?_append_right (by omega), List.getElem?_map] at hi
      cases hz : (bytI q)[i - rows.length]? with
      | none => rw [hz] at hi; cases hi
      | some z =>
        rw [hz] at hi
        simp at hi
        subst hi
        have hj0 : j = 0 := by have := (List.getElem?_eq_some_iff.1 hj).1; simp [irow_u8] at this; omega
        subst hj0
        simp [irow_u8] at hj
        subst hj
        refine ⟨.int .u8 z, ?_, ?_⟩
        · rw [List.getElem?_append_right (by omega), show i * 1 + 0 - xs.length = i - rows.length by omega, strCells_get, hz]; rfl
        · have := bytI_in q z (List.mem_of_getElem? hz)
          exact .int .u8 z (by simp [Lit.wf, IntKind.min, IntKind.max, IntKind.bits, IntKind.signed]; omega)
  have hrl2 : ∀ row ∈ rows ++ (bytI q).map irow_u8, row.length = 1 := fun row hr => by
    rcases List.mem_append.1 hr with h | h
    · exact hrl _ h
    · obtain ⟨z, _, rfl⟩ := List.mem_map.1 h; rfl
  have hfut : Fut g.Rd g.Rd w w' := ⟨fun _ _ h => h, fun b o' hb => World.cell?_of_block (w := w) (a := ⟨b, o', none⟩) (hg'.block b (hs.gi.rd b o' hb).1 (fun e => by
    obtain ⟨r, _, hl, hr⟩ := hob b e.symm
    exact (hs.gi.rd b o' hb).2.2 r hl hr))⟩
  obtain ⟨k, q1, q2, q3⟩ := own_arr (P := P) (g := g) (d := D) hown' hlen.symm hrl2 (key hfut)
  have hs1 : Sim P T N w0 g ⟨F, s.H⟩ a w := ⟨hs.gi, hs.dn, hs.nt, fun x => by
    rcases hF x with h | h
    · show RepSV P g w _ (getF F x); rw [h]; exact .u _
    · show RepSV P g w _ (getF F x); rw [h]; exact hs.hF x, hs.hH⟩
  have h1 := hs1.newG (d := D) f1 f2 (r0 := r0) (ob := (a.eval x).ownBlock) (nb := v'.ownBlock) (k := k) (vh := .arr e 1 (rows ++ (bytI q).map irow_u8)) hob hg' (fun b hb => by
    refine ⟨?_, q3 b hb⟩
    rcases hat with e | e
    · exact .inl (by rw [← e]; exact hb)
    · exact .inr (e b hb)) rfl (fun _ => q1)
  rw [hd]
  exact hK _ _ _ _ rfl (h1.put hN (.one q2))
end
section
variable {P : Program} {T : TypeId} {N : Nat} {w0 : Org} {s : St} {o : Oper} {τ : List TyI}
theorem opr_append_niln (hτ : tabB P 0 τ = true) {t d e sz by_ D : Nat} {zs : List Z} {x y : Operand} {rows' : List (List Cell)} (ho : o.op = .call { callee := .builtin .append, args := #[x, y], argTypes := #[t, t] }) (hd : o.dst = some d) (hN : d < N)
    (ht : tyAt τ t = .sl e sz by_) (hz : (tyAt τ e).zs = some zs) (hzl : zs.length = sz) (h0 : 0 < sz) (hx : s.ev x = .one .nil) (hy : Src s sz (s.ev y) rows') (hfr : s.fresh D = true)
    (hbd : rows'.length * by_ ≤ 140737488355328) (hb0 : 0 < by_) :
    OpR P T N w0 s o (fun s' => s' = (s.hput D (.arr e sz rows')).put d (.one (.sl D rows'.length sz))) := by
  have := append_core (P := P) (T := T) (N := N) (w0 := w0) (D := D) (F := s.F) (r0 := none) (rows := []) hτ ho hd hN ht hz hzl h0 (by rw [hx]; exact .nil) hy (St.fresh_spec hfr).1 (St.fresh_spec hfr).2.1 (fun _ => .inr rfl) (by simpa using hbd) hb0
  simpa [goneH, St.hput] using this
end
section
variable {k : Wk} {w0 : Org} {ops : Array Oper} {l : List Oper} {Q : St → Prop} {F F' : List (Nat × SV)} {H H' : List (Nat × VH)} {d t t' u : Nat} {x y : Operand} {p : String} {af : Array Edge}
theorem v_ap0n {α : Type} (f : α → List Cell) (dd D : Nat) {ys : List α} {e sz by_ : Nat} {zs : List Z} {rows' : List (List Cell)} (hN : Nat.blt dd k.N = true) (ht : tyAt k.τ t' = .sl e sz by_) (hz : (tyAt k.τ e).zs = some zs) (hzl : zs.length = sz) (h0 : Nat.blt 0 sz = true) (hx : (St.mk F H).ev x = .one .nil) (hy : Src ⟨F, H⟩ sz ((St.mk F H).ev y) rows') (hrow : rows' = ys.map f) (hf : (St.mk F H).fresh D = true) (hb0 : Nat.blt 0 by_ = true) (hb1 : Nat.ble by_ 140000 = true)
    (hbd : ys.length ≤ 1000000000) (h : rg k w0 ops l Q ⟨(dd, .one (.sl D ys.length sz)) :: F, (D, .arr e sz (ys.map f)) :: H⟩) : rg k w0 ops (⟨some dd, .call { callee := .builtin .append, args := #[x, y], argTypes := #[t', t'] }, t, p, af, none⟩ :: l) Q ⟨F, H⟩ := by
  subst hrow
  exact rgI (irg_h rfl (opr_append_niln k.ok rfl rfl (nlt hN) ht hz hzl (nlt h0) hx hy hf (by
    rw [List.length_map]
    have := Nat.le_of_ble_eq_true hb1
    exact Nat.le_trans (Nat.mul_le_mul hbd this) (by decide)) (nlt hb0)) (rgO (by rw [List.length_map]; exact h)))
end
section
variable {P : Program} {T : TypeId} {N : Nat} {w0 : Org} {s : St} {o : Oper} {τ : List TyI}
theorem opr_append_slS (hτ : tabB P 0 τ = true) {t u d e by_ r n : Nat} {x y : Operand} {qq : ByteArray} {rows : List (List Cell)} (ho : o.op = .call { callee := .builtin .append, args := #[x, y], argTypes := #[t, u] }) (hd : o.dst = some d) (hN : d < N)
    (ht : tyAt τ t = .sl e 1 by_) (hu : strB P u = true) (hin : (P.info? e).map (fun i => (i.zero, i.size, i.bytes)) = some (some (.int .u8 0), 1, 1)) (hx : s.ev x = .one (.sl r n 1)) (hr : getH s.H r = .arr e 1 rows) (hn : n = rows.length) (hy : s.ev y = .one (.d (.str qq))) (hfr : allH r s.H = true)
    (hbd : rows.length + qq.size ≤ 140737488355328) :
    OpR P T N w0 s o (fun s' => s' = (St.mk (killF r s.F) ((r, .arr e 1 (rows ++ (bytI qq).map irow_u8)) :: s.H)).put d (.one (.sl r (rows ++ (bytI qq).map irow_u8).length 1))) := by
  subst hn
  have q1 : ∀ x, (getF (killF r s.F) x).has r = false := fun x => by
    rw [killF_get]
    split
    · rfl
    · simp_all
  have q2 : ∀ x, getF (killF r s.F) x = .u ∨ getF (killF r s.F) x = getF s.F x := fun x => by
    rw [killF_get]
    split
    · exact .inl rfl
    · exact .inr rfl
  have h := append_coreS (P := P) (T := T) (N := N) (w0 := w0) (D := r) (F := killF r s.F) (r0 := some r) (rows := rows) hτ ho hd hN ht hu hin (by rw [hx]; exact .sl hr) hy q1 (fun q => allH_get hfr q) q2 hbd
  intro g a w hs K Q hK
  refine h g a w hs K Q fun g' s' a' w' e hs' => hK g' _ a' w' rfl ?_
  subst e
  refine ⟨⟨fun q q' b h1 h2 => hs'.gi.inj q q' b ?_ ?_, fun q b h1 => hs'.gi.bd q b ?_, fun b o' hr => ?_, hs'.gi.keep, hs'.gi.tape, hs'.gi.org, hs'.gi.exs (fun _ _ h => h) fun c hc => ⟨rfl, hc.2.2.1, hc.2.2.2.1, fun q hq => hc.2.2.2.2 q ?_⟩⟩, hs'.dn, hs'.nt, hs'.hF, fun q => ?_⟩
  all_goals
    have hg : ∀ q, getH ((r, VH.arr e 1 (rows ++ ((bytI qq).map irow_u8))) :: goneH (some r) s.H) q = getH ((r, VH.arr e 1 (rows ++ ((bytI qq).map irow_u8))) :: s.H) q := fun q => by
      simp only [hget_put, goneH_get]
      by_cases e : r = q <;> simp [e]
  · show live _ q; unfold live; rw [show getH ((St.mk (killF r s.F) ((r, VH.arr e 1 (rows ++ ((bytI qq).map irow_u8))) :: goneH (some r) s.H)).put d (.one (.sl r (rows ++ ((bytI qq).map irow_u8)).length 1))).H q = _ from hg q]; exact h1
  · show live _ q'; unfold live; rw [show getH ((St.mk (killF r s.F) ((r, VH.arr e 1 (rows ++ ((bytI qq).map irow_u8))) :: goneH (some r) s.H)).put d (.one (.sl r (rows ++ ((bytI qq).map irow_u8)).length 1))).H q' = _ from hg q']; exact h2
  · show live _ q; unfold live; rw [show getH ((St.mk (killF r s.F) ((r, VH.arr e 1 (rows ++ ((bytI qq).map irow_u8))) :: goneH (some r) s.H)).put d (.one (.sl r (rows ++ ((bytI qq).map irow_u8)).length 1))).H q = _ from hg q]; exact h1
  · obtain ⟨a1, a2, a3⟩ := hs'.gi.rd b o' hr
    refine ⟨a1, a2, fun q hq => a3 q ?_⟩
    unfold live; rw [show getH ((St.mk (killF r s.F) ((r, VH.arr e 1 (rows ++ ((bytI qq).map irow_u8))) :: goneH (some r) s.H)).put d (.one (.sl r (rows ++ ((bytI qq).map irow_u8)).length 1))).H q = _ from hg q]; exact hq
  · unfold live; rw [show getH ((St.mk (killF r s.F) ((r, VH.arr e 1 (rows ++ ((bytI qq).map irow_u8))) :: goneH (some r) s.H)).put d (.one (.sl r (rows ++ ((bytI qq).map irow_u8)).length 1))).H q = _ from hg q]; exact hq
  · have := hs'.hH q
    rw [show getH ((St.mk (killF r s.F) ((r, VH.arr e 1 (rows ++ ((bytI qq).map irow_u8))) :: goneH (some r) s.H)).put d (.one (.sl r (rows ++ ((bytI qq).map irow_u8)).length 1))).H q = _ from hg q] at this
    exact this
end
section
variable {k : Wk} {w0 : Org} {ops : Array Oper} {l : List Oper} {Q : St → Prop} {F F' : List (Nat × SV)} {H H' : List (Nat × VH)} {d t t' u : Nat} {x y : Operand} {p : String} {af : Array Edge}
theorem v_aps {xs : List Int} {e by_ r n : Nat} {q : ByteArray} {rows : List (List Cell)} (hN : Nat.blt d k.N = true) (ht : tyAt k.τ t' = .sl e 1 by_) (hu : strB k.P u = true) (hin : (k.P.info? e).map (fun i => (i.zero, i.size, i.bytes)) = some (some (.int .u8 0), 1, 1)) (hx : (St.mk F H).ev x = .one (.sl r n 1)) (hr : getH H r = .arr e 1 rows) (hrw : rows = xs.map irow_u8)
    (hk : killK r F (fun a => killHK H r (H.map (·.1)) fun b => some (a, b)) = some (F', H')) (hr2 : getH H' r = .arr e 1 rows) (hn : n = xs.length) (hy : (St.mk F H).ev y = .one (.d (.str q))) (hf : allH r H' = true)
    (hbd : xs.length + q.size ≤ 1000000000) (h : rg k w0 ops l Q ⟨(d, .one (.sl r (xs ++ bytI q).length 1)) :: F', (r, .arr e 1 ((xs ++ bytI q).map irow_u8)) :: H'⟩) : rg k w0 ops (⟨some d, .call { callee := .builtin .append, args := #[x, y], argTypes := #[t', u] }, t, p, af, none⟩ :: l) Q ⟨F, H⟩ := by
  subst hrw
  rw [killK_eq, killHK_eq] at hk
  injection hk with hk
  injection hk with h1 h2
  subst h1
  subst h2
  have hlen : (xs.map irow_u8).length = xs.length := List.length_map _
  refine i_fgH (killH_fit ⟨F, H⟩ r) (rgI (irg_h rfl (opr_append_slS k.ok rfl rfl (nlt hN) ht hu hin hx hr2 (by rw [hlen]; exact hn) hy hf (by rw [hlen]; omega)) (rgO ?_)))
  rw [← List.map_append, List.length_map]
  exact h
end
end Go.Proofs.Ytbnmcdnkeipdhaa
/- To bytes whose room is used up, bytes are appended. -/
set_option linter.all false
set_option maxRecDepth 20000
namespace Go.Proofs.Ytbnmcdnkeipdhaa
open Go.RowKit Go.Shelf Go.Lib
theorem eval_put_same {a : Act} {d : Nat} {v : Value} (h : d < a.tmps.size) : (a.put (some d) v).eval (.tmp d) = v := by
  simp [Act.eval, Act.put, h]
section
variable {P : Program} {o : Oper} {a : Act} {w : World} {K K' : Act → World → Prop} {Q1 Q' : Exit → Act → World → Prop} {b : Nat}
theorem wp_thr (h : o.wp P a w K Q1) (hb : ∀ d, o.dst = some d → d ≠ b) (hK : ∀ a' w', K a' w' → a'.eval (.tmp b) = a.eval (.tmp b) → K' a' w') (hQ : ∀ e a w, e ≠ .normal → Q1 e a w → Q' e a w) : o.wp P a w K' Q' := by
  have hL : LetsOut Q1 → LetsOut Q' := fun ⟨a, w, h⟩ => ⟨a, w, hQ _ _ _ (by intro h; cases h) h⟩
  have hp : ∀ (a0 : Act) v, (∀ y, a0.eval y = a.eval y) → (a0.put o.dst v).eval (.tmp b) = a.eval (.tmp b) := fun a0 v h0 => by
    rw [Act.eval_put (fun d hd he => by injection he with he; exact hb d hd he.symm), h0]
  unfold Oper.wp at *
  generalize (execOp a.eval o).run P w = r at *
  cases r with
  | ok n w' =>
    cases n <;> simp only [Oper.upon] at h ⊢
    case enter => exact Calls.mono h (fun e w'' he => by cases e <;> first | exact hK _ _ he (hp a _ fun _ => rfl) | exact hQ _ _ _ (by intro h; cases h) he | exact hL he)
    case row => exact Rows.mono h (fun _ _ he => hK _ _ he (hp a _ fun _ => rfl))
    case defer => exact hK _ _ h (hp _ _ fun y => by cases y <;> rfl)
    all_goals exact hK _ _ h (hp a _ fun _ => rfl)
  | halt x w' => cases x <;> simp only [Oper.upon] at h ⊢; exact hQ _ _ _ (by intro h; cases h) h
theorem wpl_thr {ops : Array Oper} {rest : List Oper} {v : Value} (hQ : ∀ e a w, e ≠ .normal → Q1 e a w → Q' e a w) (hR : ∀ a' w', Q1 .normal a' w' → a'.eval (.tmp b) = v → wpList P ops Q' rest a' w') :
    ∀ (mid : List Oper) (a : Act) (w : World), (∀ o ∈ mid, ∀ d, o.dst = some d → d ≠ b) → a.eval (.tmp b) = v → wpList P ops Q1 mid a w → wpList P ops Q' (mid ++ rest) a w
  | [], a, w, _, hv, h => hR a w h hv
  | o :: mid, a, w, hb, hv, h => by
    have ih := wpl_thr hQ hR mid
    have hb' := fun o h => hb o (List.mem_cons_of_mem _ h)
    simp only [List.cons_append]
    unfold wpList at h ⊢
    split
    · rename_i hw
      rw [if_pos hw] at h
      rcases h with h | ⟨h1, h2⟩
      · exact .inl (wp_thr h (hb o List.mem_cons_self) (fun a' w' hk he => ih a' w' hb' (he.trans hv) hk) hQ)
      · obtain ⟨a2, w2, h2⟩ := h2
        exact .inr ⟨h1, a2, w2, hQ _ _ _ (by intro h; cases h) h2⟩
    · rename_i hw
      rw [if_neg hw] at h
      exact ih _ w hb' ((Act.eval_put (fun d hd he => by injection he with he; exact hb o List.mem_cons_self d hd he.symm)).trans hv) h
end
section
variable {P : Program} {T : TypeId} {N : Nat} {w0 : Org} {g g' : Gh} {s : St} {a : Act} {w w' : World} {o : Oper} {τ : List TyI}
theorem opx_buildSlice (hτ : tabB P 0 τ = true) {t d len e sz by_ : Nat} {zs : List Z} {parts : Array (Nat × Operand)} {cp : List (Nat × List CV)} {r : List CV} {fl : List Cell} (ho : o.op = .buildSlice t len parts) (hd : o.dst = some d) (hN : d < N)
    (ht : tyAt τ t = .sl e sz by_) (hz : (tyAt τ e).zs = some zs) (hp : partsOf s parts.toList = some cp) (hr : cfill ((List.range len).map fun i => (i * sz, sz)) (List.replicate (len * sz) .u) cp = some r) (hfl : unDL r = some fl)
    (h0 : 0 < len * sz) (hm : len * sz ≤ 16777216) (f1 : ∀ x, (getF s.F x).has d = false) (f2 : ∀ r, (getH s.H r).has d = false) (hzl : zs.length = sz) :
    ∀ g a w, Sim P T N w0 g s a w → ∀ (K : Act → World → Prop) (Q : Exit → Act → World → Prop), (∀ g' a' w', Sim P T N w0 g' ((s.hput d (.arr e sz (chunks sz len fl))).put d (.one (.sl d len sz))) a' w' → (∃ A, a'.eval (.tmp d) = .slice A len len) → K a' w') → o.wp P a w K Q := by
  intro g a w hs K Q hK
  obtain ⟨hu, inf, hi, hsz⟩ := sliceT_spec (tab_sl hτ ht)
  obtain ⟨i, z, hi2, hz1, hz2, hz3⟩ := zeroB_spec (tab_zs hτ hz)
  obtain rfl : i = inf := by rw [hi] at hi2; injection hi2 with h; exact h.symm
  obtain ⟨k1, k2⟩ := partsOf_rep hs _ _ hp
  have hzs : z.cells.size = sz := by rw [hz2]; simp [hzl]
  obtain ⟨vals', q1, q2, q3⟩ := fill_rep (P := P) (g := g) (w := w) (place := fun i => some (i * sz, sz)) (pl := (List.range len).map fun i => (i * sz, sz)) (by
      intro i p h
      rw [List.getElem?_map] at h
      by_cases hlt : i < len
      · simp [hlt] at h; rw [h]
      · simp [hlt] at h) _ cp ((Array.range (len * sz)).map (z.cells[· % z.cells.size]!)) _ r k1 k2 (by simp) (fun j u c hu hc => by
      have hlt : j < len * sz := by have := (Array.getElem?_eq_some_iff.1 hu).1; simpa using this
      rw [List.getElem?_replicate, if_pos hlt] at hc
      injection hc with hc
      subst hc
      have hsz0 : 0 < sz := Nat.pos_of_mul_pos_left h0
      have hj : j % z.cells.size < z.cells.size := Nat.mod_lt _ (by omega)
      simp [hlt] at hu
      rw [← hu]
      refine .u ?_
      have hzz : (zs.map Z.cv)[j % z.cells.size]? = some ((zs.map Z.cv)[j % z.cells.size]'(by rw [← hz2]; exact hj)) := List.getElem?_eq_getElem _
      have := (hz3 g w (j % z.cells.size) _ _ (Array.getElem?_eq_getElem hj) hzz).one
      simpa [hj] using this) hr
  obtain ⟨u1, u2⟩ := unDL_get hfl
  have hrl : r.length = len * sz := by
    have : ∀ (cp : List (Nat × List CV)) (cs r : List CV), cfill ((List.range len).map fun i => (i * sz, sz)) cs cp = some r → r.length = cs.length := by
      intro cp
      induction cp with
      | nil => intro cs r h; simp [cfill] at h; rw [h]
      | cons p cp ih =>
        intro cs r h
        simp only [cfill] at h
        cases hq : ((List.range len).map fun i => (i * sz, sz))[p.1]? with
        | none => rw [hq] at h; cases h
        | some x =>
          rw [hq] at h
          dsimp only at h
          cases hb : (Nat.beq p.2.length x.2 && Nat.ble (x.1 + p.2.length) cs.length) with
          | false => rw [hb] at h; cases h
          | true =>
            rw [hb] at h
            rw [Bool.and_eq_true] at hb
            have h2 := Nat.le_of_ble_eq_true hb.2
            rw [ih _ _ h]
            simp [setSeg]; omega
    rw [this _ _ _ hr]; simp
  have hbu := run_buildSlice (P := P) w t e len (parts.map fun (i, x) => (i, a.eval x)) vals' i z hu hi hz1 (by rw [hsz]; omega) (by rw [hsz]; omega) (by rw [hsz]; simpa using q1)
  have hrun : (execOp a.eval o).run P w = .ok (.value (.slice (some ⟨w.heap.size, 0, none⟩) len len)) (w.alloc (.cells vals' e)) := by
    simp only [execOp, ho, Sem.run_bind, hbu, Result.andThen_ok, Sem.run_pure]
  have hsz0 : 0 < sz := Nat.pos_of_mul_pos_left h0
  have hlen2 : len ≤ len * sz := Nat.le_mul_of_pos_right _ hsz0
  have h1 := hs.newG (d := d) f1 f2 (r0 := none) (ob := none) (nb := some w.heap.size) (k := len) (w' := w.alloc (.cells vals' e)) (vh := .arr e sz (chunks sz len fl)) (fun b hb => (by cases hb)) (World.grownBy_alloc w _ none) (fun b hb => (by simp at hb; subst hb; exact ⟨.inr (Nat.le_refl _), by simp⟩)) rfl (fun hf => by
    refine ⟨fun row hrow => ?_, .inr ⟨w.heap.size, vals', by simp [Gh.new, updO], Blk.new _ _ _, by simp [Gh.new, updN]; omega, by simp [Gh.new, updN, chunks_len], by simp [Gh.new, updN]; unfold maxLen; omega, fun i' j row x hi' hj => ?_⟩⟩
    · obtain ⟨i', hi'⟩ := List.getElem?_of_mem hrow
      have hlt := (List.getElem?_eq_some_iff.1 hi').1
      rw [chunks_len] at hlt
      rw [chunks_get _ _ _ _ hlt] at hi'
      injection hi' with hi'
      rw [← hi']
      have : (i' + 1) * sz ≤ len * sz := Nat.mul_le_mul_right _ hlt
      rw [Nat.add_mul] at this
      simp
      omega
    · have hlt := (List.getElem?_eq_some_iff.1 hi').1
      rw [chunks_len] at hlt
      rw [chunks_get _ _ _ _ hlt] at hi'
      injection hi' with hi'
      rw [← hi'] at hj
      have hjl := (List.getElem?_eq_some_iff.1 hj).1
      simp at hjl
      rw [List.getElem?_take_of_lt (by omega), List.getElem?_drop] at hj
      have hlt2 := (List.getElem?_eq_some_iff.1 hj).1
      have hv : vals'[i' * sz + j]? = some (vals'[i' * sz + j]'(by omega)) := Array.getElem?_eq_getElem (by omega)
      have hrr : r[i' * sz + j]? = some (r[i' * sz + j]'(by omega)) := List.getElem?_eq_getElem (by omega)
      exact ⟨_, hv, ((q3 _ _ _ hv hrr).unD (u2 _ _ _ hrr hj)).mono hf.rd hf.cell⟩)
  unfold Oper.wp
  rw [hrun]
  refine hK (g.new d (some w.heap.size) len) _ _ ?_ ⟨some ⟨w.heap.size, 0, none⟩, by rw [hd]; exact eval_put_same (by rw [hs.nt]; exact hN)⟩
  rw [hd]
  refine h1.put hN (.one ?_)
  have := RepCV.sl (P := P) (g := g.new d (some w.heap.size) len) (w := w.alloc (.cells vals' e)) (r := d) (b := w.heap.size) len sz (by simp [Gh.new, updO]) (by simp [Gh.new, updN]) (by simp [Gh.new, updN]; unfold maxLen; omega)
  simpa [Gh.new, updN] using this

theorem opx_cby (hτ : tabB P 0 τ = true) {t d e by_ r n : Nat} {x : Operand} {rows : List (List Cell)} {F' : List (Nat × SV)} {H' : List (Nat × VH)} (ho : o.op = .convert t t x) (hd : o.dst = some d) (hN : d < N) (ht : tyAt τ t = .sl e 1 by_) (he : u8B P e = true) (hx : s.ev x = .one (.sl r n 1)) (hr : getH s.H r = .arr e 1 rows) (hn : n = rows.length) (hn0 : 0 < n) (hH : FrH s.H [r] s.H H') (hF : FrF s.H [r] s.F F') :
    ∀ g a w, Sim P T N w0 g s a w → (∃ A, a.eval x = .slice A n n) → ∀ (K : Act → World → Prop) (Q : Exit → Act → World → Prop), (∀ g' a' w', Sim P T N w0 g' ⟨(d, .one (.d (.list rows))) :: F', H'⟩ a' w' → (∃ A, a'.eval (.tmp d) = .slice A n n) → K a' w') → o.wp P a w K Q := by
  intro g a w hs hA K Q hK
  obtain ⟨hu, inf, hi, hsz⟩ := sliceT_spec (tab_sl hτ ht)
  have h1 := hs.ev x; rw [hx] at h1
  have hh := hs.hH r; rw [hr] at hh
  have hlr : live s.H r := by unfold live; rw [hr]; rfl
  obtain ⟨v, hv⟩ : ∃ v, a.eval x = v := ⟨_, rfl⟩
  rw [hv] at h1
  have h1' := h1.one_inv
  cases h1' with
  | slv => omega
  | @sl r b n sz hb q1 q2 =>
    obtain ⟨g0, hh⟩ := hh
    rcases hh with ⟨h2, _⟩ | ⟨b2, vals, hb2, hbl, g2, g3, g4, g5⟩
    · rw [hb] at h2; cases h2
    obtain rfl : b = b2 := by rw [hb] at hb2; injection hb2
    have hshape : w.shape? b = some (e, vals.size) := by unfold World.shape?; rw [show w.heap[b]? = some (.cells vals e (0, 0)) from hbl]
    obtain ⟨f1, f2, f3⟩ := freeze_spec (k := vals.size) hbl
    have hrun : (execOp a.eval o).run P w = .ok (.value (.slice (some ⟨b, 0, none⟩) n (g.κ r))) (w.freeze ⟨b, vals.size, none⟩ 1) := by
      simp [execOp, ho, hv, convert, run_underlying hu, run_underlying (u8B_spec he), markStringish, hshape]
    obtain ⟨b1, b2, b3⟩ := hs.gi.bd r b hlr hb
    have hs2 := hs.fr hH hF
    have hrep : RepCV P (g.fr s.H [r] w) w (.slice (some ⟨b, 0, none⟩) n (g.κ r)) (.d (.list rows)) := CVz.rep hs (.fz (by simp) hr hn) h1.one_inv
    have hs3 := hs2.mark b1 (fun r' hl' hb' => by
      have hk := (hH.get r').live hl'
      have := hs.gi.inj r' r b hk.2 hlr hb' hb
      subst this
      simp at hk) b3 f1 f2 f3 (by
      show g.ex b = none
      cases hx : g.ex b with
      | none => rfl
      | some o => exact absurd hb ((hs.gi.ex b o hx).2.2.2.2.2 r hlr))
    unfold Oper.wp
    rw [hrun]
    have ek : g.κ r = n := by
      obtain ⟨A, hA⟩ := hA
      rw [hv] at hA
      injection hA
    refine hK (g.fr s.H [r] w) _ _ ?_ ⟨some ⟨b, 0, none⟩, by rw [hd, eval_put_same (by rw [hs.nt]; exact hN), ek]⟩
    rw [hd]
    exact hs3.put hN (.one (hrep.move ⟨fun _ _ h => h, fun b o _ => f3 _⟩ (fun _ h => h) fun _ _ => ⟨rfl, rfl⟩))
end
@[irreducible] def rgx (k : Wk) (w0 : Org) (b n : Nat) (ops : Array Oper) (l : List Oper) (Q : St → Prop) (s : St) : Prop :=
  ∀ g a w, Sim k.P k.T k.N w0 g s a w → (∃ A, a.eval (.tmp b) = .slice A n n) → ∀ Q' : Exit → Act → World → Prop, (∀ g' s' a' w', Q s' → Sim k.P k.T k.N w0 g' s' a' w' → Q' .normal a' w') → wpList k.P ops Q' l a w
def dstNe (b : Nat) (l : List Oper) : Bool := l.all fun o => match o.dst with | some d => !(Nat.beq d b) | none => true
theorem dstNe_spec {b : Nat} {l : List Oper} (h : dstNe b l = true) : ∀ o ∈ l, ∀ d, o.dst = some d → d ≠ b := fun o ho d hd e => by
  have := List.all_eq_true.1 h o ho
  rw [hd] at this
  subst e
  simp at this
section
variable {k : Wk} {w0 : Org} {ops : Array Oper} {l rest : List Oper} {Q : St → Prop} {F F' : List (Nat × SV)} {H H' : List (Nat × VH)} {d b n t : Nat} {p p' pa pb pc pd : String} {af af' afa afb afc afd : Array Edge} {s : St}
theorem x_mid (mid : List Oper) (hb : dstNe b mid = true) (h : rg k w0 ops mid (fun s' => rgx k w0 b n ops rest Q s') s) : rgx k w0 b n ops (mid ++ rest) Q s := by
  unfold rgx
  intro g a w hs hA Q' hQ
  obtain ⟨A, hA⟩ := hA
  have h1 := rgO h g a w hs (fun e a w => match e with | .normal => ∃ g' s', rgx k w0 b n ops rest Q s' ∧ Sim k.P k.T k.N w0 g' s' a w | e => Q' e a w) fun g' s' a' w' h1 h2 => ⟨g', s', h1, h2⟩
  refine wpl_thr (fun e a w he h => ?_) (fun a' w' hh hv => ?_) mid a w (dstNe_spec hb) hA h1
  · cases e <;> first | exact absurd rfl he | exact h
  · obtain ⟨g', s', h2, h3⟩ := hh
    unfold rgx at h2
    exact h2 g' a' w' h3 ⟨A, hv⟩ Q' hQ
theorem x_mid4 {o1 o2 o3 o4 : Oper} (hb : dstNe b [o1, o2, o3, o4] = true) (h : rg k w0 ops [o1, o2, o3, o4] (fun s' => rgx k w0 b n ops rest Q s') s) : rgx k w0 b n ops (o1 :: o2 :: o3 :: o4 :: rest) Q s := x_mid [o1, o2, o3, o4] hb h
theorem x_st {d0 b t ty ty' m e by_ : Nat} {zs : List Z} {parts : Array (Nat × Operand)} {cp : List (Nat × List CV)} {r : List CV} {fl : List Cell} {xs : List Int} {p1 p2 : Prop} (hN0 : Nat.blt d0 k.N = true) (hN : Nat.blt b k.N = true) (ht : tyAt k.τ t = .sl e 1 by_) (hz : (tyAt k.τ e).zs = some zs) (hzl : zs.length = 1)
    (hp : partsOf ⟨F, H⟩ parts.toList = some cp) (hr : cfill ((List.range m).map fun i => (i * 1, 1)) (List.replicate (m * 1) .u) cp = some r) (hfl : unDL r = some fl) (h0 : Nat.blt 0 (m * 1) = true) (hm : Nat.ble (m * 1) 16777216 = true) (hf : (St.mk F H).fresh d0 = true) (he : u8B k.P e = true)
    (hF : fzK d0 1 (chunks 1 m fl) ((d0, .one (.sl d0 m 1)) :: F) (fun a p => some (a, p)) = some (F', p1)) (hH : fzHK d0 1 (chunks 1 m fl) ((d0, .arr e 1 (chunks 1 m fl)) :: H) (fun a p => some (a, p)) = some (H', p2)) (hpp : p1 ∧ p2) (hrow : chunks 1 m fl = xs.map irow_u8)
    (h : rgx k w0 b m ops l Q ⟨(b, .one (.d (.list (xs.map irow_u8)))) :: F', H'⟩) : rg k w0 ops (⟨some d0, .buildSlice t m parts, ty, p, af, none⟩ :: ⟨some b, .convert t t (.tmp d0), ty', p', af', none⟩ :: l) Q ⟨F, H⟩ := by
  have hg : getH ((d0, VH.arr e 1 (chunks 1 m fl)) :: H) d0 = .arr e 1 (chunks 1 m fl) := by simp [getH]
  obtain ⟨l1, q1, h1, h2⟩ := fzK_ok hg ((d0, SV.one (.sl d0 m 1)) :: F) fun a p => some (a, p)
  obtain ⟨l2, q2, h3, h4⟩ := fzHK_ok hg ((d0, VH.arr e 1 (chunks 1 m fl)) :: H) fun a p => some (a, p)
  rw [h1] at hF
  rw [h3] at hH
  injection hF with hF
  injection hF with e1 e2
  injection hH with hH
  injection hH with e3 e4
  subst e1
  subst e2
  subst e3
  subst e4
  refine rgI fun g a w hs Q' hQ => wpList_plain rfl fun K hK => ?_
  refine opx_buildSlice k.ok rfl rfl (nlt hN0) ht hz hp hr hfl (nlt h0) (Nat.le_of_ble_eq_true hm) (St.fresh_spec hf).1 (St.fresh_spec hf).2.1 hzl g a w hs K Q' fun g1 a1 w1 hs1 hA1 => hK _ _ ?_
  refine wpList_plain rfl fun K2 hK2 => ?_
  have h0' := nlt h0
  refine opx_cby (s := ⟨(d0, .one (.sl d0 m 1)) :: F, (d0, .arr e 1 (chunks 1 m fl)) :: H⟩) (r := d0) (n := m) (x := .tmp d0) k.ok rfl rfl (nlt hN) ht he (by simp [St.ev, getF]) hg (chunks_len _ _ _).symm (by omega) (h4 hpp.2) (h2 hpp.1) g1 a1 w1 hs1 hA1 K2 Q' fun g2 a2 w2 hs2 hA2 => hK2 _ _ ?_
  rw [hrow] at hs2
  unfold rgx at h
  exact h g2 a2 w2 hs2 hA2 Q' hQ
theorem x_nap {d b t ty n e by_ : Nat} {y : Operand} {zs : List Z} {xs ys : List Int} {rows' : List (List Cell)} (hN : Nat.blt d k.N = true) (ht : tyAt k.τ t = .sl e 1 by_) (hz : (tyAt k.τ e).zs = some zs) (hzl : zs.length = 1) (hx : (St.mk F H).ev (.tmp b) = .one (.d (.list (xs.map irow_u8)))) (hn : n = xs.length) (hn0 : Nat.blt 0 n = true)
    (hy : Src ⟨F, H⟩ 1 ((St.mk F H).ev y) rows') (hrow : rows' = ys.map irow_u8) (hy0 : 0 < ys.length) (hfr : (St.mk F H).fresh d = true) (hb0 : by_ = 1) (hbd : xs.length + ys.length ≤ 1000000000)
    (h : rg k w0 ops l Q ⟨(d, .one (.sl d (xs ++ ys).length 1)) :: F, (d, .arr e 1 ((xs ++ ys).map irow_u8)) :: H⟩) : rg k w0 ops [] (fun s' => rgx k w0 b n ops (⟨some d, .call { callee := .builtin .append, args := #[.tmp b, y], argTypes := #[t, t] }, ty, p, af, none⟩ :: l) Q s') ⟨F, H⟩ := by
  subst hrow
  refine i_nil ?_
  unfold rgx
  intro g a w hs hA Q' hQ
  refine wpList_plain rfl fun K hK => ?_
  obtain ⟨A, hA⟩ := hA
  obtain ⟨hu, inf, hi, hsz⟩ := sliceT_spec (tab_sl k.ok ht)
  have hby : inf.bytes = by_ := by
    have := tab_by k.ok ht
    unfold bytesB at this
    rw [hi] at this
    exact Nat.eq_of_beq_eq_true this
  obtain ⟨i, z, hi2, hz1, hz2, hz3⟩ := zeroB_spec (tab_zs k.ok hz)
  obtain rfl : i = inf := by rw [hi] at hi2; injection hi2 with h; exact h.symm
  have hzs : z.cells.size = 1 := by rw [hz2]; simp [hzl]
  have hr1 : ∀ zs : List Int, ∀ row ∈ zs.map irow_u8, row.length = 1 := fun zs row hr => by
    obtain ⟨z, _, rfl⟩ := List.mem_map.1 hr; rfl
  have hX : Src ⟨F, H⟩ 1 ((St.mk F H).ev (.tmp b)) (xs.map irow_u8) := by rw [hx]; exact .d _ (hr1 xs)
  obtain ⟨A1, c1, olds, ex, hC1, hol, ho1, hor⟩ := hX.vals Nat.one_pos hs (hs.ev _)
  obtain ⟨A2, c2, news, ey, hC, hnl, hn1, hnr⟩ := hy.vals Nat.one_pos hs (hs.ev y)
  have hnp := nlt hn0
  rw [ex] at hA
  injection hA with _ _ ec
  subst ec
  simp only [List.length_map, Nat.mul_one] at ex ey hol hnl
  obtain ⟨ad1, rfl, _, _⟩ := hC1 0 _ (List.getElem?_eq_getElem (by omega))
  obtain ⟨ad2, rfl, _, _⟩ := hC 0 _ (List.getElem?_eq_getElem (by omega))
  obtain ⟨v', w', hrun, hown', hg'⟩ := run_append_arg_grows (P := k.P) (w := w) t ty e i z 1 by_ hu hi hz1 hsz hby hzs Nat.one_pos ad1 xs.length c1 olds (by omega) (fun j u hj => by obtain ⟨ad, h1, _, h2⟩ := hC1 j u hj; injection h1 with h1; subst h1; exact h2) ad2 ys.length c2 news (by omega) (fun j u hj => by obtain ⟨ad, h1, _, h2⟩ := hC j u hj; injection h1 with h1; subst h1; exact h2) (by omega) (by unfold maxLen; omega) (by subst hb0; omega)
  unfold Oper.wp
  simp [execOp, resolve, invoke, builtin, ex, ey, hrun, Result.andThen]
  refine hK _ _ ?_
  have hlen : ((xs ++ ys).map irow_u8).length = xs.length + ys.length := by simp
  have hfut : Fut g.Rd g.Rd w w' := ⟨fun _ _ h => h, fun b o' hb => World.cell?_of_block (w := w) (a := ⟨b, o', none⟩) (hg'.block b (hs.gi.rd b o' hb).1 (fun e => by cases e))⟩
  obtain ⟨q, q1, q2, q3⟩ := own_arr (P := k.P) (g := g) (d := d) hown' hlen.symm (hr1 _) (fun i j row x hi hj => by
    rw [List.map_append] at hi
    by_cases hlt : i < (xs.map irow_u8).length
    · rw [List.getElem?_append_left hlt] at hi
      obtain ⟨hj', u, hu, hr⟩ := hor i j row x hi hj
      refine ⟨u, ?_, hr.mono hfut.rd hfut.cell⟩
      rw [List.getElem?_append_left (List.getElem?_eq_some_iff.1 hu).1]
      exact hu
    · rw [List.getElem?_append_right (by omega)] at hi
      obtain ⟨hj', u, hu, hr⟩ := hnr _ j row x hi hj
      refine ⟨u, ?_, hr.mono hfut.rd hfut.cell⟩
      simp only [List.length_map] at hlt hu
      rw [List.getElem?_append_right (by omega)]
      rw [← hu]
      congr 1
      omega)
  have h1 := hs.newG (d := d) (St.fresh_spec hfr).1 (St.fresh_spec hfr).2.1 (r0 := none) (ob := none) (nb := v'.ownBlock) (k := q) (vh := .arr e 1 ((xs ++ ys).map irow_u8)) (fun b hb => by cases hb) hg' (fun b hb => ⟨.inr (hown'.lt b hb).1, q3 b hb⟩) rfl (fun _ => q1)
  have h2 := h1.put (x := d) (nlt hN) (.one q2)
  rw [List.length_map] at h2
  exact rgO h _ _ _ h2 Q' hQ
end
end Go.Proofs.Ytbnmcdnkeipdhaa
/- Results that are owned lists, of which only a property is known. -/
set_option linter.all false
set_option maxRecDepth 20000
namespace Go.Proofs.Ytbnmcdnkeipdhaa
open Go.RowKit Go.Shelf
theorem v_cut {G R : Prop} (hP : Hld (Chk False R)) : G := (chk_c hP).elim
def OwnN {α : Type} (φ : List α → Prop) (gg : α → List Cell) (et sz : Nat) (x : SV) (y : List (Nat × VH)) : Prop := ∃ l, φ l ∧ OwnL et sz (l.map gg) x y
def ICqn {α : Type} (pre : Prop) (f : Nat) (args : List SV) (et sz : Nat) (φ : List α → Prop) (gg : α → List Cell) : Prop := pre → ICo Try.prog 26 f args (OwnN φ gg et sz)
section
variable {P : Program} {T : TypeId} {N : Nat} {w0 : Org} {s : St} {o : Oper}
theorem opr_callln {α : Type} {φ : List α → Prop} {gg : α → List Cell} {f : FuncId} {xs : Array Operand} {ts : Array TypeId} {args : List SV} {et sz : Nat} {d : Nat} (ho : o.op = .call { callee := .value (.func f), args := xs, argTypes := ts }) (hd : o.dst = some d) (hN : d < N) (hic : ICo P T f args (OwnN φ gg et sz))
    (ha : PsSL P T s true xs.toList args) (f1 : ∀ x, (getF s.F x).has d = false) (f2 : ∀ r, (getH s.H r).has d = false) (hf : ∀ x, (gg x).length = sz) : OpR P T N w0 s o (fun s' => ∃ l, φ l ∧ s' = (s.hput d (.arr et sz (l.map gg))).put d (.one (.sl d l.length sz))) := by
  intro g a w hs K Q hK
  obtain ⟨k1, k2⟩ := ha.rep hs
  have hrun : (execOp a.eval o).run P w = .ok (.enter f (xs.map a.eval)) w := by
    simp only [execOp, ho, Sem.run_bind, resolve, Act.eval, Deferred.ofValue, Sem.run_pure, Result.andThen_ok, invoke]
    have := hic.1 (#[] ++ xs.map a.eval ++ #[]) w
    simpa using this
  unfold Oper.wp
  rw [hrun, Oper.upon_enter]
  refine (hic.2 (psG g s.H w true) w (xs.map a.eval) (fun _ => rfl) (ps_gi hs true) (by simpa using k1) fun j v sv hv hsv => k2 j v sv (by simpa using hv) hsv).mono fun e w' ⟨u, sv, H', g', ⟨l, hφ, h12⟩, h3, h4, h5, h6⟩ => ?_
  have hll : l.length = (l.map gg).length := (List.length_map _).symm
  have hrow : ∀ row ∈ l.map gg, row.length = sz := map_rows hf
  have hK := fun g' s' a' w' e h => hK g' s' a' w' (⟨l, hφ, e⟩ : ∃ l, φ l ∧ s' = (s.hput d (.arr et sz (l.map gg))).put d (.one (.sl d l.length sz))) h
  rw [hll] at hK
  generalize hrows : l.map gg = rows at *
  subst h3
  rcases h12 with ⟨h1, h2, h0⟩ | ⟨r, h1, h2⟩
  · subst h1 h2 h0
    have hj := hs.graft (d := d) (g' := g') (w' := w') (bd := none) (kd := 0) (vh := .arr et sz []) f1 f2 (fun b hb => by cases hb) (fun b o _ => by simp) h6 ⟨fun row hr => (by cases hr), .inl ⟨graft_hi.1, rfl⟩⟩
    refine hK (g.graft g' d none 0) _ _ _ rfl ?_
    rw [hd]
    refine hj.put hN (.one ?_)
    cases h4 with
    | one h4 => cases h4; exact .slv sz graft_hi.1
  · subst h1 h2
    have hh := h5.hH r
    have hg : getH [(r, VH.arr et sz rows)] r = .arr et sz rows := by simp [getH]
    rw [hg] at hh
    have hl : live [(r, VH.arr et sz rows)] r := by unfold live; rw [hg]; rfl
    obtain ⟨q0, q⟩ := hh
    have hj := hs.graft (d := d) (g' := g') (w' := w') (bd := g'.β r) (kd := g'.κ r) (vh := .arr et sz rows) f1 f2 (fun b hb => h5.bd r b hl hb) (fun b o hr => h5.rd b o hr r hl) h6 ⟨q0, by
      rcases q with ⟨q1, q2⟩ | ⟨b, vals, q1, q2, q3, q4, q5, q6⟩
      · exact .inl ⟨graft_hi.1.trans q1, q2⟩
      · exact .inr ⟨b, vals, graft_hi.1.trans q1, q2, by rw [graft_hi.2]; exact q3, by rw [graft_hi.2]; exact q4, by rw [graft_hi.2]; exact q5, q6⟩⟩
    refine hK (g.graft g' d (g'.β r) (g'.κ r)) _ _ _ rfl ?_
    rw [hd]
    refine hj.put hN (.one ?_)
    cases h4 with
    | one h4 =>
      rcases h4.sl_inv with q | ⟨b, hb, ha, hb2, hv⟩
      · obtain ⟨q1, q2, q3⟩ := q
        have : RepCV P (g.graft g' d (g'.β r) (g'.κ r)) w' u (.sl d 0 sz) := by
          first
            | (rw [q1]; exact .slv sz (graft_hi.1.trans q3))
            | (rw [q2]; exact .slv sz (graft_hi.1.trans q3))
        first
          | (rw [q1]; exact this)
          | (rw [q2]; exact this)
      · have := RepCV.sl (P := P) (g := g.graft g' d (g'.β r) (g'.κ r)) (w := w') (r := d) (b := b) rows.length sz (graft_hi.1.trans hb) (by rw [graft_hi.2]; exact ha) (by rw [graft_hi.2]; exact hb2)
        rw [graft_hi.2] at this
        rw [hv]
        exact this
end
section
variable {k : Wk} {w0 : Org} {ops : Array Oper} {l : List Oper} {Q : St → Prop} {F : List (Nat × SV)} {H : List (Nat × VH)} {d t : Nat} {p : String} {af : Array Edge} {α : Type} {φ : List α → Prop} {gg : α → List Cell}
theorem v_coln {pre : Prop} {R : List α → Prop} {f : FuncId} {xs : Array Operand} {ts : Array TypeId} {args : List SV} {et sz : Nat} (hN : Nat.blt d k.N = true) (hk : k.P = Try.prog ∧ k.T = 26) (hic : ICqn pre f args et sz φ gg) (ha : PsSL k.P k.T ⟨F, H⟩ true xs.toList args) (hf : ∀ x, (gg x).length = sz) (hfr : (St.mk F H).fresh d = true) (hP : Hld (Chk pre (∀ x, φ x → R x)))
    (h : ∀ ls, φ ls → Hld (R ls) → rg k w0 ops l Q ⟨(d, .one (.sl d ls.length sz)) :: F, (d, .arr et sz (ls.map gg)) :: H⟩) : rg k w0 ops (⟨some d, .call { callee := .value (.func f), args := xs, argTypes := ts }, t, p, af, none⟩ :: l) Q ⟨F, H⟩ := by
  have hic2 : ICo k.P k.T f args (OwnN φ gg et sz) := by
    rw [hk.1, hk.2]; exact hic (chk_c hP)
  exact rgI (irg_op rfl (opr_callln rfl rfl (nlt hN) hic2 ha (St.fresh_spec hfr).1 (St.fresh_spec hfr).2.1 hf) fun s' ⟨ls, h1, h2⟩ => by subst h2; exact rgO (h ls h1 ⟨(chk_p hP).out ls h1⟩))
end
section
variable {τ : List TyI} {fn : Func} {F : List (Nat × SV)} {H : List (Nat × VH)} {α : Type} {φ : List α → Prop} {f : α → List Cell} {xs : List α} {e sz : Nat} {t : Tmp}
theorem o_sln {r n : Nat} (hr : fn.results = #[.tmp t]) (hv : getF F t = .one (.sl r n sz)) (hH : getH H r = .arr e sz (xs.map f)) (hn : n = xs.length) (hp : φ xs) : RetQo τ fn (OwnN φ f e sz) .ret ⟨F, H⟩ := by
  refine o_1 hr hv (H := [(r, .arr e sz (xs.map f))]) (.cons (by show VHle [] r (getH H r) _; rw [hH]; exact .arr rfl rfl) .nil) ⟨xs, hp, .inr ⟨r, ?_, rfl⟩⟩
  rw [hn, List.length_map]
theorem o_nln (hr : fn.results = #[.tmp t]) (hv : getF F t = .one .nil) (hp : φ []) : RetQo τ fn (OwnN φ f e sz) .ret ⟨F, H⟩ :=
  o_1 hr hv (H := []) .nil ⟨[], hp, .inl ⟨rfl, rfl, rfl⟩⟩
end
end Go.Proofs.Ytbnmcdnkeipdhaa
/- Texts put together. -/
set_option linter.all false
set_option maxRecDepth 20000
namespace Go.Proofs.Ytbnmcdnkeipdhaa
open Go.RowKit Go.Shelf
section
variable {P : Program} {T : TypeId} {N : Nat} {w0 : Org} {s : St} {o : Oper}
theorem ope_cat {t t' : TypeId} {x y : Operand} {a b : ByteArray} (hu : strB P t = true) (ho : o.op = .binOp .add t x y t') (hx : s.ev x = .one (.d (.str a))) (hy : s.ev y = .one (.d (.str b))) (h : a.size + b.size ≤ 1000000000) : OpE P T N w0 s o (.one (.d (.str (a ++ b)))) :=
  ope_val fun g ac w hs => by
    have h1 := hs.ev x; rw [hx] at h1
    have h2 := hs.ev y; rw [hy] at h2
    have e : (eqGuard .add t x y (.string a) (.string b)).run P w = .ok () w := by unfold eqGuard; rfl
    refine ⟨.string (a ++ b), ?_, .one (.d (.str _ (by rw [ByteArray.size_append]; unfold maxLen; omega)))⟩
    simp [execOp, ho, h1.str_inv.1, h2.str_inv.1, Sem.run_bind, e, binOp, Op.stringOp, Result.andThen_ok, Sem.run_pure]
    omega
end
section
variable {k : Wk} {w0 : Org} {ops : Array Oper} {l : List Oper} {Q : St → Prop} {F : List (Nat × SV)} {H : List (Nat × VH)} {d t ty tb : Nat} {x y : Operand} {p : String} {af : Array Edge} {a b : ByteArray}
theorem v_cat (hN : Nat.blt d k.N = true) (hu : strB k.P t = true) (hx : (St.mk F H).ev x = .one (.d (.str a))) (hy : (St.mk F H).ev y = .one (.d (.str b))) (hc : a.size + b.size ≤ 1000000000) (h : rg k w0 ops l Q ⟨(d, .one (.d (.str (a ++ b)))) :: F, H⟩) : rg k w0 ops (⟨some d, .binOp .add t x y tb, ty, p, af, none⟩ :: l) Q ⟨F, H⟩ :=
  rgI (irg_e rfl rfl (nlt hN) (ope_cat hu rfl hx hy hc) (rgO h))
end
end Go.Proofs.Ytbnmcdnkeipdhaa
