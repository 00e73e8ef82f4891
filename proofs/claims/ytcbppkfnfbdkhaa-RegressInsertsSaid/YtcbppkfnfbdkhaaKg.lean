/- slices.Insert of rules, as an operation. -/
import Derived.Test.YtcbppkfnfbdkhaaKe
import Derived.Test.YtcbppkfnfbdkhaaLb4
set_option linter.all false
set_option maxRecDepth 100000
set_option maxHeartbeats 4000000
namespace Go.Proofs.Ytcbppkfnfbdkhaa
open Go.RowKit Go.Shelf
theorem split_i {α : Type} {l : List α} {x : α} {k i : Nat} (hk : k ≤ l.length) : (l.take k ++ (x :: l.drop k))[i]? = if i < k then l[i]? else if i = k then some x else l[i - 1]? := by
  have hlen : (l.take k).length = k := by rw [List.length_take]; omega
  by_cases h1 : i < k
  · rw [if_pos h1, List.getElem?_append_left (by omega), List.getElem?_take, if_pos h1]
  · rw [if_neg h1, List.getElem?_append_right (by omega), hlen]
    by_cases h2 : i = k
    · rw [if_pos h2, h2, Nat.sub_self]; rfl
    · rw [if_neg h2, show i - k = (i - k - 1) + 1 by omega, List.getElem?_cons_succ, List.getElem?_drop, show k + (i - k - 1) = i - 1 by omega]
section
variable {P : Program} {T : TypeId} {N : Nat} {w0 : Org} {g g' : Gh} {s : St} {a : Act} {w w' : World} {o : Oper}
theorem opr_insR {x y z : Operand} {ts : Array TypeId} {r r2 n d : Nat} {i : Int} {rows : List (List Cell)} {row : List Cell} (hP : P = Try.prog) (ho : o.op = .call { callee := .value (.func 51), args := #[x, z, y], argTypes := ts }) (hd : o.dst = some d) (hN : d < N) (hx : s.ev x = .one (.sl r n 7)) (hzz : s.ev z = .one (.d (.int .i64 i))) (hy : s.ev y = .one (.sl r2 1 7)) (hr : getH s.H r = .arr 56 7 rows) (hr2 : getH s.H r2 = .arr 56 7 [row]) (hne : r2 ≠ r) (hn : n = rows.length) (hfr : allH r s.H = true) (hi : 0 ≤ i ∧ i ≤ rows.length) (hl : rows.length ≤ 1000000000) :
    OpR P T N w0 s o (fun s' => s' = ⟨(d, .one (.sl r (rows.length + 1) 7)) :: killF r s.F, (r, .arr 56 7 (rows.take i.toNat ++ (row :: rows.drop i.toNat))) :: s.H⟩) := by
  subst hP
  intro g a w hs K Q hK
  subst hn
  have hex := hs.ev x; rw [hx] at hex
  have hey := hs.ev y; rw [hy] at hey
  have hez := hs.ev z; rw [hzz] at hez
  have hzi : a.eval z = .int .i64 i := hez.int_inv.1
  obtain ⟨xs, hown, hrl, hob, hxr⟩ := (Tgt.sl hr).owns (by omega) hs hex
  have hen : Enters Try.prog 51 := enters_of Try.func51 rfl rfl
  have hrun : (execOp a.eval o).run Try.prog w = .ok (.enter 51 (#[x, z, y].map a.eval)) w := by
    simp only [execOp, ho, Sem.run_bind, resolve, Act.eval, Deferred.ofValue, Sem.run_pure, Result.andThen_ok, invoke]
    have := hen (#[] ++ #[x, z, y].map a.eval ++ #[]) w
    simpa using this
  have hmm : #[x, z, y].map a.eval = #[a.eval x, .int .i64 i, a.eval y] := by simp only [List.map_toArray, List.map_cons, List.map_nil, hzi]
  rw [hmm] at hrun
  have hl2 : live s.H r2 := by unfold live; rw [hr2]; rfl
  have hlr : live s.H r := by unfold live; rw [hr]; rfl
  have hh2 := hs.hH r2; rw [hr2] at hh2
  have hrow : row.length = 7 := hh2.1 row (by simp)
  rcases arr_vals hs hr2 (v := a.eval y) hey.one_inv with ⟨_, e, _⟩ | ⟨vb, vals2, hvb, ey, hbl2, m1, m2, m3, m4⟩
  · cases e
  simp only [List.length_cons, List.length_nil, Nat.zero_add] at ey m2
  rw [ey] at hrun
  have hv2 : 7 ≤ vals2.size := by omega
  let vs := vals2.toList.take 7
  have hvl : vs.length = 7 := by simp [vs]; omega
  have hvg : ∀ j u, vs[j]? = some u → vals2[j]? = some u := fun j u h => by
    rw [show vs = vals2.toList.take 7 from rfl, List.getElem?_take] at h
    split at h
    · rwa [Array.getElem?_toList] at h
    · cases h
  have hvr : ∀ (j : Nat) (c : Cell), row[j]? = some c → ∃ u, vs[j]? = some u ∧ RepCell g.Rd w u c := fun j c hj => by
    have hj7 : j < 7 := by rw [← hrow]; exact (List.getElem?_eq_some_iff.1 hj).1
    obtain ⟨u, h1, h2⟩ := m4 0 j row c rfl hj
    rw [Nat.zero_mul, Nat.zero_add] at h1
    exact ⟨u, by rw [show vs = vals2.toList.take 7 from rfl, List.getElem?_take, if_pos hj7, Array.getElem?_toList]; exact h1, h2⟩
  have h1v : ∀ u ∈ vs, u.oneCell' = true := fun u hu => by
    obtain ⟨j, hj, rfl⟩ := List.getElem_of_mem hu
    rw [hvl] at hj
    obtain ⟨u2, h1, h2⟩ := hvr j row[j] (List.getElem?_eq_getElem (by omega))
    rw [List.getElem?_eq_getElem (by omega)] at h1
    injection h1 with h1
    rw [h1]; exact h2.one
  have hxl : xs.length = rows.length * 7 := hown.1
  have h1c : ∀ u ∈ xs, u.oneCell' = true := fun u hu => by
    obtain ⟨q, hq, rfl⟩ := List.getElem_of_mem hu
    have hq1 : q / 7 < rows.length := by omega
    have hr7 := hrl _ (List.getElem_mem hq1)
    obtain ⟨u2, h1, h2⟩ := hxr (q / 7) (q % 7) rows[q / 7] (rows[q / 7][q % 7]'(by omega)) (List.getElem?_eq_getElem hq1) (List.getElem?_eq_getElem _)
    rw [show q / 7 * 7 + q % 7 = q by omega, List.getElem?_eq_getElem hq] at h1
    injection h1 with h1
    rw [h1]; exact h2.one
  have hsz0 := hs.gi.sz
  have hvne : (a.eval x).ownBlock ≠ some vb := fun e => by
    obtain ⟨q, h1, h2, h3⟩ := hob vb e
    injection h1 with h1; subst h1
    exact hne (hs.gi.inj r2 r vb hl2 hlr hvb h3)
  obtain ⟨k, hk⟩ : ∃ k : Nat, i = k := ⟨i.toNat, by omega⟩
  subst hk
  have hcall := insR_c 0 rows.length k vb (g.κ r2) (a.eval x) xs vs w hown (by omega) hl (by omega) hvl h1c hvne (fun j u hj => by rw [hbl2.cell]; exact hvg j u hj) h1v 56 vals2.size (by unfold World.shape?; rw [show w.heap[vb]? = _ from hbl2]) (fun j => hbl2.frozen j)
  unfold Oper.wp
  rw [hrun, Oper.upon_enter]
  refine hcall.mono fun e' w' ⟨v', q1, hown', hg', hat⟩ => ?_
  subst q1
  have hfut : Fut g.Rd g.Rd w w' := ⟨fun _ _ h => h, fun b o' hb => World.cell?_of_block (w := w) (a := ⟨b, o', none⟩) (hg'.block b (hs.gi.rd b o' hb).1 (fun e => by
    obtain ⟨r, _, hl, hr⟩ := hob b e.symm
    exact (hs.gi.rd b o' hb).2.2 r hl hr))⟩
  have hrl2 : ∀ q ∈ rows.take k ++ (row :: rows.drop k), q.length = 7 := fun q hq => by
    rcases List.mem_append.1 hq with h | h
    · exact hrl _ (List.mem_of_mem_take h)
    · rcases List.mem_cons.1 h with rfl | h
      · exact hrow
      · exact hrl _ (List.mem_of_mem_drop h)
  have hlen : (rows.take k ++ (row :: rows.drop k)).length = rows.length + 1 := by
    simp only [List.length_append, List.length_take, List.length_cons, List.length_drop]; omega
  have htk : (xs.take (k * 7)).length = k * 7 := by rw [List.length_take]; omega
  have key : ∀ (i j : Nat) (q : List Cell) (c : Cell), (rows.take k ++ (row :: rows.drop k))[i]? = some q → q[j]? = some c → ∃ u, (xs.take (k * 7) ++ (vs ++ xs.drop (k * 7)))[i * 7 + j]? = some u ∧ RepCell g.Rd w' u c := fun i j q c hq hc => by
    have hj7 : j < 7 := by rw [← hrl2 q (List.mem_of_getElem? hq)]; exact (List.getElem?_eq_some_iff.1 hc).1
    rw [split_i (by omega)] at hq
    by_cases h1 : i < k
    · rw [if_pos h1] at hq
      obtain ⟨u, hu, hrp⟩ := hxr i j q c hq hc
      exact ⟨u, by rw [List.getElem?_append_left (by omega), List.getElem?_take, if_pos (by omega)]; exact hu, hrp.mono hfut.rd hfut.cell⟩
    · rw [if_neg h1] at hq
      by_cases h2 : i = k
      · rw [if_pos h2] at hq
        injection hq with hq; subst hq
        obtain ⟨u, hu, hrp⟩ := hvr j c hc
        exact ⟨u, by rw [List.getElem?_append_right (by omega), List.getElem?_append_left (by omega), htk, show i * 7 + j - k * 7 = j by omega]; exact hu, hrp.mono hfut.rd hfut.cell⟩
      · rw [if_neg h2] at hq
        obtain ⟨u, hu, hrp⟩ := hxr (i - 1) j q c hq hc
        exact ⟨u, by rw [List.getElem?_append_right (by omega), List.getElem?_append_right (by omega), htk, hvl, List.getElem?_drop, show k * 7 + (i * 7 + j - k * 7 - 7) = (i - 1) * 7 + j by omega]; exact hu, hrp.mono hfut.rd hfut.cell⟩
  obtain ⟨kk, q1, q2, q3⟩ := own_arr (P := Try.prog) (g := g) (d := r) hown' hlen.symm hrl2 key
  have hs1 : Sim Try.prog T N w0 g ⟨killF r s.F, s.H⟩ a w := hs.less (fun y => by
    show getF (killF r s.F) y = getF s.F y ∨ getF (killF r s.F) y = .u
    rw [killF_get]
    split
    · exact .inr rfl
    · exact .inl rfl) fun _ => .inl rfl
  have hkill : ∀ y, (getF (killF r s.F) y).has r = false := fun y => by
    rw [killF_get]
    split
    · rfl
    · exact Bool.eq_false_iff.2 (by assumption)
  have h1 := hs1.newG (d := r) hkill (fun q => allH_get hfr q) (r0 := some r) (ob := (a.eval x).ownBlock) (nb := v'.ownBlock) (k := kk) (vh := .arr 56 7 (rows.take k ++ (row :: rows.drop k))) hob hg' (fun b hb => by
    refine ⟨?_, q3 b hb⟩
    rcases hat with e | e
    · exact .inl (by rw [← e]; exact hb)
    · rw [e] at hb; injection hb with hb; exact .inr (by omega)) rfl (fun _ => q1)
  refine hK (g.new r v'.ownBlock kk) _ _ _ rfl ?_
  rw [hd]
  rw [hlen] at q2
  refine (h1.put hN (.one q2)).alike (fun _ => .inl rfl) fun q => ?_
  show getH ((r, _) :: s.H) q = getH ((r, _) :: goneH (some r) s.H) q
  simp only [hget_put, goneH_get, Int.toNat_natCast]
  by_cases e9 : r = q <;> simp [e9]
end
section
variable {k : Wk} {w0 : Org} {ops : Array Oper} {l : List Oper} {Q : St → Prop} {F F' : List (Nat × SV)} {H : List (Nat × VH)} {d t : Nat} {p : String} {af : Array Edge}
theorem v_insR {α : Type} {f : α → List Cell} {xs : List α} {x y z : Operand} {ts : Array TypeId} {r r2 n : Nat} {i : Int} {v : α} (hN : Nat.blt d k.N = true) (hk : k.P = Try.prog ∧ True) (hx : (St.mk F H).ev x = .one (.sl r n 7)) (hzz : (St.mk F H).ev z = .one (.d (.int .i64 i))) (hy : (St.mk F H).ev y = .one (.sl r2 1 7)) (hr : getH H r = .arr 56 7 (xs.map f)) (hr2 : getH H r2 = .arr 56 7 ([v].map f)) (hne : Nat.beq r2 r = false) (hn : n = xs.length) (hfr : allH r H = true) (hF : killK r F (fun a => some a) = some F') (hz : 0 ≤ i ∧ i ≤ xs.length ∧ xs.length ≤ 1000000000)
    (h : rg k w0 ops l Q ⟨(d, .one (.sl r (xs.take i.toNat ++ (v :: xs.drop i.toNat)).length 7)) :: F', (r, .arr 56 7 ((xs.take i.toNat ++ (v :: xs.drop i.toNat)).map f)) :: H⟩) :
    rg k w0 ops (⟨some d, .call { callee := .value (.func 51), args := #[x, z, y], argTypes := ts }, t, p, af, none⟩ :: l) Q ⟨F, H⟩ := by
  rw [killK_eq] at hF
  injection hF with hF
  subst hF
  have hlen : (xs.take i.toNat ++ (v :: xs.drop i.toNat)).length = xs.length + 1 := by
    simp only [List.length_append, List.length_take, List.length_cons, List.length_drop]; omega
  rw [hlen] at h
  have hm : (xs.take i.toNat ++ (v :: xs.drop i.toNat)).map f = (xs.map f).take i.toNat ++ (f v :: (xs.map f).drop i.toNat) := by
    rw [List.map_append, List.map_cons, List.map_take, List.map_drop]
  rw [hm] at h
  have := opr_insR (o := ⟨some d, .call { callee := .value (.func 51), args := #[x, z, y], argTypes := ts }, t, p, af, none⟩) (P := k.P) (T := k.T) (N := k.N) (w0 := w0) (s := ⟨F, H⟩) (rows := xs.map f) (row := f v) hk.1 rfl rfl (nlt hN) hx hzz hy hr hr2 (fun e => by rw [e] at hne; simp at hne) (by rw [List.length_map]; exact hn) hfr (by rw [List.length_map]; omega) (by rw [List.length_map]; omega)
  rw [List.length_map] at this
  exact rgI (irg_h rfl this (rgO h))
end
end Go.Proofs.Ytcbppkfnfbdkhaa
