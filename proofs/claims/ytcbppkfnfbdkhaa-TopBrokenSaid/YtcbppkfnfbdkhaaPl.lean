/- steps.change, called for an element of a list of the caller's own. -/
import Derived.Test.YtcbppkfnfbdkhaaPh
import Derived.Test.YtcbppkfnfbdkhaaLb4
set_option linter.all false
set_option maxRecDepth 20000
set_option maxHeartbeats 4000000
namespace Go.Proofs.Ytcbppkfnfbdkhaa
open Go.RowKit Go.Shelf
theorem csm_val {P : Program} {g : Gh} {w : World} {v : Value} {c : Csm} (h : RepSV P g w v c.v) : v = .agg #[.int .i64 c.pool, .bool c.dual, .bool c.live] := by
  obtain ⟨⟨l⟩, rfl, hs, hr⟩ := h.agg_inv
  match l, hs with
  | [x, y, z], _ =>
    have hx := hr 0 x _ rfl rfl
    have hy := hr 1 y _ rfl rfl
    have hz := hr 2 z _ rfl rfl
    cases hx; rename_i hx; cases hx
    cases hy; rename_i hy; cases hy
    cases hz; rename_i hz; cases hz
    rfl
theorem wf_23 : (Lit.int .i64 0).wf = true ∧ (Lit.int .i64 2).wf = true ∧ (Lit.int .i64 3).wf = true := by decide +kernel
theorem chg_wf {c : Csm} {u : Unt} {kind : Int} {iss : Bool} (h1 : (Lit.int .i64 u.stored).wf = true) (h2 : (Lit.int .i64 u.used).wf = true) : (Lit.int .i64 (chgS c u kind iss).1.stored).wf = true ∧ (Lit.int .i64 (chgS c u kind iss).1.used).wf = true := by
  obtain ⟨w0, w2, w3⟩ := wf_23
  have k0 : (Lit.int .i64 (chg0 c u kind iss).1.stored).wf = true ∧ (Lit.int .i64 (chg0 c u kind iss).1.used).wf = true := by
    unfold chg0
    split
    · refine ⟨?_, h2⟩
      show (Lit.int .i64 (if c.dual = true then 3 else 2)).wf = true
      split
      · exact w3
      · exact w2
    · split
      · exact ⟨w2, h2⟩
      · exact ⟨h1, h2⟩
  unfold chgS
  split
  · exact ⟨h1, w0⟩
  · split
    · exact ⟨h1, h1⟩
    · split
      · exact ⟨k0.1, k0.1⟩
      · exact k0
section
variable {T : TypeId} {N : Nat} {w0 : Org} {s : St} {o : Oper} {d : Nat}
theorem opr_change {xs : Array Operand} {ts : Array TypeId} {x0 x1 x2 x3 : Operand} {c : Csm} {kind : Int} {iss : Bool} {r i eU : Nat} {us : List Unt} (ho : o.op = .call { callee := .value (.func 174), args := xs, argTypes := ts }) (hxs : xs = #[x0, x1, x2, x3]) (hd : o.dst = some d) (hN : d < N)
    (e0 : s.ev x0 = c.v) (e1 : s.ev x1 = .one (.el r i 0 3)) (e2 : s.ev x2 = iv kind) (e3 : s.ev x3 = bv iss) (hH : getH s.H r = .arr eU 3 (us.map Unt.row)) (hi : i < us.length) :
    OpR Try.prog T N w0 s o (fun s' => s' = (s.hput r (.arr eU 3 ((us.set i (chgS c (gt us (i : Int)) kind iss).1).map Unt.row))).put d (bv (chgS c (gt us (i : Int)) kind iss).2)) := by
  intro g a w hs K Q hK
  subst hxs
  have h0 := hs.ev x0; rw [e0] at h0
  have h1 := hs.ev x1; rw [e1] at h1
  have h2 := hs.ev x2; rw [e2] at h2
  have h3 := hs.ev x3; rw [e3] at h3
  have v0 := csm_val h0
  obtain ⟨b, hb, v1⟩ := h1.one_inv.el_inv
  obtain ⟨v2, _⟩ := h2.int_inv
  have v3 := h3.bool_inv
  have hic : Enters Try.prog 174 := enters_of Try.func174 (by kernel_rfl) rfl
  have hrun : (execOp a.eval o).run Try.prog w = .ok (.enter 174 (#[x0, x1, x2, x3].map a.eval)) w := by
    simp only [execOp, ho, Sem.run_bind, resolve, Act.eval, Deferred.ofValue, Sem.run_pure, Result.andThen_ok, invoke]
    have := hic (#[] ++ #[x0, x1, x2, x3].map a.eval ++ #[]) w
    simpa using this
  unfold Oper.wp
  rw [hrun, Oper.upon_enter]
  have hmap : #[x0, x1, x2, x3].map a.eval = #[.agg #[.int .i64 c.pool, .bool c.dual, .bool c.live], .pointer (some ⟨b, i * 3 + 0, none⟩), .int .i64 kind, .bool iss] := by
    simp only [List.map_toArray, List.map_cons, List.map_nil, v0, v1, v2, v3]
  rw [hmap]
  have hh := hs.hH r
  rw [hH] at hh
  obtain ⟨g0, hh⟩ := hh
  rcases hh with ⟨hn, _⟩ | ⟨b2, vals, hb2, hbl, g2, g3, g4, g5⟩
  · rw [hn] at hb; cases hb
  obtain rfl : b = b2 := by rw [hb] at hb2; injection hb2
  rw [List.length_map] at g3
  have hu : gt us (i : Int) = us[i] := gt_nat hi
  rw [hu] at hK
  have hrow : (us.map Unt.row)[i]? = some (us[i]).row := by rw [List.getElem?_map, List.getElem?_eq_getElem hi]; rfl
  obtain ⟨u0, p0, q0⟩ := g5 i 0 _ (.bool us[i].up) hrow rfl
  obtain ⟨u1, p1, q1⟩ := g5 i 1 _ (.int .i64 us[i].stored) hrow rfl
  obtain ⟨u2, p2, q2⟩ := g5 i 2 _ (.int .i64 us[i].used) hrow rfl
  cases q0
  cases q1; rename_i wf1
  cases q2; rename_i wf2
  refine (change_w c us[i] kind iss w b (i * 3 + 0) eU vals hbl p0 p1 p2).mono fun e w' ⟨he, hk, vals', hbl', hp⟩ => ?_
  subst he
  have hs2 := hs.changeW (w' := w') [(r, .arr eU 3 ((us.set i (chgS c us[i] kind iss).1).map Unt.row))] (hk.mono fun k hk => by
    rcases hk with rfl | hk
    · exact .inl ⟨r, by simp, hb⟩
    · exact .inr hk) (fun q hq => by simp at hq; subst hq; unfold live; rw [hH]; rfl) (fun hf q vh hq => by
    rw [List.mem_singleton] at hq
    cases hq
    refine ⟨fun row hr => ?_, .inr ⟨b, vals', hb, hbl', hp.sz.trans g2, by simpa using g3, g4, fun i' j row x hi' hj => ?_⟩⟩
    · obtain ⟨u, _, rfl⟩ := List.mem_map.1 hr; rfl
    · rw [List.getElem?_map, List.getElem?_set] at hi'
      by_cases e : i = i'
      · subst e
        rw [if_pos rfl, if_pos hi] at hi'
        injection hi' with hi'
        subst hi'
        obtain ⟨k1, k2⟩ := chg_wf (c := c) (u := us[i]) (kind := kind) (iss := iss) wf1 wf2
        match j, hj with
        | 0, hj => cases hj; exact ⟨_, hp.u0, .bool _⟩
        | 1, hj => cases hj; exact ⟨_, hp.u1, .int _ _ k1⟩
        | 2, hj => cases hj; exact ⟨_, hp.u2, .int _ _ k2⟩
        | j + 3, hj => simp [Unt.row] at hj
      · rw [if_neg e] at hi'
        obtain ⟨u, hu1, hu2⟩ := g5 i' j row x (by rw [List.getElem?_map]; exact hi') hj
        have hj3 : j < 3 := by
          have h1 := g0 row (List.mem_of_getElem? (by rw [List.getElem?_map]; exact hi'))
          have h2 := (List.getElem?_eq_some_iff.1 hj).1
          omega
        refine ⟨u, ?_, hu2.mono hf.rd hf.cell⟩
        rw [hp.oth _ (by omega) (by omega) (by omega)]; exact hu1)
  refine hK g _ _ _ rfl ?_
  rw [hd]
  exact hs2.put hN (.one (.d (.bool _)))
end
section
variable {k : Wk} {w0 : Org} {ops : Array Oper} {l : List Oper} {Q : St → Prop} {F : List (Nat × SV)} {H : List (Nat × VH)} {d t : Nat} {p : String} {af : Array Edge}
theorem v_change {x0 x1 x2 x3 : Operand} {ts : Array TypeId} {c : Csm} {kind : Int} {iss : Bool} {r i eU : Nat} {us : List Unt} (hN : Nat.blt d k.N = true) (hk : k.P = Try.prog) (e0 : (St.mk F H).ev x0 = c.v) (e1 : (St.mk F H).ev x1 = .one (.el r i 0 3)) (e2 : (St.mk F H).ev x2 = iv kind) (e3 : (St.mk F H).ev x3 = bv iss) (hH : getH H r = .arr eU 3 (us.map Unt.row)) (hi : i < us.length)
    (h : rg k w0 ops l Q ⟨(d, bv (chgS c (gt us (i : Int)) kind iss).2) :: F, (r, .arr eU 3 ((us.set i (chgS c (gt us (i : Int)) kind iss).1).map Unt.row)) :: H⟩) :
    rg k w0 ops (⟨some d, .call { callee := .value (.func 174), args := #[x0, x1, x2, x3], argTypes := ts }, t, p, af, none⟩ :: l) Q ⟨F, H⟩ :=
  rgI (irg_h rfl (by rw [hk]; exact opr_change rfl rfl rfl (nlt hN) e0 e1 e2 e3 hH hi) (rgO h))
end
end Go.Proofs.Ytcbppkfnfbdkhaa
