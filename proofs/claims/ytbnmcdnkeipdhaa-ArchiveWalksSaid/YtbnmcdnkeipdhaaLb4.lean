/- Texts of the library, put together. -/
import Derived.Test.YtbnmcdnkeipdhaaLb3
import Derived.Lib.ConvBytes
import Derived.Lib.AppendStr
import Derived.Orders
import Derived.Deep.Upon
/- Methods that change what their receiver points to. -/
set_option linter.all false
set_option maxRecDepth 20000
namespace Go.Proofs.Ytbnmcdnkeipdhaa
open Go.RowKit Go.Shelf
def ICr (pre : Prop) (f : Nat) (args : List SV) (t : TypeId) (cs : List CV) (v : SV) (cs' : List CV) : Prop :=
  pre → ICmm Try.prog 26 f (.ref 0 0) args (.blk t cs) (fun x y => x = v ∧ y = .blk t cs')
def bytI (q : ByteArray) : List Int := q.data.toList.map fun b => (b.toNat : Int)
theorem bytI_len (q : ByteArray) : (bytI q).length = q.size := by unfold bytI; simp
theorem bytI_in (q : ByteArray) : ∀ z ∈ bytI q, 0 ≤ z ∧ z ≤ 255 := by
  intro z hz
  obtain ⟨b, _, rfl⟩ := List.mem_map.1 hz
  have := b.toNat_lt
  omega
section
variable {P : Program} {T : TypeId} {N : Nat} {w0 : Org} {s : St} {o : Oper} {τ : List TyI}
theorem opr_sby (hτ : tabB P 0 τ = true) {t t' d e by_ : Nat} {x : Operand} {q : ByteArray} (ho : o.op = .convert t t' x) (hd : o.dst = some d) (hN : d < N) (hst : strB P t = true) (ht : tyAt τ t' = .sl e 1 by_) (he : u8B P e = true) (hx : s.ev x = .one (.d (.str q))) (hb0 : 0 < by_) (hb1 : by_ ≤ 100000) (hq : q.size ≤ 1000000000) (hfr : s.fresh d = true) (hg0 : getH s.H d = .gone) :
    OpR P T N w0 s o (fun s' => s' = s.put d (.one (.d (.list ((bytI q).map irow_u8))))) := by
  intro g a w hs K Q hK
  obtain ⟨f1, f2, f3⟩ := St.fresh_spec hfr
  obtain ⟨hu, inf, hi, hsz⟩ := sliceT_spec (tab_sl hτ ht)
  have h1 := hs.ev x; rw [hx] at h1
  have hrun : (execOp a.eval o).run P w = .ok (.value (.slice (some ⟨w.heap.size, 0, none⟩) q.size (grownCap w q.size 0 e))) (Lib.bytesWorld w e q) := by
    simp only [execOp, ho, h1.str_inv.1, Sem.run_bind, Lib.run_convert_string_bytes w t t' e q (strB_spec hst) hu (u8B_spec he), Result.andThen_ok, Sem.run_pure]
  have hG := grownCap_ge w q.size 0 e
  have hGm := grownCap_le_maxLen w q.size 0 e (by unfold maxLen; omega)
  obtain ⟨G, hGe⟩ : ∃ G, G = grownCap w q.size 0 e := ⟨_, rfl⟩
  obtain ⟨cells, hce⟩ : ∃ cells, cells = Lib.bytesCells w e q := ⟨_, rfl⟩
  have hcs : cells.size = G := by
    rw [hce, hGe]; unfold Lib.bytesCells
    simp
    omega
  have hbw : Lib.bytesWorld w e q = (w.drew.alloc (.cells cells e)).freeze ⟨w.heap.size, cells.size, none⟩ 1 := by rw [hce]; rfl
  rw [hbw, ← hGe] at hrun
  rw [← hGe] at hG hGm
  have hg : w.grownBy (w.drew.alloc (.cells cells e)) none := by
    have h := World.grownBy_alloc w.drew (.cells cells e) none
    exact ⟨h.os, h.tape, h.output, h.size, h.block⟩
  have hsz2 : (w.drew.alloc (.cells cells e)).heap.size = w.heap.size + 1 := by rw [World.size_alloc]; rfl
  have hblk : Blk (w.drew.alloc (.cells cells e)) w.heap.size e cells := Blk.new w.drew _ _
  have hk := hs.newG (d := d) f1 f2 (r0 := none) (ob := none) (nb := some w.heap.size) (k := G) (w' := w.drew.alloc (.cells cells e)) (vh := .arr e 1 ((bytI q).map irow_u8)) (fun b hb => (by cases hb)) hg (fun b hb => (by simp at hb; subst hb; exact ⟨.inr (Nat.le_refl _), by omega⟩)) rfl (fun hf => by
    refine ⟨fun row hrow => ?_, .inr ⟨w.heap.size, cells, by simp [Gh.new, updO], hblk, by simp [Gh.new, updN]; omega, by simp [Gh.new, updN]; rw [bytI_len]; omega, by simp [Gh.new, updN]; exact hGm, fun i' j row x hi' hj => ?_⟩⟩
    · obtain ⟨z, _, rfl⟩ := List.mem_map.1 hrow; rfl
    · have hlt := (List.getElem?_eq_some_iff.1 hi').1
      rw [List.length_map, bytI_len] at hlt
      have hq2 : q.data.toList.length = q.size := by simp
      rw [List.getElem?_map, bytI, List.getElem?_map, List.getElem?_eq_getElem (by omega)] at hi'
      injection hi' with hi'
      subst hi'
      have hjl := (List.getElem?_eq_some_iff.1 hj).1
      have hj0 : j = 0 := by simp [irow_u8] at hjl; exact hjl
      subst hj0
      simp [irow_u8] at hj
      subst hj
      have hc := Lib.bytesWorld_cell w e q i' hlt
      refine ⟨.int .u8 ((q.data.toList[i']'(by omega)).toNat), ?_, ?_⟩
      · rw [hce, Lib.bytesCells, Nat.mul_one, Nat.add_zero, Array.getElem?_append_left (by simp; exact hlt), Array.getElem?_map, Array.getElem?_eq_getElem (by simpa using hlt)]
        simp
      · have h256 := (q.data.toList[i']'(by omega)).toNat_lt
        have hwf : (Lit.int .u8 (((q.data.toList[i']'(by omega)).toNat : Nat) : Int)).wf = true := by
          generalize (q.data.toList[i']'(by omega)).toNat = z at h256
          simp [Lit.wf, IntKind.min, IntKind.max, IntKind.bits, IntKind.signed]; omega
        exact .int _ _ hwf)
  have hs1 := hk
  obtain ⟨H1, hH1⟩ : ∃ H1, H1 = (d, VH.arr e 1 ((bytI q).map irow_u8)) :: goneH none s.H := ⟨_, rfl⟩
  have hr1 : getH H1 d = .arr e 1 ((bytI q).map irow_u8) := by rw [hH1, hget_put, if_pos rfl]
  rw [← hH1] at hs1
  have hrep0 : RepCV P (g.new d (some w.heap.size) G) (w.drew.alloc (.cells cells e)) (.slice (some ⟨w.heap.size, 0, none⟩) q.size G) (.sl d q.size 1) := by
    have := RepCV.sl (P := P) (g := g.new d (some w.heap.size) G) (w := w.drew.alloc (.cells cells e)) (r := d) (b := w.heap.size) q.size 1 (by simp [Gh.new, updO]) (by simp [Gh.new, updN]; omega) (by simp [Gh.new, updN]; exact hGm)
    simpa [Gh.new, updN] using this
  have hs2 := hs1.fr (rs := [d]) (F' := s.F) (dropH_fr _ d _) (frF_same s.F)
  have hrep : RepCV P ((g.new d (some w.heap.size) G).fr H1 [d] (w.drew.alloc (.cells cells e))) (w.drew.alloc (.cells cells e)) (.slice (some ⟨w.heap.size, 0, none⟩) q.size G) (.d (.list ((bytI q).map irow_u8))) :=
    CVz.rep hs1 (.fz (by simp) hr1 (by rw [List.length_map, bytI_len])) hrep0
  obtain ⟨f1', f2', f3'⟩ := freeze_spec (k := cells.size) hblk
  have hlr : live H1 d := by unfold live; rw [hr1]; rfl
  have hb : (g.new d (some w.heap.size) G).β d = some w.heap.size := by simp [Gh.new, updO]
  obtain ⟨b1, b2, b3⟩ := hs1.gi.bd d w.heap.size hlr hb
  have hs3 := hs2.mark b1 (fun r' hl' hb' => by
    have hk := ((dropH_fr H1 d H1).get r').live hl'
    have := hs1.gi.inj r' d w.heap.size hk.2 hlr hb' hb
    subst this
    simp at hk) b3 f1' f2' f3' (by
    show (g.new d (some w.heap.size) G).ex w.heap.size = none
    cases hx : (g.new d (some w.heap.size) G).ex w.heap.size with
    | none => rfl
    | some o => exact absurd hb ((hs1.gi.ex w.heap.size o hx).2.2.2.2.2 d hlr))
  have hs4 := hs3.less (s' := s) (fun x => .inl rfl) (fun r => by
    show getH s.H r = getH (dropH d H1) r ∨ _
    rw [dropH_get, hH1, hget_put, goneH_get]
    by_cases e1 : r = d
    · right
      rw [e1]; exact hg0
    · rw [if_neg e1, if_neg (fun h => e1 h.symm)]; simp)
  unfold Oper.wp
  rw [hrun]
  refine hK ((g.new d (some w.heap.size) G).fr H1 [d] (w.drew.alloc (.cells cells e))) _ _ _ rfl ?_
  rw [hd]
  exact hs4.put hN (.one (hrep.move ⟨fun _ _ h => h, fun b o _ => f3' _⟩ (fun _ h => h) fun _ _ => ⟨rfl, rfl⟩))
end
section
variable {k : Wk} {w0 : Org} {ops : Array Oper} {l : List Oper} {Q : St → Prop} {F : List (Nat × SV)} {H : List (Nat × VH)} {d t t' ty : Nat} {p : String} {af : Array Edge} {x : Operand}
theorem v_sby {e by_ : Nat} {q : ByteArray} (hN : Nat.blt d k.N = true) (hst : strB k.P t = true) (ht : tyAt k.τ t' = .sl e 1 by_) (he : u8B k.P e = true) (hb : (Nat.blt 0 by_ && Nat.ble by_ 100000) = true) (hx : (St.mk F H).ev x = .one (.d (.str q))) (hfr : (St.mk F H).fresh d = true) (hg : getH H d = .gone) (hq : q.size ≤ 1000000000) (h : rg k w0 ops l Q ⟨(d, .one (.d (.list ((bytI q).map irow_u8)))) :: F, H⟩) : rg k w0 ops (⟨some d, .convert t t' x, ty, p, af, none⟩ :: l) Q ⟨F, H⟩ := by
  have h2 := Bool.and_eq_true_iff.1 hb
  exact rgI (irg_h rfl (opr_sby k.ok rfl rfl (nlt hN) hst ht he hx (nlt h2.1) (Nat.le_of_ble_eq_true h2.2) hq hfr hg) (rgO h))
end
section
variable {k : Wk} {w0 : Org} {ops : Array Oper} {l : List Oper} {Q : St → Prop} {F : List (Nat × SV)} {H : List (Nat × VH)} {d t : Nat} {p : String} {af : Array Edge}
theorem v_callr {pre : Prop} {f : FuncId} {x : Operand} {xr : List Operand} {xs : Array Operand} {ts : Array TypeId} {args : List SV} {v : SV} {r tt : Nat} {cs cs' : List CV} (hN : Nat.blt d k.N = true) (hk : k.P = Try.prog ∧ k.T = 26) (hxs : xs.toList = x :: xr) (hx : (St.mk F H).ev x = .one (.ref r 0)) (hr : getH H r = .blk tt cs) (hnl : CV.nlL cs = true) (hic : ICr pre f args tt cs v cs')
    (ha : PsSL k.P k.T ⟨F, H⟩ true xr args) (h0 : SV.hasL 0 args = false) (hp : pre) (h : rg k w0 ops l Q ⟨(d, v) :: F, (r, .blk tt cs') :: H⟩) :
    rg k w0 ops (⟨some d, .call { callee := .value (.func f), args := xs, argTypes := ts }, t, p, af, none⟩ :: l) Q ⟨F, H⟩ :=
  rgI (irg_h rfl (opr_callm rfl hxs rfl (nlt hN) (by rw [hk.1, hk.2]; exact hic hp) hx (.ref 0) hr hnl ha h0 (.inr ⟨_, _, rfl⟩)) (rgO h))
end
section
variable {τ : List TyI} {fn : Func} {F : List (Nat × SV)} {H : List (Nat × VH)} {ty : TypeId} {cs cs' : List CV} {u : Value} {c : CV} {ex : Exit} {sv : SV}
theorem m_b1 {t : Tmp} {x : Cell} (he : ex = .ret ∨ ex = .normal) (hr : fn.results = #[.tmp t]) (hv : getF F t = .one (.d x)) (hH : getH H 0 = .blk ty cs) (hn : CV.nlL cs = true) (hp : getH H 1000 = .pin u c) (hs : SV.one (.d x) = sv ∧ cs = cs') : RetQm τ fn u c (fun x y => x = sv ∧ y = .blk ty cs') ex ⟨F, H⟩ := by
  obtain ⟨hs, hc⟩ := hs
  subst hs hc
  exact ⟨he, _, _, _, by rw [hr]; exact .cons (.tmp t) .nil, by rw [hv]; exact .one (.one (.d x)), hH, hn, hp, rfl, rfl⟩
theorem m_b1n {t : Tmp} (he : ex = .ret ∨ ex = .normal) (hr : fn.results = #[.tmp t]) (hv : getF F t = .one .nil) (hH : getH H 0 = .blk ty cs) (hn : CV.nlL cs = true) (hp : getH H 1000 = .pin u c) (hs : SV.one (.d (.list [])) = sv ∧ cs = cs') : RetQm τ fn u c (fun x y => x = sv ∧ y = .blk ty cs') ex ⟨F, H⟩ := by
  obtain ⟨hs, hc⟩ := hs
  subst hs hc
  exact ⟨he, _, _, _, by rw [hr]; exact .cons (.tmp t) .nil, by rw [hv]; exact .one (.one .nil), hH, hn, hp, rfl, rfl⟩
end
end Go.Proofs.Ytbnmcdnkeipdhaa
/- A text is appended to bytes. -/
set_option linter.all false
set_option maxRecDepth 20000
namespace Go.Proofs.Ytbnmcdnkeipdhaa
open Go.RowKit Go.Shelf Go.Lib
section
variable {P : Program}
theorem run_append_str_any (w : World) (t u ty e : TypeId) (i : TypeInfo) (ht : P.underlying t = some (.slice e)) (hu : P.underlying u = some .string) (hi : P.info? e = some i) (hz : i.zero = some (.int .u8 0)) (hsize : i.size = 1) (hby : i.bytes = 1)
    (v : Value) (n : Nat) (xs : List Value) (hown : w.ownsRow 0 e 1 v n xs) (s : ByteArray) (h63 : n + s.size ≤ maxLen) (hbytes : n + s.size ≤ 140737488355328) :
    ∃ v' w', (Builtin.append_ #[t, u] ty #[v, .string s]).run P w = .ok v' w' ∧ w'.ownsRow 0 e 1 v' (n + s.size) (xs ++ strCells s) ∧ w.grownBy w' v.ownBlock ∧ (v'.ownBlock = v.ownBlock ∨ ∀ b, v'.ownBlock = some b → w.heap.size ≤ b) := by
  obtain ⟨v', w', h1, h2, h3, h4⟩ := run_append_own_string (P := P) w 0 t u ty e i ht hu hi hz hsize hby v n xs hown s h63 hbytes (Nat.zero_le _)
  refine ⟨v', w', h1, h2, h3, ?_⟩
  have hxl : xs.length = n := by simpa using hown.1
  rcases hown.2 with ⟨rfl, rfl⟩ | ⟨g, cap, cur, rfl, hbg, hg, hnc, hcm, hcs, htake⟩
  · obtain ⟨v2, w2, k1, k2, k3, k4⟩ := run_append_own_string (P := P) w w.heap.size t u ty e i ht hu hi hz hsize hby (.slice none 0 0) 0 xs ⟨hown.1, .inl ⟨rfl, rfl⟩⟩ s h63 hbytes (Nat.le_refl _)
    rw [h1] at k1
    injection k1 with e1 e2
    subst e1
    exact .inr fun b hb => (k2.lt b hb).1
  · by_cases hroom : n + s.size ≤ cap
    · have hcs' : cur.size = cap := by simpa using hcs
      have hr := run_append_room_string (P := P) (w := w) t u ty e i ht hu hi hsize g n cap cur hg s hroom (by omega)
      rw [h1] at hr
      injection hr with e1 e2
      subst e1
      exact .inl rfl
    · have holds : ∀ j u, xs[j]? = some u → w.cell? ((⟨g, 0, none⟩ : Addr).add j) = some u := hown.cells (g := g) rfl
      have hr := run_append_grow_string (P := P) (w := w) t u ty e i (.int .u8 0) ht hu hi hz ⟨g, 0, none⟩ n cap xs (by rw [hsize]; simpa using hxl) holds s (by omega) (by unfold maxLen at h63; omega) (by rw [hby]; exact growslice_fits (by omega) (by omega))
      rw [h1] at hr
      injection hr with e1 e2
      subst e1
      refine .inr fun b hb => ?_
      simp [Value.ownBlock] at hb
      omega
theorem wp_append_str {o : Oper} {a : Act} {w : World} {K : Act → World → Prop} {Q : Exit → Act → World → Prop} (s x : Operand) (t u : TypeId)
    (ho : o.op = .call { callee := .builtin .append, args := #[s, x], argTypes := #[t, u] }) (e : TypeId) (i : TypeInfo) (ht : P.underlying t = some (.slice e)) (hu : P.underlying u = some .string) (hi : P.info? e = some i) (hz : i.zero = some (.int .u8 0)) (hsize : i.size = 1) (hby : i.bytes = 1)
    (v : Value) (n : Nat) (xs : List Value) (hs : a.eval s = v) (hown : w.ownsRow 0 e 1 v n xs) (q : ByteArray) (hx : a.eval x = .string q) (h63 : n + q.size ≤ maxLen) (hbytes : n + q.size ≤ 140737488355328)
    (h : ∀ v' w', w'.ownsRow 0 e 1 v' (n + q.size) (xs ++ strCells q) → w.grownBy w' v.ownBlock → (v'.ownBlock = v.ownBlock ∨ ∀ b, v'.ownBlock = some b → w.heap.size ≤ b) → K (a.put o.dst v') w') : o.wp P a w K Q := by
  obtain ⟨v', w', hrun, h2, h3, h4⟩ := run_append_str_any (P := P) w t u o.type e i ht hu hi hz hsize hby v n xs hown q h63 hbytes
  unfold Oper.wp execOp
  simp only [ho, resolve, invoke, builtin, Sem.run_bind, Sem.run_pure, Result.andThen_ok, List.map_toArray, List.map_cons, List.map_nil, hs, hx, hrun]
  exact h v' w' h2 h3 h4
end
theorem strCells_get (q : ByteArray) (i : Nat) : (strCells q)[i]? = ((bytI q)[i]?).map fun z => Value.int .u8 z := by
  unfold strCells bytI
  simp
  cases q.data[i]? <;> rfl
section
variable {P : Program} {T : TypeId} {N : Nat} {w0 : Org} {s : St} {o : Oper} {τ : List TyI}
theorem append_coreS (hτ : tabB P 0 τ = true) {t u d e by_ D : Nat} {F : List (Nat × SV)} {x y : Operand} {q : ByteArray} {r0 : Option Nat} {rows : List (List Cell)} (ho : o.op = .call { callee := .builtin .append, args := #[x, y], argTypes := #[t, u] }) (hd : o.dst = some d) (hN : d < N)
    (ht : tyAt τ t = .sl e 1 by_) (hu : strB P u = true) (hin : (P.info? e).map (fun i => (i.zero, i.size, i.bytes)) = some (some (.int .u8 0), 1, 1)) (hx : Tgt s e 1 (s.ev x) r0 rows) (hy : s.ev y = .one (.d (.str q))) (f1 : ∀ x, (getF F x).has D = false) (f2 : ∀ r, (getH s.H r).has D = false) (hF : ∀ x, getF F x = .u ∨ getF F x = getF s.F x)
    (hbd : rows.length + q.size ≤ 140737488355328) :
    OpR P T N w0 s o (fun s' => s' = (St.mk F ((D, .arr e 1 (rows ++ (bytI q).map irow_u8)) :: goneH r0 s.H)).put d (.one (.sl D (rows ++ (bytI q).map irow_u8).length 1))) := by
  intro g a w hs K Q hK
  obtain ⟨hu', inf, hi, hsz⟩ := sliceT_spec (tab_sl hτ ht)
  obtain ⟨i, hi2, hz0, hz1, hz2⟩ := info_parts hin
  obtain ⟨xs, hown, hrl, hob, hxr⟩ := hx.owns Nat.one_pos hs (hs.ev x)
  have hyv := hs.ev y; rw [hy] at hyv
  have ey := hyv.str_inv.1
  refine wp_append_str x y t u ho e i hu' (strB_spec hu) hi2 hz0 hz1 hz2 (a.eval x) rows.length xs rfl hown q ey (by unfold maxLen; omega) hbd fun v' w' hown' hg' hat => ?_
  have hlb : ((bytI q).map irow_u8).length = q.size := by rw [List.length_map, bytI_len]
  have hlen : (rows ++ (bytI q).map irow_u8).length = rows.length + q.size := by rw [List.length_append, hlb]
  have key : Fut g.Rd g.Rd w w' → ∀ (i j : Nat) (row : List Cell) (x : Cell), (rows ++ (bytI q).map irow_u8)[i]? = some row → row[j]? = some x → ∃ u, (xs ++ strCells q)[i * 1 + j]? = some u ∧ RepCell g.Rd w' u x := fun hf i j row x hi hj => by
    have hxl : xs.length = rows.length * 1 := hown.1
    by_cases hlt : i < rows.length
    · rw [List.getElem?_append_left hlt] at hi
      obtain ⟨u, hu, hr⟩ := hxr i j row x hi hj
      refine ⟨u, ?_, hr.mono hf.rd hf.cell⟩
      rw [List.getElem?_append_left (List.getElem?_eq_some_iff.1 hu).1]
      exact hu
    · rw [List.getElem?_append_right (by omega), List.getElem?_map] at hi
      cases hz : (bytI q)[i - rows.length]? with
      | none => rw [hz] at hi; cases hi
      | some z =>
        rw [hz] at hi
        simp at hi
        subst hi
        have hj0 : j = 0 := by have := (List.getElem?_eq_some_iff.1 hj).1; simp [irow_u8] at this; omega
        subst hj0
        simp [irow_u8] at hj
        subst hj
        refine ⟨.int .u8 z, ?_, ?_⟩
        · rw [List.getElem?_append_right (by omega), show i * 1 + 0 - xs.length = i - rows.length by omega, strCells_get, hz]; rfl
        · have := bytI_in q z (List.mem_of_getElem? hz)
          exact .int .u8 z (by simp [Lit.wf, IntKind.min, IntKind.max, IntKind.bits, IntKind.signed]; omega)
  have hrl2 : ∀ row ∈ rows ++ (bytI q).map irow_u8, row.length = 1 := fun row hr => by
    rcases List.mem_append.1 hr with h | h
    · exact hrl _ h
    · obtain ⟨z, _, rfl⟩ := List.mem_map.1 h; rfl
  have hfut : Fut g.Rd g.Rd w w' := ⟨fun _ _ h => h, fun b o' hb => World.cell?_of_block (w := w) (a := ⟨b, o', none⟩) (hg'.block b (hs.gi.rd b o' hb).1 (fun e => by
    obtain ⟨r, _, hl, hr⟩ := hob b e.symm
    exact (hs.gi.rd b o' hb).2.2 r hl hr))⟩
  obtain ⟨k, q1, q2, q3⟩ := own_arr (P := P) (g := g) (d := D) hown' hlen.symm hrl2 (key hfut)
  have hs1 : Sim P T N w0 g ⟨F, s.H⟩ a w := ⟨hs.gi, hs.dn, hs.nt, fun x => by
    rcases hF x with h | h
    · show RepSV P g w _ (getF F x); rw [h]; exact .u _
    · show RepSV P g w _ (getF F x); rw [h]; exact hs.hF x, hs.hH⟩
  have h1 := hs1.newG (d := D) f1 f2 (r0 := r0) (ob := (a.eval x).ownBlock) (nb := v'.ownBlock) (k := k) (vh := .arr e 1 (rows ++ (bytI q).map irow_u8)) hob hg' (fun b hb => by
    refine ⟨?_, q3 b hb⟩
    rcases hat with e | e
    · exact .inl (by rw [← e]; exact hb)
    · exact .inr (e b hb)) rfl (fun _ => q1)
  rw [hd]
  exact hK _ _ _ _ rfl (h1.put hN (.one q2))
end
section
variable {P : Program} {T : TypeId} {N : Nat} {w0 : Org} {s : St} {o : Oper} {τ : List TyI}
theorem opr_append_niln (hτ : tabB P 0 τ = true) {t d e sz by_ D : Nat} {zs : List Z} {x y : Operand} {rows' : List (List Cell)} (ho : o.op = .call { callee := .builtin .append, args := #[x, y], argTypes := #[t, t] }) (hd : o.dst = some d) (hN : d < N)
    (ht : tyAt τ t = .sl e sz by_) (hz : (tyAt τ e).zs = some zs) (hzl : zs.length = sz) (h0 : 0 < sz) (hx : s.ev x = .one .nil) (hy : Src s sz (s.ev y) rows') (hfr : s.fresh D = true)
    (hbd : rows'.length * by_ ≤ 140737488355328) (hb0 : 0 < by_) :
    OpR P T N w0 s o (fun s' => s' = (s.hput D (.arr e sz rows')).put d (.one (.sl D rows'.length sz))) := by
  have := append_core (P := P) (T := T) (N := N) (w0 := w0) (D := D) (F := s.F) (r0 := none) (rows := []) hτ ho hd hN ht hz hzl h0 (by rw [hx]; exact .nil) hy (St.fresh_spec hfr).1 (St.fresh_spec hfr).2.1 (fun _ => .inr rfl) (by simpa using hbd) hb0
  simpa [goneH, St.hput] using this
end
section
variable {k : Wk} {w0 : Org} {ops : Array Oper} {l : List Oper} {Q : St → Prop} {F F' : List (Nat × SV)} {H H' : List (Nat × VH)} {d t t' u : Nat} {x y : Operand} {p : String} {af : Array Edge}
theorem v_ap0n {α : Type} (f : α → List Cell) (dd D : Nat) {ys : List α} {e sz by_ : Nat} {zs : List Z} {rows' : List (List Cell)} (hN : Nat.blt dd k.N = true) (ht : tyAt k.τ t' = .sl e sz by_) (hz : (tyAt k.τ e).zs = some zs) (hzl : zs.length = sz) (h0 : Nat.blt 0 sz = true) (hx : (St.mk F H).ev x = .one .nil) (hy : Src ⟨F, H⟩ sz ((St.mk F H).ev y) rows') (hrow : rows' = ys.map f) (hf : (St.mk F H).fresh D = true) (hb0 : Nat.blt 0 by_ = true) (hb1 : Nat.ble by_ 140000 = true)
    (hbd : ys.length ≤ 1000000000) (h : rg k w0 ops l Q ⟨(dd, .one (.sl D ys.length sz)) :: F, (D, .arr e sz (ys.map f)) :: H⟩) : rg k w0 ops (⟨some dd, .call { callee := .builtin .append, args := #[x, y], argTypes := #[t', t'] }, t, p, af, none⟩ :: l) Q ⟨F, H⟩ := by
  subst hrow
  exact rgI (irg_h rfl (opr_append_niln k.ok rfl rfl (nlt hN) ht hz hzl (nlt h0) hx hy hf (by
    rw [List.length_map]
    have := Nat.le_of_ble_eq_true hb1
    exact Nat.le_trans (Nat.mul_le_mul hbd this) (by decide)) (nlt hb0)) (rgO (by rw [List.length_map]; exact h)))
end
section
variable {P : Program} {T : TypeId} {N : Nat} {w0 : Org} {s : St} {o : Oper} {τ : List TyI}
theorem opr_append_slS (hτ : tabB P 0 τ = true) {t u d e by_ r n : Nat} {x y : Operand} {qq : ByteArray} {rows : List (List Cell)} (ho : o.op = .call { callee := .builtin .append, args := #[x, y], argTypes := #[t, u] }) (hd : o.dst = some d) (hN : d < N)
    (ht : tyAt τ t = .sl e 1 by_) (hu : strB P u = true) (hin : (P.info? e).map (fun i => (i.zero, i.size, i.bytes)) = some (some (.int .u8 0), 1, 1)) (hx : s.ev x = .one (.sl r n 1)) (hr : getH s.H r = .arr e 1 rows) (hn : n = rows.length) (hy : s.ev y = .one (.d (.str qq))) (hfr : allH r s.H = true)
    (hbd : rows.length + qq.size ≤ 140737488355328) :
    OpR P T N w0 s o (fun s' => s' = (St.mk (killF r s.F) ((r, .arr e 1 (rows ++ (bytI qq).map irow_u8)) :: s.H)).put d (.one (.sl r (rows ++ (bytI qq).map irow_u8).length 1))) := by
  subst hn
  have q1 : ∀ x, (getF (killF r s.F) x).has r = false := fun x => by
    rw [killF_get]
    split
    · rfl
    · simp_all
  have q2 : ∀ x, getF (killF r s.F) x = .u ∨ getF (killF r s.F) x = getF s.F x := fun x => by
    rw [killF_get]
    split
    · exact .inl rfl
    · exact .inr rfl
  have h := append_coreS (P := P) (T := T) (N := N) (w0 := w0) (D := r) (F := killF r s.F) (r0 := some r) (rows := rows) hτ ho hd hN ht hu hin (by rw [hx]; exact .sl hr) hy q1 (fun q => allH_get hfr q) q2 hbd
  intro g a w hs K Q hK
  refine h g a w hs K Q fun g' s' a' w' e hs' => hK g' _ a' w' rfl ?_
  subst e
  refine ⟨⟨fun q q' b h1 h2 => hs'.gi.inj q q' b ?_ ?_, fun q b h1 => hs'.gi.bd q b ?_, fun b o' hr => ?_, hs'.gi.keep, hs'.gi.tape, hs'.gi.org, hs'.gi.exs (fun _ _ h => h) fun c hc => ⟨rfl, hc.2.2.1, hc.2.2.2.1, fun q hq => hc.2.2.2.2 q ?_⟩⟩, hs'.dn, hs'.nt, hs'.hF, fun q => ?_⟩
  all_goals
    have hg : ∀ q, getH ((r, VH.arr e 1 (rows ++ ((bytI qq).map irow_u8))) :: goneH (some r) s.H) q = getH ((r, VH.arr e 1 (rows ++ ((bytI qq).map irow_u8))) :: s.H) q := fun q => by
      simp only [hget_put, goneH_get]
      by_cases e : r = q <;> simp [e]
  · show live _ q; unfold live; rw [show getH ((St.mk (killF r s.F) ((r, VH.arr e 1 (rows ++ ((bytI qq).map irow_u8))) :: goneH (some r) s.H)).put d (.one (.sl r (rows ++ ((bytI qq).map irow_u8)).length 1))).H q = _ from hg q]; exact h1
  · show live _ q'; unfold live; rw [show getH ((St.mk (killF r s.F) ((r, VH.arr e 1 (rows ++ ((bytI qq).map irow_u8))) :: goneH (some r) s.H)).put d (.one (.sl r (rows ++ ((bytI qq).map irow_u8)).length 1))).H q' = _ from hg q']; exact h2
  · show live _ q; unfold live; rw [show getH ((St.mk (killF r s.F) ((r, VH.arr e 1 (rows ++ ((bytI qq).map irow_u8))) :: goneH (some r) s.H)).put d (.one (.sl r (rows ++ ((bytI qq).map irow_u8)).length 1))).H q = _ from hg q]; exact h1
  · obtain ⟨a1, a2, a3⟩ := hs'.gi.rd b o' hr
    refine ⟨a1, a2, fun q hq => a3 q ?_⟩
    unfold live; rw [show getH ((St.mk (killF r s.F) ((r, VH.arr e 1 (rows ++ ((bytI qq).map irow_u8))) :: goneH (some r) s.H)).put d (.one (.sl r (rows ++ ((bytI qq).map irow_u8)).length 1))).H q = _ from hg q]; exact hq
  · unfold live; rw [show getH ((St.mk (killF r s.F) ((r, VH.arr e 1 (rows ++ ((bytI qq).map irow_u8))) :: goneH (some r) s.H)).put d (.one (.sl r (rows ++ ((bytI qq).map irow_u8)).length 1))).H q = _ from hg q]; exact hq
  · have := hs'.hH q
    rw [show getH ((St.mk (killF r s.F) ((r, VH.arr e 1 (rows ++ ((bytI qq).map irow_u8))) :: goneH (some r) s.H)).put d (.one (.sl r (rows ++ ((bytI qq).map irow_u8)).length 1))).H q = _ from hg q] at this
    exact this
end
section
variable {k : Wk} {w0 : Org} {ops : Array Oper} {l : List Oper} {Q : St → Prop} {F F' : List (Nat × SV)} {H H' : List (Nat × VH)} {d t t' u : Nat} {x y : Operand} {p : String} {af : Array Edge}
theorem v_aps {xs : List Int} {e by_ r n : Nat} {q : ByteArray} {rows : List (List Cell)} (hN : Nat.blt d k.N = true) (ht : tyAt k.τ t' = .sl e 1 by_) (hu : strB k.P u = true) (hin : (k.P.info? e).map (fun i => (i.zero, i.size, i.bytes)) = some (some (.int .u8 0), 1, 1)) (hx : (St.mk F H).ev x = .one (.sl r n 1)) (hr : getH H r = .arr e 1 rows) (hrw : rows = xs.map irow_u8)
    (hk : killK r F (fun a => killHK H r (H.map (·.1)) fun b => some (a, b)) = some (F', H')) (hr2 : getH H' r = .arr e 1 rows) (hn : n = xs.length) (hy : (St.mk F H).ev y = .one (.d (.str q))) (hf : allH r H' = true)
    (hbd : xs.length + q.size ≤ 1000000000) (h : rg k w0 ops l Q ⟨(d, .one (.sl r (xs ++ bytI q).length 1)) :: F', (r, .arr e 1 ((xs ++ bytI q).map irow_u8)) :: H'⟩) : rg k w0 ops (⟨some d, .call { callee := .builtin .append, args := #[x, y], argTypes := #[t', u] }, t, p, af, none⟩ :: l) Q ⟨F, H⟩ := by
  subst hrw
  rw [killK_eq, killHK_eq] at hk
  injection hk with hk
  injection hk with h1 h2
  subst h1
  subst h2
  have hlen : (xs.map irow_u8).length = xs.length := List.length_map _
  refine i_fgH (killH_fit ⟨F, H⟩ r) (rgI (irg_h rfl (opr_append_slS k.ok rfl rfl (nlt hN) ht hu hin hx hr2 (by rw [hlen]; exact hn) hy hf (by rw [hlen]; omega)) (rgO ?_)))
  rw [← List.map_append, List.length_map]
  exact h
end
end Go.Proofs.Ytbnmcdnkeipdhaa
/- To bytes whose room is used up, bytes are appended. -/
set_option linter.all false
set_option maxRecDepth 20000
namespace Go.Proofs.Ytbnmcdnkeipdhaa
open Go.RowKit Go.Shelf Go.Lib
theorem eval_put_same {a : Act} {d : Nat} {v : Value} (h : d < a.tmps.size) : (a.put (some d) v).eval (.tmp d) = v := by
  simp [Act.eval, Act.put, h]
section
variable {P : Program} {o : Oper} {a : Act} {w : World} {K K' : Act → World → Prop} {Q1 Q' : Exit → Act → World → Prop} {b : Nat}
theorem wp_thr (h : o.wp P a w K Q1) (hb : ∀ d, o.dst = some d → d ≠ b) (hK : ∀ a' w', K a' w' → a'.eval (.tmp b) = a.eval (.tmp b) → K' a' w') (hQ : ∀ e a w, e ≠ .normal → Q1 e a w → Q' e a w) : o.wp P a w K' Q' := by
  have hL : LetsOut Q1 → LetsOut Q' := fun ⟨a, w, h⟩ => ⟨a, w, hQ _ _ _ (by intro h; cases h) h⟩
  have hp : ∀ (a0 : Act) v, (∀ y, a0.eval y = a.eval y) → (a0.put o.dst v).eval (.tmp b) = a.eval (.tmp b) := fun a0 v h0 => by
    rw [Act.eval_put (fun d hd he => by injection he with he; exact hb d hd he.symm), h0]
  unfold Oper.wp at *
  generalize (execOp a.eval o).run P w = r at *
  cases r with
  | ok n w' =>
    cases n <;> simp only [Oper.upon] at h ⊢
    case enter => exact Calls.mono h (fun e w'' he => by cases e <;> first | exact hK _ _ he (hp a _ fun _ => rfl) | exact hQ _ _ _ (by intro h; cases h) he | exact hL he)
    case row => exact Rows.mono h (fun _ _ he => hK _ _ he (hp a _ fun _ => rfl))
    case defer => exact hK _ _ h (hp _ _ fun y => by cases y <;> rfl)
    all_goals exact hK _ _ h (hp a _ fun _ => rfl)
  | halt x w' => cases x <;> simp only [Oper.upon] at h ⊢; exact hQ _ _ _ (by intro h; cases h) h
theorem wpl_thr {ops : Array Oper} {rest : List Oper} {v : Value} (hQ : ∀ e a w, e ≠ .normal → Q1 e a w → Q' e a w) (hR : ∀ a' w', Q1 .normal a' w' → a'.eval (.tmp b) = v → wpList P ops Q' rest a' w') :
    ∀ (mid : List Oper) (a : Act) (w : World), (∀ o ∈ mid, ∀ d, o.dst = some d → d ≠ b) → a.eval (.tmp b) = v → wpList P ops Q1 mid a w → wpList P ops Q' (mid ++ rest) a w
  | [], a, w, _, hv, h => hR a w h hv
  | o :: mid, a, w, hb, hv, h => by
    have ih := wpl_thr hQ hR mid
    have hb' := fun o h => hb o (List.mem_cons_of_mem _ h)
    simp only [List.cons_append]
    unfold wpList at h ⊢
    split
    · rename_i hw
      rw [if_pos hw] at h
      rcases h with h | ⟨h1, h2⟩
      · exact .inl (wp_thr h (hb o List.mem_cons_self) (fun a' w' hk he => ih a' w' hb' (he.trans hv) hk) hQ)
      · obtain ⟨a2, w2, h2⟩ := h2
        exact .inr ⟨h1, a2, w2, hQ _ _ _ (by intro h; cases h) h2⟩
    · rename_i hw
      rw [if_neg hw] at h
      exact ih _ w hb' ((Act.eval_put (fun d hd he => by injection he with he; exact hb o List.mem_cons_self d hd he.symm)).trans hv) h
end
section
variable {P : Program} {T : TypeId} {N : Nat} {w0 : Org} {g g' : Gh} {s : St} {a : Act} {w w' : World} {o : Oper} {τ : List TyI}
theorem opx_buildSlice (hτ : tabB P 0 τ = true) {t d len e sz by_ : Nat} {zs : List Z} {parts : Array (Nat × Operand)} {cp : List (Nat × List CV)} {r : List CV} {fl : List Cell} (ho : o.op = .buildSlice t len parts) (hd : o.dst = some d) (hN : d < N)
    (ht : tyAt τ t = .sl e sz by_) (hz : (tyAt τ e).zs = some zs) (hp : partsOf s parts.toList = some cp) (hr : cfill ((List.range len).map fun i => (i * sz, sz)) (List.replicate (len * sz) .u) cp = some r) (hfl : unDL r = some fl)
    (h0 : 0 < len * sz) (hm : len * sz ≤ 16777216) (f1 : ∀ x, (getF s.F x).has d = false) (f2 : ∀ r, (getH s.H r).has d = false) (hzl : zs.length = sz) :
    ∀ g a w, Sim P T N w0 g s a w → ∀ (K : Act → World → Prop) (Q : Exit → Act → World → Prop), (∀ g' a' w', Sim P T N w0 g' ((s.hput d (.arr e sz (chunks sz len fl))).put d (.one (.sl d len sz))) a' w' → (∃ A, a'.eval (.tmp d) = .slice A len len) → K a' w') → o.wp P a w K Q := by
  intro g a w hs K Q hK
  obtain ⟨hu, inf, hi, hsz⟩ := sliceT_spec (tab_sl hτ ht)
  obtain ⟨i, z, hi2, hz1, hz2, hz3⟩ := zeroB_spec (tab_zs hτ hz)
  obtain rfl : i = inf := by rw [hi] at hi2; injection hi2 with h; exact h.symm
  obtain ⟨k1, k2⟩ := partsOf_rep hs _ _ hp
  have hzs : z.cells.size = sz := by rw [hz2]; simp [hzl]
  obtain ⟨vals', q1, q2, q3⟩ := fill_rep (P := P) (g := g) (w := w) (place := fun i => some (i * sz, sz)) (pl := (List.range len).map fun i => (i * sz, sz)) (by
      intro i p h
      rw [List.getElem?_map] at h
      by_cases hlt : i < len
      · simp [hlt] at h; rw [h]
      · simp [hlt] at h) _ cp ((Array.range (len * sz)).map (z.cells[· % z.cells.size]!)) _ r k1 k2 (by simp) (fun j u c hu hc => by
      have hlt : j < len * sz := by have := (Array.getElem?_eq_some_iff.1 hu).1; simpa using this
      rw [List.getElem?_replicate, if_pos hlt] at hc
      injection hc with hc
      subst hc
      have hsz0 : 0 < sz := Nat.pos_of_mul_pos_left h0
      have hj : j % z.cells.size < z.cells.size := Nat.mod_lt _ (by omega)
      simp [hlt] at hu
      rw [← hu]
      refine .u ?_
      have hzz : (zs.map Z.cv)[j % z.cells.size]? = some ((zs.map Z.cv)[j % z.cells.size]'(by rw [← hz2]; exact hj)) := List.getElem?_eq_getElem _
      have := (hz3 g w (j % z.cells.size) _ _ (Array.getElem?_eq_getElem hj) hzz).one
      simpa [hj] using this) hr
  obtain ⟨u1, u2⟩ := unDL_get hfl
  have hrl : r.length = len * sz := by
    have : ∀ (cp : List (Nat × List CV)) (cs r : List CV), cfill ((List.range len).map fun i => (i * sz, sz)) cs cp = some r → r.length = cs.length := by
      intro cp
      induction cp with
      | nil => intro cs r h; simp [cfill] at h; rw [h]
      | cons p cp ih =>
        intro cs r h
        simp only [cfill] at h
        cases hq : ((List.range len).map fun i => (i * sz, sz))[p.1]? with
        | none => rw [hq] at h; cases h
        | some x =>
          rw [hq] at h
          dsimp only at h
          cases hb : (Nat.beq p.2.length x.2 && Nat.ble (x.1 + p.2.length) cs.length) with
          | false => rw [hb] at h; cases h
          | true =>
            rw [hb] at h
            rw [Bool.and_eq_true] at hb
            have h2 := Nat.le_of_ble_eq_true hb.2
            rw [ih _ _ h]
            simp [setSeg]; omega
    rw [this _ _ _ hr]; simp
  have hbu := run_buildSlice (P := P) w t e len (parts.map fun (i, x) => (i, a.eval x)) vals' i z hu hi hz1 (by rw [hsz]; omega) (by rw [hsz]; omega) (by rw [hsz]; simpa using q1)
  have hrun : (execOp a.eval o).run P w = .ok (.value (.slice (some ⟨w.heap.size, 0, none⟩) len len)) (w.alloc (.cells vals' e)) := by
    simp only [execOp, ho, Sem.run_bind, hbu, Result.andThen_ok, Sem.run_pure]
  have hsz0 : 0 < sz := Nat.pos_of_mul_pos_left h0
  have hlen2 : len ≤ len * sz := Nat.le_mul_of_pos_right _ hsz0
  have h1 := hs.newG (d := d) f1 f2 (r0 := none) (ob := none) (nb := some w.heap.size) (k := len) (w' := w.alloc (.cells vals' e)) (vh := .arr e sz (chunks sz len fl)) (fun b hb => (by cases hb)) (World.grownBy_alloc w _ none) (fun b hb => (by simp at hb; subst hb; exact ⟨.inr (Nat.le_refl _), by simp⟩)) rfl (fun hf => by
    refine ⟨fun row hrow => ?_, .inr ⟨w.heap.size, vals', by simp [Gh.new, updO], Blk.new _ _ _, by simp [Gh.new, updN]; omega, by simp [Gh.new, updN, chunks_len], by simp [Gh.new, updN]; unfold maxLen; omega, fun i' j row x hi' hj => ?_⟩⟩
    · obtain ⟨i', hi'⟩ := List.getElem?_of_mem hrow
      have hlt := (List.getElem?_eq_some_iff.1 hi').1
      rw [chunks_len] at hlt
      rw [chunks_get _ _ _ _ hlt] at hi'
      injection hi' with hi'
      rw [← hi']
      have : (i' + 1) * sz ≤ len * sz := Nat.mul_le_mul_right _ hlt
      rw [Nat.add_mul] at this
      simp
      omega
    · have hlt := (List.getElem?_eq_some_iff.1 hi').1
      rw [chunks_len] at hlt
      rw [chunks_get _ _ _ _ hlt] at hi'
      injection hi' with hi'
      rw [← hi'] at hj
      have hjl := (List.getElem?_eq_some_iff.1 hj).1
      simp at hjl
      rw [List.getElem?_take_of_lt (by omega), List.getElem?_drop] at hj
      have hlt2 := (List.getElem?_eq_some_iff.1 hj).1
      have hv : vals'[i' * sz + j]? = some (vals'[i' * sz + j]'(by omega)) := Array.getElem?_eq_getElem (by omega)
      have hrr : r[i' * sz + j]? = some (r[i' * sz + j]'(by omega)) := List.getElem?_eq_getElem (by omega)
      exact ⟨_, hv, ((q3 _ _ _ hv hrr).unD (u2 _ _ _ hrr hj)).mono hf.rd hf.cell⟩)
  unfold Oper.wp
  rw [hrun]
  refine hK (g.new d (some w.heap.size) len) _ _ ?_ ⟨some ⟨w.heap.size, 0, none⟩, by rw [hd]; exact eval_put_same (by rw [hs.nt]; exact hN)⟩
  rw [hd]
  refine h1.put hN (.one ?_)
  have := RepCV.sl (P := P) (g := g.new d (some w.heap.size) len) (w := w.alloc (.cells vals' e)) (r := d) (b := w.heap.size) len sz (by simp [Gh.new, updO]) (by simp [Gh.new, updN]) (by simp [Gh.new, updN]; unfold maxLen; omega)
  simpa [Gh.new, updN] using this

theorem opx_cby (hτ : tabB P 0 τ = true) {t d e by_ r n : Nat} {x : Operand} {rows : List (List Cell)} {F' : List (Nat × SV)} {H' : List (Nat × VH)} (ho : o.op = .convert t t x) (hd : o.dst = some d) (hN : d < N) (ht : tyAt τ t = .sl e 1 by_) (he : u8B P e = true) (hx : s.ev x = .one (.sl r n 1)) (hr : getH s.H r = .arr e 1 rows) (hn : n = rows.length) (hn0 : 0 < n) (hH : FrH s.H [r] s.H H') (hF : FrF s.H [r] s.F F') :
    ∀ g a w, Sim P T N w0 g s a w → (∃ A, a.eval x = .slice A n n) → ∀ (K : Act → World → Prop) (Q : Exit → Act → World → Prop), (∀ g' a' w', Sim P T N w0 g' ⟨(d, .one (.d (.list rows))) :: F', H'⟩ a' w' → (∃ A, a'.eval (.tmp d) = .slice A n n) → K a' w') → o.wp P a w K Q := by
  intro g a w hs hA K Q hK
  obtain ⟨hu, inf, hi, hsz⟩ := sliceT_spec (tab_sl hτ ht)
  have h1 := hs.ev x; rw [hx] at h1
  have hh := hs.hH r; rw [hr] at hh
  have hlr : live s.H r := by unfold live; rw [hr]; rfl
  obtain ⟨v, hv⟩ : ∃ v, a.eval x = v := ⟨_, rfl⟩
  rw [hv] at h1
  have h1' := h1.one_inv
  cases h1' with
  | slv => omega
  | @sl r b n sz hb q1 q2 =>
    obtain ⟨g0, hh⟩ := hh
    rcases hh with ⟨h2, _⟩ | ⟨b2, vals, hb2, hbl, g2, g3, g4, g5⟩
    · rw [hb] at h2; cases h2
    obtain rfl : b = b2 := by rw [hb] at hb2; injection hb2
    have hshape : w.shape? b = some (e, vals.size) := by unfold World.shape?; rw [show w.heap[b]? = some (.cells vals e (0, 0)) from hbl]
    obtain ⟨f1, f2, f3⟩ := freeze_spec (k := vals.size) hbl
    have hrun : (execOp a.eval o).run P w = .ok (.value (.slice (some ⟨b, 0, none⟩) n (g.κ r))) (w.freeze ⟨b, vals.size, none⟩ 1) := by
      simp [execOp, ho, hv, convert, run_underlying hu, run_underlying (u8B_spec he), markStringish, hshape]
    obtain ⟨b1, b2, b3⟩ := hs.gi.bd r b hlr hb
    have hs2 := hs.fr hH hF
    have hrep : RepCV P (g.fr s.H [r] w) w (.slice (some ⟨b, 0, none⟩) n (g.κ r)) (.d (.list rows)) := CVz.rep hs (.fz (by simp) hr hn) h1.one_inv
    have hs3 := hs2.mark b1 (fun r' hl' hb' => by
      have hk := (hH.get r').live hl'
      have := hs.gi.inj r' r b hk.2 hlr hb' hb
      subst this
      simp at hk) b3 f1 f2 f3 (by
      show g.ex b = none
      cases hx : g.ex b with
      | none => rfl
      | some o => exact absurd hb ((hs.gi.ex b o hx).2.2.2.2.2 r hlr))
    unfold Oper.wp
    rw [hrun]
    have ek : g.κ r = n := by
      obtain ⟨A, hA⟩ := hA
      rw [hv] at hA
      injection hA
    refine hK (g.fr s.H [r] w) _ _ ?_ ⟨some ⟨b, 0, none⟩, by rw [hd, eval_put_same (by rw [hs.nt]; exact hN), ek]⟩
    rw [hd]
    exact hs3.put hN (.one (hrep.move ⟨fun _ _ h => h, fun b o _ => f3 _⟩ (fun _ h => h) fun _ _ => ⟨rfl, rfl⟩))
end
@[irreducible] def rgx (k : Wk) (w0 : Org) (b n : Nat) (ops : Array Oper) (l : List Oper) (Q : St → Prop) (s : St) : Prop :=
  ∀ g a w, Sim k.P k.T k.N w0 g s a w → (∃ A, a.eval (.tmp b) = .slice A n n) → ∀ Q' : Exit → Act → World → Prop, (∀ g' s' a' w', Q s' → Sim k.P k.T k.N w0 g' s' a' w' → Q' .normal a' w') → wpList k.P ops Q' l a w
def dstNe (b : Nat) (l : List Oper) : Bool := l.all fun o => match o.dst with | some d => !(Nat.beq d b) | none => true
theorem dstNe_spec {b : Nat} {l : List Oper} (h : dstNe b l = true) : ∀ o ∈ l, ∀ d, o.dst = some d → d ≠ b := fun o ho d hd e => by
  have := List.all_eq_true.1 h o ho
  rw [hd] at this
  subst e
  simp at this
section
variable {k : Wk} {w0 : Org} {ops : Array Oper} {l rest : List Oper} {Q : St → Prop} {F F' : List (Nat × SV)} {H H' : List (Nat × VH)} {d b n t : Nat} {p p' pa pb pc pd : String} {af af' afa afb afc afd : Array Edge} {s : St}
theorem x_mid (mid : List Oper) (hb : dstNe b mid = true) (h : rg k w0 ops mid (fun s' => rgx k w0 b n ops rest Q s') s) : rgx k w0 b n ops (mid ++ rest) Q s := by
  unfold rgx
  intro g a w hs hA Q' hQ
  obtain ⟨A, hA⟩ := hA
  have h1 := rgO h g a w hs (fun e a w => match e with | .normal => ∃ g' s', rgx k w0 b n ops rest Q s' ∧ Sim k.P k.T k.N w0 g' s' a w | e => Q' e a w) fun g' s' a' w' h1 h2 => ⟨g', s', h1, h2⟩
  refine wpl_thr (fun e a w he h => ?_) (fun a' w' hh hv => ?_) mid a w (dstNe_spec hb) hA h1
  · cases e <;> first | exact absurd rfl he | exact h
  · obtain ⟨g', s', h2, h3⟩ := hh
    unfold rgx at h2
    exact h2 g' a' w' h3 ⟨A, hv⟩ Q' hQ
theorem x_mid4 {o1 o2 o3 o4 : Oper} (hb : dstNe b [o1, o2, o3, o4] = true) (h : rg k w0 ops [o1, o2, o3, o4] (fun s' => rgx k w0 b n ops rest Q s') s) : rgx k w0 b n ops (o1 :: o2 :: o3 :: o4 :: rest) Q s := x_mid [o1, o2, o3, o4] hb h
theorem x_st {d0 b t ty ty' m e by_ : Nat} {zs : List Z} {parts : Array (Nat × Operand)} {cp : List (Nat × List CV)} {r : List CV} {fl : List Cell} {xs : List Int} {p1 p2 : Prop} (hN0 : Nat.blt d0 k.N = true) (hN : Nat.blt b k.N = true) (ht : tyAt k.τ t = .sl e 1 by_) (hz : (tyAt k.τ e).zs = some zs) (hzl : zs.length = 1)
    (hp : partsOf ⟨F, H⟩ parts.toList = some cp) (hr : cfill ((List.range m).map fun i => (i * 1, 1)) (List.replicate (m * 1) .u) cp = some r) (hfl : unDL r = some fl) (h0 : Nat.blt 0 (m * 1) = true) (hm : Nat.ble (m * 1) 16777216 = true) (hf : (St.mk F H).fresh d0 = true) (he : u8B k.P e = true)
    (hF : fzK d0 1 (chunks 1 m fl) ((d0, .one (.sl d0 m 1)) :: F) (fun a p => some (a, p)) = some (F', p1)) (hH : fzHK d0 1 (chunks 1 m fl) ((d0, .arr e 1 (chunks 1 m fl)) :: H) (fun a p => some (a, p)) = some (H', p2)) (hpp : p1 ∧ p2) (hrow : chunks 1 m fl = xs.map irow_u8)
    (h : rgx k w0 b m ops l Q ⟨(b, .one (.d (.list (xs.map irow_u8)))) :: F', H'⟩) : rg k w0 ops (⟨some d0, .buildSlice t m parts, ty, p, af, none⟩ :: ⟨some b, .convert t t (.tmp d0), ty', p', af', none⟩ :: l) Q ⟨F, H⟩ := by
  have hg : getH ((d0, VH.arr e 1 (chunks 1 m fl)) :: H) d0 = .arr e 1 (chunks 1 m fl) := by simp [getH]
  obtain ⟨l1, q1, h1, h2⟩ := fzK_ok hg ((d0, SV.one (.sl d0 m 1)) :: F) fun a p => some (a, p)
  obtain ⟨l2, q2, h3, h4⟩ := fzHK_ok hg ((d0, VH.arr e 1 (chunks 1 m fl)) :: H) fun a p => some (a, p)
  rw [h1] at hF
  rw [h3] at hH
  injection hF with hF
  injection hF with e1 e2
  injection hH with hH
  injection hH with e3 e4
  subst e1
  subst e2
  subst e3
  subst e4
  refine rgI fun g a w hs Q' hQ => wpList_plain rfl fun K hK => ?_
  refine opx_buildSlice k.ok rfl rfl (nlt hN0) ht hz hp hr hfl (nlt h0) (Nat.le_of_ble_eq_true hm) (St.fresh_spec hf).1 (St.fresh_spec hf).2.1 hzl g a w hs K Q' fun g1 a1 w1 hs1 hA1 => hK _ _ ?_
  refine wpList_plain rfl fun K2 hK2 => ?_
  have h0' := nlt h0
  refine opx_cby (s := ⟨(d0, .one (.sl d0 m 1)) :: F, (d0, .arr e 1 (chunks 1 m fl)) :: H⟩) (r := d0) (n := m) (x := .tmp d0) k.ok rfl rfl (nlt hN) ht he (by simp [St.ev, getF]) hg (chunks_len _ _ _).symm (by omega) (h4 hpp.2) (h2 hpp.1) g1 a1 w1 hs1 hA1 K2 Q' fun g2 a2 w2 hs2 hA2 => hK2 _ _ ?_
  rw [hrow] at hs2
  unfold rgx at h
  exact h g2 a2 w2 hs2 hA2 Q' hQ
theorem x_nap {d b t ty n e by_ : Nat} {y : Operand} {zs : List Z} {xs ys : List Int} {rows' : List (List Cell)} (hN : Nat.blt d k.N = true) (ht : tyAt k.τ t = .sl e 1 by_) (hz : (tyAt k.τ e).zs = some zs) (hzl : zs.length = 1) (hx : (St.mk F H).ev (.tmp b) = .one (.d (.list (xs.map irow_u8)))) (hn : n = xs.length) (hn0 : Nat.blt 0 n = true)
    (hy : Src ⟨F, H⟩ 1 ((St.mk F H).ev y) rows') (hrow : rows' = ys.map irow_u8) (hy0 : 0 < ys.length) (hfr : (St.mk F H).fresh d = true) (hb0 : by_ = 1) (hbd : xs.length + ys.length ≤ 1000000000)
    (h : rg k w0 ops l Q ⟨(d, .one (.sl d (xs ++ ys).length 1)) :: F, (d, .arr e 1 ((xs ++ ys).map irow_u8)) :: H⟩) : rg k w0 ops [] (fun s' => rgx k w0 b n ops (⟨some d, .call { callee := .builtin .append, args := #[.tmp b, y], argTypes := #[t, t] }, ty, p, af, none⟩ :: l) Q s') ⟨F, H⟩ := by
  subst hrow
  refine i_nil ?_
  unfold rgx
  intro g a w hs hA Q' hQ
  refine wpList_plain rfl fun K hK => ?_
  obtain ⟨A, hA⟩ := hA
  obtain ⟨hu, inf, hi, hsz⟩ := sliceT_spec (tab_sl k.ok ht)
  have hby : inf.bytes = by_ := by
    have := tab_by k.ok ht
    unfold bytesB at this
    rw [hi] at this
    exact Nat.eq_of_beq_eq_true this
  obtain ⟨i, z, hi2, hz1, hz2, hz3⟩ := zeroB_spec (tab_zs k.ok hz)
  obtain rfl : i = inf := by rw [hi] at hi2; injection hi2 with h; exact h.symm
  have hzs : z.cells.size = 1 := by rw [hz2]; simp [hzl]
  have hr1 : ∀ zs : List Int, ∀ row ∈ zs.map irow_u8, row.length = 1 := fun zs row hr => by
    obtain ⟨z, _, rfl⟩ := List.mem_map.1 hr; rfl
  have hX : Src ⟨F, H⟩ 1 ((St.mk F H).ev (.tmp b)) (xs.map irow_u8) := by rw [hx]; exact .d _ (hr1 xs)
  obtain ⟨A1, c1, olds, ex, hC1, hol, ho1, hor⟩ := hX.vals Nat.one_pos hs (hs.ev _)
  obtain ⟨A2, c2, news, ey, hC, hnl, hn1, hnr⟩ := hy.vals Nat.one_pos hs (hs.ev y)
  have hnp := nlt hn0
  rw [ex] at hA
  injection hA with _ _ ec
  subst ec
  simp only [List.length_map, Nat.mul_one] at ex ey hol hnl
  obtain ⟨ad1, rfl, _, _⟩ := hC1 0 _ (List.getElem?_eq_getElem (by omega))
  obtain ⟨ad2, rfl, _, _⟩ := hC 0 _ (List.getElem?_eq_getElem (by omega))
  obtain ⟨v', w', hrun, hown', hg'⟩ := run_append_arg_grows (P := k.P) (w := w) t ty e i z 1 by_ hu hi hz1 hsz hby hzs Nat.one_pos ad1 xs.length c1 olds (by omega) (fun j u hj => by obtain ⟨ad, h1, _, h2⟩ := hC1 j u hj; injection h1 with h1; subst h1; exact h2) ad2 ys.length c2 news (by omega) (fun j u hj => by obtain ⟨ad, h1, _, h2⟩ := hC j u hj; injection h1 with h1; subst h1; exact h2) (by omega) (by unfold maxLen; omega) (by subst hb0; omega)
  unfold Oper.wp
  simp [execOp, resolve, invoke, builtin, ex, ey, hrun, Result.andThen]
  refine hK _ _ ?_
  have hlen : ((xs ++ ys).map irow_u8).length = xs.length + ys.length := by simp
  have hfut : Fut g.Rd g.Rd w w' := ⟨fun _ _ h => h, fun b o' hb => World.cell?_of_block (w := w) (a := ⟨b, o', none⟩) (hg'.block b (hs.gi.rd b o' hb).1 (fun e => by cases e))⟩
  obtain ⟨q, q1, q2, q3⟩ := own_arr (P := k.P) (g := g) (d := d) hown' hlen.symm (hr1 _) (fun i j row x hi hj => by
    rw [List.map_append] at hi
    by_cases hlt : i < (xs.map irow_u8).length
    · rw [List.getElem?_append_left hlt] at hi
      obtain ⟨hj', u, hu, hr⟩ := hor i j row x hi hj
      refine ⟨u, ?_, hr.mono hfut.rd hfut.cell⟩
      rw [List.getElem?_append_left (List.getElem?_eq_some_iff.1 hu).1]
      exact hu
    · rw [List.getElem?_append_right (by omega)] at hi
      obtain ⟨hj', u, hu, hr⟩ := hnr _ j row x hi hj
      refine ⟨u, ?_, hr.mono hfut.rd hfut.cell⟩
      simp only [List.length_map] at hlt hu
      rw [List.getElem?_append_right (by omega)]
      rw [← hu]
      congr 1
      omega)
  have h1 := hs.newG (d := d) (St.fresh_spec hfr).1 (St.fresh_spec hfr).2.1 (r0 := none) (ob := none) (nb := v'.ownBlock) (k := q) (vh := .arr e 1 ((xs ++ ys).map irow_u8)) (fun b hb => by cases hb) hg' (fun b hb => ⟨.inr (hown'.lt b hb).1, q3 b hb⟩) rfl (fun _ => q1)
  have h2 := h1.put (x := d) (nlt hN) (.one q2)
  rw [List.length_map] at h2
  exact rgO h _ _ _ h2 Q' hQ
end
end Go.Proofs.Ytbnmcdnkeipdhaa
/- Results that are owned lists, of which only a property is known. -/
set_option linter.all false
set_option maxRecDepth 20000
namespace Go.Proofs.Ytbnmcdnkeipdhaa
open Go.RowKit Go.Shelf
section
variable {P : Program} {T : TypeId} {N : Nat} {w0 : Org} {s : St} {o : Oper}
end
section
variable {k : Wk} {w0 : Org} {ops : Array Oper} {l : List Oper} {Q : St → Prop} {F : List (Nat × SV)} {H : List (Nat × VH)} {d t : Nat} {p : String} {af : Array Edge} {α : Type} {φ : List α → Prop} {gg : α → List Cell}
end
section
variable {τ : List TyI} {fn : Func} {F : List (Nat × SV)} {H : List (Nat × VH)} {α : Type} {φ : List α → Prop} {f : α → List Cell} {xs : List α} {e sz : Nat} {t : Tmp}
end
end Go.Proofs.Ytbnmcdnkeipdhaa
/- Texts put together. -/
set_option linter.all false
set_option maxRecDepth 20000
namespace Go.Proofs.Ytbnmcdnkeipdhaa
open Go.RowKit Go.Shelf
section
variable {P : Program} {T : TypeId} {N : Nat} {w0 : Org} {s : St} {o : Oper}
theorem ope_cat {t t' : TypeId} {x y : Operand} {a b : ByteArray} (hu : strB P t = true) (ho : o.op = .binOp .add t x y t') (hx : s.ev x = .one (.d (.str a))) (hy : s.ev y = .one (.d (.str b))) (h : a.size + b.size ≤ 1000000000) : OpE P T N w0 s o (.one (.d (.str (a ++ b)))) :=
  ope_val fun g ac w hs => by
    have h1 := hs.ev x; rw [hx] at h1
    have h2 := hs.ev y; rw [hy] at h2
    have e : (eqGuard .add t x y (.string a) (.string b)).run P w = .ok () w := by unfold eqGuard; rfl
    refine ⟨.string (a ++ b), ?_, .one (.d (.str _ (by rw [ByteArray.size_append]; unfold maxLen; omega)))⟩
    simp [execOp, ho, h1.str_inv.1, h2.str_inv.1, Sem.run_bind, e, binOp, Op.stringOp, Result.andThen_ok, Sem.run_pure]
    omega
end
section
variable {k : Wk} {w0 : Org} {ops : Array Oper} {l : List Oper} {Q : St → Prop} {F : List (Nat × SV)} {H : List (Nat × VH)} {d t ty tb : Nat} {x y : Operand} {p : String} {af : Array Edge} {a b : ByteArray}
theorem v_cat (hN : Nat.blt d k.N = true) (hu : strB k.P t = true) (hx : (St.mk F H).ev x = .one (.d (.str a))) (hy : (St.mk F H).ev y = .one (.d (.str b))) (hc : a.size + b.size ≤ 1000000000) (h : rg k w0 ops l Q ⟨(d, .one (.d (.str (a ++ b)))) :: F, H⟩) : rg k w0 ops (⟨some d, .binOp .add t x y tb, ty, p, af, none⟩ :: l) Q ⟨F, H⟩ :=
  rgI (irg_e rfl rfl (nlt hN) (ope_cat hu rfl hx hy hc) (rgO h))
end
end Go.Proofs.Ytbnmcdnkeipdhaa
/- Calls that change blocks they were handed, and hand lists back. -/
set_option linter.all false
set_option maxRecDepth 20000
namespace Go.Proofs.Ytbnmcdnkeipdhaa
open Go.RowKit Go.Shelf
def CV.upn (ρ : List Nat) : CV → CV
  | .d x => .d x
  | .nil => .nil
  | .sl r n sz => .sl (ρ.getD r 0) n sz
  | .ref r off => .ref (ρ.getD r 0) off
  | .u => .u
  | .el _ _ _ _ => .u
  | .slp _ _ _ _ => .u
  | .rp _ => .u
  | .clo _ _ => .u
  | .fn _ => .u
  | .tape => .u
def CV.okn (m : Nat) (k : Bool) : CV → Bool
  | .d _ => true
  | .nil => true
  | .sl r _ _ => Nat.blt r m && !(k && Nat.beq r 0)
  | .ref r _ => Nat.blt r m
  | .u => true
  | .el _ _ _ _ => false
  | .slp _ _ _ _ => false
  | .rp _ => false
  | .clo _ _ => false
  | .fn _ => false
  | .tape => false
def CV.oknL (m : Nat) (k : Bool) : List CV → Bool
  | [] => true
  | c :: l => c.okn m k && CV.oknL m k l
def CV.upnL (ρ : List Nat) : List CV → List CV
  | [] => []
  | c :: l => c.upn ρ :: CV.upnL ρ l
mutual
def SV.upn (ρ : List Nat) : SV → SV
  | .u => .u
  | .one c => .one (c.upn ρ)
  | .agg cs => .agg (CV.upnL ρ cs)
  | .tup vs => .tup (SV.upnL ρ vs)
def SV.upnL (ρ : List Nat) : List SV → List SV
  | [] => []
  | v :: l => v.upn ρ :: SV.upnL ρ l
end
mutual
def SV.okn (m : Nat) (k : Bool) : SV → Bool
  | .u => true
  | .one c => c.okn m k
  | .agg cs => CV.oknL m k cs
  | .tup vs => SV.oknL m k vs
def SV.oknL (m : Nat) (k : Bool) : List SV → Bool
  | [] => true
  | v :: l => v.okn m k && SV.oknL m k l
end
def VH.upn (ρ : List Nat) : VH → VH
  | .arr e sz rows => .arr e sz rows
  | .blk t cs => .blk t (CV.upnL ρ cs)
  | .gone => .gone
  | .pin _ _ => .gone
  | .tbl _ _ _ _ => .gone
def VH.okn (m : Nat) (k b : Bool) : VH → Bool
  | .arr _ _ _ => !b
  | .blk _ cs => CV.oknL m k cs
  | .gone => false
  | .pin _ _ => false
  | .tbl _ _ _ _ => false
def numH (i : Nat) : List VH → List (Nat × VH)
  | [] => []
  | h :: l => (i, h) :: numH (i + 1) l
def pinK (k : Bool) (u : Value) : List (Nat × VH) := bif k then [(1000, .pin u (.ref 0 0))] else []
theorem numH_get (hs : List VH) (B : List (Nat × VH)) (i r : Nat) : getH (numH i hs ++ B) r = if i ≤ r ∧ r < i + hs.length then hs.getD (r - i) .gone else getH B r := by
  induction hs generalizing i with
  | nil => rw [if_neg (by simp only [List.length_nil]; omega)]; rfl
  | cons h hs ih =>
    simp only [numH, List.cons_append, getH, beq_eq]
    by_cases e : i = r
    · subst e
      rw [decide_eq_true rfl, cond_true, if_pos (by simp), Nat.sub_self]; rfl
    · rw [decide_eq_false e, cond_false, ih]
      by_cases e2 : i + 1 ≤ r ∧ r < i + 1 + hs.length
      · rw [if_pos e2, if_pos (by simp; omega), show r - i = (r - (i + 1)) + 1 by omega]; rfl
      · rw [if_neg e2, if_neg (by simp; omega)]
theorem pinK_live (k : Bool) (u : Value) (r : Nat) : (getH (pinK k u) r).live = false := by
  cases k with
  | false => rfl
  | true =>
    simp only [pinK, cond_true, getH, beq_eq]
    by_cases e : 1000 = r <;> simp [e, VH.live]
theorem CV.oknL_get {m : Nat} {k : Bool} {cs : List CV} (h : CV.oknL m k cs = true) {j : Nat} {c : CV} (hj : cs[j]? = some c) : c.okn m k = true := by
  induction cs generalizing j with
  | nil => simp at hj
  | cons x cs ih =>
    simp only [CV.oknL, Bool.and_eq_true] at h
    cases j with
    | zero => simp at hj; subst hj; exact h.1
    | succ j => exact ih h.2 (by simpa using hj)
theorem SV.oknL_get {m : Nat} {k : Bool} {cs : List SV} (h : SV.oknL m k cs = true) {j : Nat} {c : SV} (hj : cs[j]? = some c) : c.okn m k = true := by
  induction cs generalizing j with
  | nil => simp at hj
  | cons x cs ih =>
    simp only [SV.oknL, Bool.and_eq_true] at h
    cases j with
    | zero => simp at hj; subst hj; exact h.1
    | succ j => exact ih h.2 (by simpa using hj)
theorem CV.upnL_get (ρ : List Nat) (cs : List CV) (j : Nat) : (CV.upnL ρ cs)[j]? = (cs[j]?).map (CV.upn ρ) := by
  induction cs generalizing j with
  | nil => rfl
  | cons x cs ih => cases j with
    | zero => rfl
    | succ j => simpa [CV.upnL] using ih j
theorem CV.upnL_len (ρ : List Nat) (cs : List CV) : (CV.upnL ρ cs).length = cs.length := by
  induction cs with
  | nil => rfl
  | cons x cs ih => simp [CV.upnL, ih]
theorem SV.upnL_get (ρ : List Nat) (cs : List SV) (j : Nat) : (SV.upnL ρ cs)[j]? = (cs[j]?).map (SV.upn ρ) := by
  induction cs generalizing j with
  | nil => rfl
  | cons x cs ih => cases j with
    | zero => rfl
    | succ j => simpa [SV.upnL] using ih j
theorem SV.upnL_len (ρ : List Nat) (cs : List SV) : (SV.upnL ρ cs).length = cs.length := by
  induction cs with
  | nil => rfl
  | cons x cs ih => simp [SV.upnL, ih]
structure Names (ρ : List Nat) (k : Bool) (gl gu : Gh) : Prop where
  β : ∀ i q, ρ[i]? = some q → gu.β q = gl.β i
  κ : ∀ i q, ρ[i]? = some q → (k = true → i ≠ 0) → gu.κ q = gl.κ i
theorem okn_sl {m : Nat} {k : Bool} {r n sz : Nat} (h : (CV.sl r n sz).okn m k = true) : r < m ∧ (k = true → r ≠ 0) := by
  simp only [CV.okn, Bool.and_eq_true, Bool.not_eq_true', beq_eq] at h
  refine ⟨blt_lt h.1, fun hk e => ?_⟩
  subst hk e
  simp at h
theorem getD_some {ρ : List Nat} {r : Nat} (h : r < ρ.length) : ρ[r]? = some (ρ.getD r 0) := by
  rw [List.getD_eq_getElem?_getD, List.getElem?_eq_getElem h]; rfl
theorem RepCV.down {P : Program} {gl gu : Gh} {w : World} {ρ : List Nat} {k : Bool} (hn : Names ρ k gl gu) (hR : gl.Rd = gu.Rd) {v : Value} {c : CV} (ho : c.okn ρ.length k = true) (h : RepCV P gu w v (c.upn ρ)) : RepCV P gl w v c := by
  cases c with
  | u => exact .u h.one
  | d x => cases h; rename_i h; exact .d (hR ▸ h)
  | nil => cases h; exact .nil
  | sl r n sz =>
    obtain ⟨o1, o2⟩ := okn_sl ho
    have hq := getD_some o1
    have e1 := hn.β _ _ hq
    have e2 := hn.κ _ _ hq o2
    rcases RepCV.sl_inv h with ⟨rfl, rfl, hb⟩ | ⟨b, hb, h1, h2, rfl⟩
    · exact .slv _ (e1.symm.trans hb)
    · have := RepCV.sl (P := P) (g := gl) (w := w) (r := r) (b := b) n sz (e1.symm.trans hb) (by rw [← e2]; exact h1) (by rw [← e2]; exact h2)
      rwa [← e2] at this
  | ref r off =>
    have o1 : r < ρ.length := blt_lt ho
    obtain ⟨b, hb, rfl⟩ := RepCV.ref_inv h
    exact .ref _ ((hn.β _ _ (getD_some o1)).symm.trans hb)
  | el _ _ _ _ => cases ho
  | slp _ _ _ _ => cases ho
  | rp _ => cases ho
  | clo _ _ => cases ho
  | fn _ => cases ho
  | tape => cases ho
theorem RepCV.upn {P : Program} {gl gu : Gh} {w : World} {ρ : List Nat} {k : Bool} (hn : Names ρ k gl gu) (hR : gl.Rd = gu.Rd) {v : Value} {c : CV} (ho : c.okn ρ.length k = true) (h : RepCV P gl w v c) : RepCV P gu w v (c.upn ρ) := by
  cases c with
  | u => exact .u h.one
  | d x => cases h; rename_i h; exact .d (hR ▸ h)
  | nil => cases h; exact .nil
  | sl r n sz =>
    obtain ⟨o1, o2⟩ := okn_sl ho
    have hq := getD_some o1
    have e1 := hn.β _ _ hq
    have e2 := hn.κ _ _ hq o2
    rcases h.sl_inv with ⟨rfl, rfl, hb⟩ | ⟨b, hb, h1, h2, rfl⟩
    · exact .slv _ (e1.trans hb)
    · have := RepCV.sl (P := P) (g := gu) (w := w) (r := ρ.getD r 0) (b := b) n sz (e1.trans hb) (by rw [e2]; exact h1) (by rw [e2]; exact h2)
      rwa [e2] at this
  | ref r off =>
    have o1 : r < ρ.length := blt_lt ho
    obtain ⟨b, hb, rfl⟩ := h.ref_inv
    exact .ref _ ((hn.β _ _ (getD_some o1)).trans hb)
  | el _ _ _ _ => cases ho
  | slp _ _ _ _ => cases ho
  | rp _ => cases ho
  | clo _ _ => cases ho
  | fn _ => cases ho
  | tape => cases ho
theorem RepSV.upn {P : Program} {gl gu : Gh} {w : World} {ρ : List Nat} {k : Bool} (hn : Names ρ k gl gu) (hR : gl.Rd = gu.Rd) {v : Value} {c : SV} (h : RepSV P gl w v c) (ho : c.okn ρ.length k = true) : RepSV P gu w v (c.upn ρ) := by
  induction h with
  | u v => exact .u v
  | one h => exact .one (h.upn hn hR ho)
  | agg vs cs hs h =>
    refine .agg vs _ (by rw [CV.upnL_len]; exact hs) fun j v c' h1 h2 => ?_
    rw [CV.upnL_get] at h2
    cases hc : cs[j]? with
    | none => rw [hc] at h2; cases h2
    | some c =>
      rw [hc] at h2; simp at h2; subst h2
      exact (h j v c h1 hc).upn hn hR (CV.oknL_get ho hc)
  | tup vs ss hs h ih =>
    refine .tup vs _ (by rw [SV.upnL_len]; exact hs) fun j v c' h1 h2 => ?_
    rw [SV.upnL_get] at h2
    cases hc : ss[j]? with
    | none => rw [hc] at h2; cases h2
    | some c =>
      rw [hc] at h2; simp at h2; subst h2
      exact ih j v c h1 hc (SV.oknL_get ho hc)
theorem HeapOK.down {P : Program} {gl gu : Gh} {w : World} {ρ : List Nat} {k : Bool} (hn : Names ρ k gl gu) (hR : gl.Rd = gu.Rd) {i q : Nat} {vh : VH} (hi : ρ[i]? = some q) {b : Bool} (hb : b = (k && Nat.beq i 0)) (ho : vh.okn ρ.length k b = true) (h : HeapOK P gu w q (vh.upn ρ)) : HeapOK P gl w i vh := by
  cases vh with
  | gone => cases ho
  | pin _ _ => cases ho
  | tbl _ _ _ _ => cases ho
  | blk t cs =>
    obtain ⟨bb, vals, h1, h2, h3, h4⟩ := h
    refine ⟨bb, vals, (hn.β _ _ hi).symm.trans h1, h2, by rw [h3, CV.upnL_len], fun j v c hv hc => ?_⟩
    exact RepCV.down hn hR (CV.oknL_get ho hc) (h4 j v (c.upn ρ) hv (by rw [CV.upnL_get, hc]; rfl))
  | arr e sz rows =>
    have e1 := hn.β _ _ hi
    have e2 := hn.κ _ _ hi fun hk e => by subst hk e; subst hb; cases ho
    obtain ⟨h0, h⟩ := h
    refine ⟨h0, ?_⟩
    rcases h with ⟨h1, h2⟩ | ⟨bb, vals, h1, h2, h3, h4, h5, h6⟩
    · exact .inl ⟨e1.symm.trans h1, h2⟩
    · refine .inr ⟨bb, vals, e1.symm.trans h1, h2, by rw [← e2]; exact h3, by rw [← e2]; exact h4, by rw [← e2]; exact h5, fun i j row x hi hj => ?_⟩
      obtain ⟨u, hu, hr⟩ := h6 i j row x hi hj
      exact ⟨u, hu, hR ▸ hr⟩
theorem HeapOK.upn {P : Program} {gl gu : Gh} {w : World} {ρ : List Nat} {k : Bool} (hn : Names ρ k gl gu) (hR : gl.Rd = gu.Rd) {i q : Nat} {vh : VH} (hi : ρ[i]? = some q) {b : Bool} (hb : b = (k && Nat.beq i 0)) (ho : vh.okn ρ.length k b = true) (h : HeapOK P gl w i vh) : HeapOK P gu w q (vh.upn ρ) := by
  cases vh with
  | gone => cases ho
  | pin _ _ => cases ho
  | tbl _ _ _ _ => cases ho
  | blk t cs =>
    obtain ⟨bb, vals, h1, h2, h3, h4⟩ := h
    refine ⟨bb, vals, (hn.β _ _ hi).trans h1, h2, by rw [h3, CV.upnL_len], fun j v c' hv hc' => ?_⟩
    rw [CV.upnL_get] at hc'
    cases hc : cs[j]? with
    | none => rw [hc] at hc'; cases hc'
    | some c =>
      rw [hc] at hc'; simp at hc'; subst hc'
      exact (h4 j v c hv hc).upn hn hR (CV.oknL_get ho hc)
  | arr e sz rows =>
    have e1 := hn.β _ _ hi
    have e2 := hn.κ _ _ hi fun hk e => by subst hk e; subst hb; cases ho
    obtain ⟨h0, h⟩ := h
    refine ⟨h0, ?_⟩
    rcases h with ⟨h1, h2⟩ | ⟨bb, vals, h1, h2, h3, h4, h5, h6⟩
    · exact .inl ⟨e1.trans h1, h2⟩
    · refine .inr ⟨bb, vals, e1.trans h1, h2, by rw [e2]; exact h3, by rw [e2]; exact h4, by rw [e2]; exact h5, fun i j row x hi hj => ?_⟩
      obtain ⟨u, hu, hr⟩ := h6 i j row x hi hj
      exact ⟨u, hu, hR ▸ hr⟩
theorem VH.okn_live {m : Nat} {k b : Bool} {vh : VH} (h : vh.okn m k b = true) : vh.live = true := by cases vh <;> first | rfl | cases h
theorem VH.upn_live {ρ : List Nat} {vh : VH} {m : Nat} {k b : Bool} (h : vh.okn m k b = true) : (vh.upn ρ).live = true := by cases vh <;> first | rfl | cases h
def ICh (P : Program) (T : TypeId) (f : FuncId) (k : Bool) (args : List SV) (hs : List VH) (post : SV → List VH → Prop) : Prop :=
  Enters P f ∧ ∀ (w0 : Org) (g : Gh) (w : World) (vals : Array Value), w0.w = w → GI T w0 g (numH 0 hs ++ pinK k (vals.getD 0 undef)) w → (∀ r, HeapOK P g w r (getH (numH 0 hs ++ pinK k (vals.getD 0 undef)) r)) → vals.size = args.length → (∀ (j : Nat) (v : Value) (sv : SV), vals[j]? = some v → args[j]? = some sv → RepSV P g w v sv) →
    Calls P f vals w fun e w' => ∃ v sv hs' g', post sv hs' ∧ e = .returned v ∧ RepSV P g' w' v sv ∧ GI T w0 g' (numH 0 hs' ++ pinK k (vals.getD 0 undef)) w' ∧ ∀ r, HeapOK P g' w' r (getH (numH 0 hs' ++ pinK k (vals.getD 0 undef)) r)
section
variable {P : Program} {T : TypeId} {N : Nat} {w0 : Org} {g g' : Gh} {s s' : St} {a : Act} {w w' : World} {o : Oper} {τ : List TyI}
def RetQh (τ : List TyI) (fn : Func) (k : Bool) (u : Value) (post : SV → List VH → Prop) (e : Exit) (s : St) : Prop :=
  (e = .ret ∨ e = .normal) ∧ ∃ vs F' hs' raw sv, Fits vs s ⟨F', numH 0 hs' ++ pinK k u⟩ ∧ ResL τ ⟨F', numH 0 hs' ++ pinK k u⟩ fn.results.toList raw ∧ ResO raw sv ∧ post sv hs'
theorem ich_of {f : FuncId} {fn : Func} {cd : Code} {k : Bool} {args : List SV} {hs : List VH} {post : SV → List VH → Prop} (hτ : tabB P 0 τ = true) (hf : P.funcs[f]? = some fn) (hname : (fn.name == "runtime.NumGoroutine") = false) (hb : fn.body = some cd) (hn : Nat.ble args.length fn.ntmps = true)
    (h : ∀ w0 u, iwp P T fn.ntmps w0 cd (RetQh τ fn k u post) ⟨argF 0 args, numH 0 hs ++ pinK k u⟩) : ICh P T f k args hs post := by
  refine ⟨enters_of hf hname hb, fun w0 g w vals hw0 hgi hH hsz hrep => calls_of_wp hf hb ?_⟩
  have hle := Nat.le_of_ble_eq_true hn
  have hs : Sim P T fn.ntmps w0 g ⟨argF 0 args, numH 0 hs ++ pinK k (vals.getD 0 undef)⟩ { tmps := vals ++ Array.replicate (fn.ntmps - vals.size) undef, defers := [] } w := by
    refine ⟨hgi, rfl, by simp; omega, fun x => ?_, hH⟩
    show RepSV P g w _ (getF (argF 0 args) x)
    rw [argF_get]
    simp only [Nat.zero_le, if_true, Nat.sub_zero]
    cases hx : args[x]? with
    | none => exact .u _
    | some sv =>
      have hlt := (List.getElem?_eq_some_iff.1 hx).1
      have hv : vals[x]? = some (vals[x]'(by omega)) := Array.getElem?_eq_getElem (by omega)
      have := hrep x _ sv hv hx
      simpa [Array.getElem_append, show x < vals.size by omega, show x < vals.size + (fn.ntmps - vals.size) by omega] using this
  refine wp_mono (h w0 (vals.getD 0 undef) g _ w hs) fun e a' w' ⟨g', s', ⟨he, vs, F', hs', raw, sv, hfit, hr1, hr2, hp⟩, hs1⟩ => ?_
  have hs2 := hs1.fits hfit
  obtain ⟨v, hrun, hrv⟩ := results_runO hτ hs2 hr1 hr2
  rcases he with rfl | rfl
  · exact ⟨hs1.dn, v, hrun, v, sv, hs', _, hp, rfl, hrv, hs2.gi, hs2.hH⟩
  · exact ⟨hs1.dn, v, hrun, v, sv, hs', _, hp, rfl, hrv, hs2.gi, hs2.hH⟩
end
end Go.Proofs.Ytbnmcdnkeipdhaa
/- Calls that change blocks they were handed, and hand lists back: the caller. -/
set_option linter.all false
set_option maxRecDepth 20000
namespace Go.Proofs.Ytbnmcdnkeipdhaa
open Go.RowKit Go.Shelf
def inv : List Nat → Nat → Nat → Option Nat
  | [], _, _ => none
  | q :: l, i, x => if q = x then some i else inv l (i + 1) x
theorem inv_get {l : List Nat} {i x j : Nat} (h : inv l i x = some j) : i ≤ j ∧ l[j - i]? = some x := by
  induction l generalizing i with
  | nil => cases h
  | cons q l ih =>
    rw [inv] at h
    split at h
    · rename_i e; injection h with h; subst h e; simp
    · obtain ⟨h1, h2⟩ := ih h
      refine ⟨by omega, ?_⟩
      rw [show j - i = (j - (i + 1)) + 1 by omega, List.getElem?_cons_succ]; exact h2
theorem inv_of {l : List Nat} (hn : l.Nodup) {i x j : Nat} (h : l[j]? = some x) : inv l i x = some (i + j) := by
  induction l generalizing i j with
  | nil => simp at h
  | cons q l ih =>
    rw [List.nodup_cons] at hn
    rw [inv]
    cases j with
    | zero => simp at h; rw [if_pos h]; rfl
    | succ j =>
      rw [List.getElem?_cons_succ] at h
      rw [if_neg (fun e => by subst e; exact hn.1 (List.mem_of_getElem? h)), ih hn.2 h]
      exact congrArg some (by omega)
theorem inv_none {l : List Nat} {i x : Nat} (h : inv l i x = none) : x ∉ l := by
  induction l generalizing i with
  | nil => simp
  | cons q l ih =>
    rw [inv] at h
    split at h
    · cases h
    · rename_i e
      intro hm
      rcases List.mem_cons.1 hm with hm | hm
      · exact e hm.symm
      · exact ih h hm
def upsH (σ : List Nat) : List Nat → List VH → List (Nat × VH)
  | q :: ρ, h :: hh => (q, h.upn σ) :: upsH σ ρ hh
  | [], _ => []
  | _ :: _, [] => []
theorem upsH_get (σ ρ : List Nat) (hh : List VH) (B : List (Nat × VH)) (hl : hh.length = ρ.length) (i x : Nat) : getH (upsH σ ρ hh ++ B) x = match inv ρ i x with | some j => (hh.getD (j - i) .gone).upn σ | none => getH B x := by
  induction ρ generalizing hh i with
  | nil => cases hh with
    | nil => rfl
    | cons _ _ => simp at hl
  | cons q ρ ih =>
    cases hh with
    | nil => simp at hl
    | cons h hh =>
      simp only [upsH, List.cons_append, getH, beq_eq, inv]
      by_cases e : q = x
      · simp [e]
      · rw [decide_eq_false e, cond_false, ih hh (by simpa using hl) (i + 1), if_neg e]
        cases hi : inv ρ (i + 1) x with
        | none => rfl
        | some j =>
          have := (inv_get hi).1
          simp only []
          rw [show j - i = (j - (i + 1)) + 1 by omega]; rfl
def Gh.lendN (g : Gh) (ρ : List Nat) : Gh := ⟨fun i => (ρ[i]?).bind g.β, fun i => match ρ[i]? with | some q => g.κ q | none => g.κ i, g.Rd, g.tp, g.tl, fun _ => none⟩
def Org.lendN (g : Gh) (w : World) (ρ : List Nat) : Org := ⟨w, g.Rd, g.tp, g.tl, fun k => ∃ q ∈ ρ, g.β q = some k⟩
theorem names_lend (g : Gh) (ρ : List Nat) (k : Bool) : Names ρ k (g.lendN ρ) g := ⟨fun i q h => by simp [Gh.lendN, h], fun i q h _ => by simp [Gh.lendN, h]⟩
def Gh.back (g g' : Gh) (ρ : List Nat) (k : Bool) : Gh := ⟨fun x => match inv ρ 0 x with | some i => g'.β i | none => g.β x, fun x => match inv ρ 0 x with | some i => bif k && Nat.beq i 0 then g.κ x else g'.κ i | none => g.κ x, g'.Rd, g.tp, g.tl, g.ex⟩
structure Handed (s : St) (ρ : List Nat) (k : Bool) (hh : List VH) : Prop where
  nd : ρ.Nodup
  len : hh.length = ρ.length
  h : ∀ (i q : Nat) (vh : VH), ρ[i]? = some q → hh[i]? = some vh → getH s.H q = vh.upn ρ ∧ vh.okn ρ.length k (k && Nat.beq i 0) = true
theorem live_num {hh : List VH} {k : Bool} {u : Value} {r : Nat} (h : live (numH 0 hh ++ pinK k u) r) : r < hh.length := by
  unfold live at h
  rw [numH_get] at h
  by_cases e : 0 ≤ r ∧ r < 0 + hh.length
  · omega
  · rw [if_neg e, pinK_live] at h; cases h
theorem num_get {hh : List VH} {k : Bool} {u : Value} {i : Nat} {vh : VH} (h : hh[i]? = some vh) : getH (numH 0 hh ++ pinK k u) i = vh := by
  have := (List.getElem?_eq_some_iff.1 h).1
  rw [numH_get, if_pos (by omega), Nat.sub_zero, List.getD_eq_getElem?_getD, h]; rfl
section
variable {P : Program} {T : TypeId} {N : Nat} {w0 : Org} {g g' : Gh} {s s' : St} {a : Act} {w w' : World} {o : Oper} {τ : List TyI} {ρ : List Nat} {k : Bool} {hh hh' : List VH} {u : Value}
theorem Handed.get (h : Handed s ρ k hh) {i q : Nat} (hi : ρ[i]? = some q) : ∃ vh, hh[i]? = some vh ∧ getH s.H q = vh.upn ρ ∧ vh.okn ρ.length k (k && Nat.beq i 0) = true ∧ live s.H q := by
  have := (List.getElem?_eq_some_iff.1 hi).1
  have hv : hh[i]? = some (hh[i]'(by have := h.len; omega)) := List.getElem?_eq_getElem _
  obtain ⟨h1, h2⟩ := h.h i q _ hi hv
  exact ⟨_, hv, h1, h2, by unfold live; rw [h1]; exact VH.upn_live h2⟩
theorem Handed.mem (h : Handed s ρ k hh) {q : Nat} (hq : q ∈ ρ) : live s.H q := by
  obtain ⟨i, hi⟩ := List.getElem?_of_mem hq
  exact (h.get hi).choose_spec.2.2.2
theorem lendN_gi (hs : Sim P T N w0 g s a w) (h : Handed s ρ k hh) (u : Value) : GI T (Org.lendN g w ρ) (g.lendN ρ) (numH 0 hh ++ pinK k u) w := by
  have hg : ∀ r, live (numH 0 hh ++ pinK k u) r → ∃ q, ρ[r]? = some q ∧ (g.lendN ρ).β r = g.β q ∧ live s.H q := fun r hr => by
    have hlt := live_num hr
    have hq : ρ[r]? = some (ρ[r]'(by have := h.len; omega)) := List.getElem?_eq_getElem _
    obtain ⟨vh, _, _, _, hl⟩ := h.get hq
    exact ⟨_, hq, (names_lend g ρ k).β _ _ hq ▸ rfl, hl⟩
  refine ⟨fun r r' b h1 h2 h3 h4 => ?_, fun r b h1 h2 => ?_, fun b o hr => ?_, Keep.refl _ _, fun tb ht => hs.gi.tape tb ht, ⟨fun _ _ h => h, fun _ _ h => .inl h, fun tb h => ⟨h, rfl⟩, fun tb h => .inl h⟩, fun c o hc => by cases hc⟩
  · obtain ⟨q, q1, q2, q3⟩ := hg r h1
    obtain ⟨q', p1, p2, p3⟩ := hg r' h2
    have := hs.gi.inj q q' b q3 p3 (q2 ▸ h3) (p2 ▸ h4)
    subst this
    have i1 := inv_of h.nd (i := 0) q1
    rw [inv_of h.nd (i := 0) p1] at i1
    injection i1 with i1; omega
  · obtain ⟨q, q1, q2, q3⟩ := hg r h1
    have hb : g.β q = some b := q2 ▸ h2
    obtain ⟨_, b2, b3⟩ := hs.gi.bd q b q3 hb
    exact ⟨.inr ⟨q, List.mem_of_getElem? q1, hb⟩, b2, b3⟩
  · obtain ⟨r1, r2, r3⟩ := hs.gi.rd b o hr
    refine ⟨r1, r2, fun r hl e => ?_⟩
    obtain ⟨q, q1, q2, q3⟩ := hg r hl
    exact r3 q q3 (q2 ▸ e)
theorem lendN_heap (hs : Sim P T N w0 g s a w) (h : Handed s ρ k hh) (hu : k = true → RepCV P (g.lendN ρ) w u (.ref 0 0)) (r : Nat) : HeapOK P (g.lendN ρ) w r (getH (numH 0 hh ++ pinK k u) r) := by
  by_cases hr : r < hh.length
  · have hq : ρ[r]? = some (ρ[r]'(by have := h.len; omega)) := List.getElem?_eq_getElem _
    obtain ⟨vh, h1, h2, h3, _⟩ := h.get hq
    rw [num_get h1]
    have := hs.hH (ρ[r]'(by have := h.len; omega))
    rw [h2] at this
    exact this.down (names_lend g ρ k) rfl hq rfl h3
  · rw [numH_get, if_neg (by omega)]
    cases hk : k with
    | false => trivial
    | true =>
      simp only [pinK, cond_true, getH, beq_eq]
      by_cases e : 1000 = r
      · simp only [e, decide_true, cond_true]; exact hu hk
      · simp only [e, decide_false, cond_false]; trivial
theorem backN (hs : Sim P T N w0 g s a w) (h : Handed s ρ k hh) (hu : k = true → RepCV P (g.lendN ρ) w u (.ref 0 0)) (hk0 : k = true → 0 < ρ.length ∧ ρ.length ≤ 1000) (h7 : GI T (Org.lendN g w ρ) g' (numH 0 hh' ++ pinK k u) w') (h8 : ∀ r, HeapOK P g' w' r (getH (numH 0 hh' ++ pinK k u) r)) (hlen : hh'.length = ρ.length) (ho : ∀ (i : Nat) (vh : VH), hh'[i]? = some vh → vh.okn ρ.length k (k && Nat.beq i 0) = true)
    {F' : List (Nat × SV)} (hF : ∀ x, getF F' x = .u ∨ getF F' x = getF s.F x ∧ ∀ i q, ρ[i]? = some q → (k = true → i ≠ 0) → (getF F' x).has q = false) (hH : ∀ x, x ∉ ρ → ∀ i q, ρ[i]? = some q → (k = true → i ≠ 0) → (getH s.H x).has q = false) :
    Sim P T N w0 (g.back g' ρ k) ⟨F', upsH ρ ρ hh' ++ s.H⟩ a w' ∧ Names ρ k g' (g.back g' ρ k) := by
  have hnm : Names ρ k g' (g.back g' ρ k) := ⟨fun i q hi => by simp only [Gh.back, inv_of h.nd hi, Nat.zero_add], fun i q hi hne => by
    simp only [Gh.back, inv_of h.nd hi, Nat.zero_add]
    have : (k && Nat.beq i 0) = false := by
      cases hk : k with
      | false => rfl
      | true => simp [beq_eq, hne hk]
    rw [this]; rfl⟩
  refine ⟨?_, hnm⟩
  have hkeep : Keep (MutO (Org.lendN g w ρ)) w w' := h7.keep
  have hsz : w.heap.size ≤ w'.heap.size := hkeep.size
  have hsz0 := hs.gi.sz
  have nomut : ∀ b, b < w.heap.size → g.tp ≠ some b → (∀ q ∈ ρ, g.β q ≠ some b) → ¬ MutO (Org.lendN g w ρ) b := fun b q1 q2 q3 hm => by
    rcases hm with hm | hm | ⟨q, hq, hm⟩
    · exact q2 hm
    · have : w.heap.size ≤ b := hm; omega
    · exact q3 q hq hm
  have hf : Fut g.Rd g'.Rd w w' := ⟨fun b o h => h7.org.rd0 b o h, fun b o hr => hkeep.cell (p := ⟨b, o, none⟩) (nomut b (hs.gi.rd b o hr).1 (hs.gi.rd b o hr).2.1 fun q hq => (hs.gi.rd b o hr).2.2 q (h.mem hq))⟩
  -- the kept block is where it was
  have hkept : ∀ i q, ρ[i]? = some q → ¬ (k = true → i ≠ 0) → (g.back g' ρ k).β q = g.β q ∧ (g.back g' ρ k).κ q = g.κ q := fun i q hi hne => by
    have hk : k = true := by cases hk : k with | true => rfl | false => exact absurd (fun h => by rw [hk] at h; cases h) hne
    have e0 : i = 0 := by
      by_cases e : i = 0
      · exact e
      · exact absurd (fun _ => e) hne
    subst e0
    constructor
    · rw [hnm.β _ _ hi]
      obtain ⟨b, hb, eu⟩ := (hu hk).ref_inv
      have hp := h8 1000
      rw [numH_get, if_neg (by have := (hk0 hk).2; omega)] at hp
      subst hk
      have hp2 : RepCV P g' w' u (.ref 0 0) := by simpa [pinK, getH, HeapOK] using hp
      obtain ⟨b', hb', eu'⟩ := hp2.ref_inv
      rw [eu] at eu'
      simp at eu'
      subst eu'
      rw [hb', ← hb]
      exact ((names_lend g ρ true).β _ _ hi).symm
    · subst hk
      simp [Gh.back, inv_of h.nd hi, beq_eq]
  have hsame : ∀ q, (∀ i, ρ[i]? = some q → ¬ (k = true → i ≠ 0)) → (g.back g' ρ k).β q = g.β q ∧ (g.back g' ρ k).κ q = g.κ q := fun q hq => by
    cases hi : inv ρ 0 q with
    | none => simp [Gh.back, hi]
    | some i =>
      have := (inv_get hi).2
      exact hkept i q this (hq i this)
  have hget : ∀ x, getH (upsH ρ ρ hh' ++ s.H) x = match inv ρ 0 x with | some j => (hh'.getD (j - 0) .gone).upn ρ | none => getH s.H x := fun x => upsH_get ρ ρ hh' s.H hlen 0 x
  have hin : ∀ i q, ρ[i]? = some q → ∃ vh, hh'[i]? = some vh ∧ getH (upsH ρ ρ hh' ++ s.H) q = vh.upn ρ ∧ vh.okn ρ.length k (k && Nat.beq i 0) = true ∧ (g.back g' ρ k).β q = g'.β i ∧ live (numH 0 hh' ++ pinK k u) i := fun i q hi => by
    have hlt := (List.getElem?_eq_some_iff.1 hi).1
    have hv : hh'[i]? = some (hh'[i]'(by omega)) := List.getElem?_eq_getElem _
    refine ⟨_, hv, ?_, ho i _ hv, hnm.β _ _ hi, ?_⟩
    · rw [hget, inv_of h.nd hi]
      simp only [Nat.zero_add, Nat.sub_zero]
      rw [List.getD_eq_getElem?_getD, hv]; rfl
    · unfold live; rw [num_get hv]; exact VH.okn_live (ho i _ hv)
  have hlive : ∀ x, live (upsH ρ ρ hh' ++ s.H) x → (∃ i, ρ[i]? = some x ∧ (g.back g' ρ k).β x = g'.β i ∧ live (numH 0 hh' ++ pinK k u) i) ∨ (x ∉ ρ ∧ live s.H x ∧ (g.back g' ρ k).β x = g.β x) := fun x hx => by
    cases hi : inv ρ 0 x with
    | none =>
      refine .inr ⟨inv_none hi, ?_, by simp [Gh.back, hi]⟩
      unfold live at hx ⊢
      rwa [hget, hi] at hx
    | some i =>
      have hg := (inv_get hi).2
      obtain ⟨vh, _, _, _, e, l⟩ := hin i x hg
      exact .inl ⟨i, hg, e, l⟩
  -- whose a block of the callee is
  have hown : ∀ i b, live (numH 0 hh' ++ pinK k u) i → g'.β i = some b → w.heap.size ≤ b ∨ ∃ q ∈ ρ, g.β q = some b := fun i b h1 h2 => (h7.bd i b h1 h2).1
  have hrd : ∀ b o, g'.Rd b o → g.Rd b o ∨ w.heap.size ≤ b ∨ ∃ q ∈ ρ, g.β q = some b := fun b o hr => h7.org.new0 b o hr
  refine ⟨⟨fun x x' b h1 h2 h3 h4 => ?_, fun x b h1 h2 => ?_, fun b o hr => ?_, ?_, fun tb htb => ?_, ⟨fun b o hr => h7.org.rd0 b o (hs.gi.org.rd0 b o hr), fun b o hr => ?_, hs.gi.org.tp0, hs.gi.org.tpo⟩, hs.gi.exs (fun _ _ h => h) fun c hc => ?_⟩, hs.dn, hs.nt, fun x => ?_, fun x => ?_⟩
  · rcases hlive x h1 with ⟨i, i1, i2, i3⟩ | ⟨i1, i2, i3⟩ <;> rcases hlive x' h2 with ⟨j, j1, j2, j3⟩ | ⟨j1, j2, j3⟩
    · have := h7.inj i j b i3 j3 (i2 ▸ h3) (j2 ▸ h4)
      subst this
      rw [i1] at j1; injection j1
    · have hb : g.β x' = some b := j3 ▸ h4
      rcases hown i b i3 (i2 ▸ h3) with hw | ⟨q, hq, hw⟩
      · have := (hs.gi.bd x' b j2 hb).2.1; omega
      · have := hs.gi.inj q x' b (h.mem hq) j2 hw hb
        subst this; exact absurd hq j1
    · have hb : g.β x = some b := i3 ▸ h3
      rcases hown j b j3 (j2 ▸ h4) with hw | ⟨q, hq, hw⟩
      · have := (hs.gi.bd x b i2 hb).2.1; omega
      · have := hs.gi.inj q x b (h.mem hq) i2 hw hb
        subst this; exact absurd hq i1
    · exact hs.gi.inj x x' b i2 j2 (i3 ▸ h3) (j3 ▸ h4)
  · rcases hlive x h1 with ⟨i, i1, i2, i3⟩ | ⟨i1, i2, i3⟩
    · have hb : g'.β i = some b := i2 ▸ h2
      have h9 := (h7.bd i b i3 hb).2.1
      rcases hown i b i3 hb with hw | ⟨q, hq, hw⟩
      · exact ⟨.inl (Nat.le_trans hsz0 hw), h9, fun e => by have := (hs.gi.tape b e).1; omega⟩
      · obtain ⟨a1, _, a3⟩ := hs.gi.bd q b (h.mem hq) hw
        exact ⟨a1, h9, a3⟩
    · obtain ⟨a1, a2, a3⟩ := hs.gi.bd x b i2 (i3 ▸ h2)
      exact ⟨a1, by omega, a3⟩
  · refine ⟨(h7.rd b o hr).1, fun e => (h7.rd b o hr).2.1 (h7.org.tp0 b e).1, fun x hx e => ?_⟩
    rcases hlive x hx with ⟨i, i1, i2, i3⟩ | ⟨i1, i2, i3⟩
    · exact (h7.rd b o hr).2.2 i i3 (i2 ▸ e)
    · have hb : g.β x = some b := i3 ▸ e
      rcases hrd b o hr with hw | hw | ⟨q, hq, hw⟩
      · exact (hs.gi.rd b o hw).2.2 x i2 hb
      · have := (hs.gi.bd x b i2 hb).2.1; omega
      · have := hs.gi.inj q x b (h.mem hq) i2 hw hb
        subst this; exact i1 hq
  · refine hs.gi.keep.trans (hkeep.mono fun c hc => ?_)
    rcases hc with hc | hc | ⟨q, hq, hc⟩
    · exact hs.gi.org.tpo c hc
    · exact .inr (.inl (Nat.le_trans hsz0 hc))
    · exact .inr (hs.gi.bd q c (h.mem hq) hc).1
  · obtain ⟨q1, q2⟩ := h7.org.tp0 tb htb
    have := h7.tape tb q1
    rw [q2] at this
    exact this
  · rcases hrd b o hr with hw | hw | ⟨q, hq, hw⟩
    · exact hs.gi.org.new0 b o hw
    · exact .inr (.inl (Nat.le_trans hsz0 hw))
    · exact .inr (hs.gi.bd q b (h.mem hq) hw).1
  · obtain ⟨_, c2, c3, c4, c5⟩ := hc
    refine ⟨hkeep.block c (nomut c c2 c3 fun q hq => c5 q (h.mem hq)), c3, fun o ho2 => ?_, fun x hx e => ?_⟩
    · rcases hrd c o ho2 with hw | hw | ⟨q, hq, hw⟩
      · exact c4 o hw
      · omega
      · exact c5 q (h.mem hq) hw
    · rcases hlive x hx with ⟨i, i1, i2, i3⟩ | ⟨i1, i2, i3⟩
      · rcases hown i c i3 (i2 ▸ e) with hw | ⟨q, hq, hw⟩
        · omega
        · exact c5 q (h.mem hq) hw
      · exact c5 x i2 (i3 ▸ e)
  · show RepSV P _ w' _ (getF F' x)
    rcases hF x with e | ⟨e, hno⟩
    · rw [e]; exact .u _
    · rw [e] at hno ⊢
      refine (hs.hF x).move hf (fun _ h => h) fun q hq => hsame q fun i hi hne => ?_
      rw [hno i q hi hne] at hq; cases hq
  · show HeapOK P _ w' x (getH (upsH ρ ρ hh' ++ s.H) x)
    cases hi : inv ρ 0 x with
    | some i =>
      have hg := (inv_get hi).2
      obtain ⟨vh, v1, v2, v3, _, _⟩ := hin i x hg
      rw [v2]
      have := h8 i
      rw [num_get v1] at this
      exact this.upn hnm rfl hg rfl v3
    | none =>
      have hx := inv_none hi
      rw [hget, hi]
      refine (hs.hH x).move hf (fun _ h => h) (fun q hq => hsame q fun i hi2 hne => ?_) (fun b hl hb => ?_) fun _ _ h => h
      · rcases hq with hq | rfl
        · rw [hH x hx i q hi2 hne] at hq; cases hq
        · exact hx (List.mem_of_getElem? hi2)
      · exact hkeep.block b (nomut b (hs.gi.bd x b hl hb).2.1 (hs.gi.bd x b hl hb).2.2 fun q hq e => hx (by rw [← hs.gi.inj q x b (h.mem hq) hl e hb]; exact hq))
def SV.noN (m : Nat) (v : SV) : Bool := (List.range m).all fun i => !v.has i
inductive ArgN (P : Program) (T : TypeId) (s : St) (ρ : List Nat) (z : Bool) : List Operand → List SV → Prop where
  | nil : ArgN P T s ρ z [] []
  | pl {x : Operand} {v : SV} {l : List Operand} {l' : List SV} (h : PsS P T s.H true (s.ev x) v) (hn : v.noN ρ.length = true) (hl : ArgN P T s ρ z l l') : ArgN P T s ρ z (x :: l) (v :: l')
  | nm {x : Operand} {c c' : CV} {l : List Operand} {l' : List SV} (h : s.ev x = .one c') (hc : c.upn ρ = c') (ho : c.okn ρ.length false = true) (hl : ArgN P T s ρ z l l') : ArgN P T s ρ z (x :: l) (.one c :: l')
  | nz {x : Operand} {i sz : Nat} {l : List Operand} {l' : List SV} (hz : z = true) (h : s.ev x = .one .nil) (hi : Nat.blt i ρ.length = true) (hl : ArgN P T s ρ z l l') : ArgN P T s ρ z (x :: l) (.one (.sl i 0 sz) :: l')
theorem psG_lendN {v : Value} {sv : SV} {H : List (Nat × VH)} (h : RepSV P (psG g H w true) w v sv) (h0 : sv.noN ρ.length = true) : RepSV P (g.lendN ρ) w v sv := by
  refine h.move (g' := g.lendN ρ) ⟨fun _ _ h => h, fun _ _ _ => rfl⟩ (fun _ h => h) fun q hq => ?_
  have : ρ[q]? = none := by
    cases hr : ρ[q]? with
    | none => rfl
    | some x =>
      have hlt := (List.getElem?_eq_some_iff.1 hr).1
      unfold SV.noN at h0
      rw [List.all_eq_true] at h0
      have := h0 q (List.mem_range.2 hlt)
      rw [hq] at this; cases this
  simp [Gh.lendN, this, psG]
theorem ArgN.rep {z : Bool} {l : List Operand} {l' : List SV} (h : ArgN P T s ρ z l l') (hs : Sim P T N w0 g s a w) (hz : z = true → ∀ (i q : Nat), ρ[i]? = some q → g.β q = none) : l.length = l'.length ∧ ∀ (j : Nat) (v : Value) (c' : SV), (l.map a.eval)[j]? = some v → l'[j]? = some c' → RepSV P (g.lendN ρ) w v c' := by
  induction h with
  | nil => simp
  | pl h hn hl ih =>
    obtain ⟨ih1, ih2⟩ := ih
    refine ⟨by simp [ih1], fun j v c' h1 h2 => ?_⟩
    cases j with
    | zero => simp at h1 h2; subst h1 h2; exact psG_lendN (h.rep hs (hs.ev _)) hn
    | succ j => exact ih2 j v c' (by simpa using h1) (by simpa using h2)
  | @nm x c c1 l l' h hc ho hl ih =>
    obtain ⟨ih1, ih2⟩ := ih
    refine ⟨by simp [ih1], fun j v c' h1 h2 => ?_⟩
    cases j with
    | zero =>
      simp at h1 h2; subst h1 h2 hc
      have := hs.ev x; rw [h] at this
      exact .one (RepCV.down (names_lend g ρ false) rfl ho this.one_inv)
    | succ j => exact ih2 j v c' (by simpa using h1) (by simpa using h2)
  | @nz x i sz l l' hzt h hi hl ih =>
    obtain ⟨ih1, ih2⟩ := ih
    refine ⟨by simp [ih1], fun j v c' h1 h2 => ?_⟩
    cases j with
    | zero =>
      simp at h1 h2; subst h1 h2
      have := hs.ev x; rw [h] at this
      have e := this.one_inv
      generalize a.eval x = v at e
      cases e
      have hq := getD_some (blt_lt hi)
      exact .one (.slv _ (((names_lend g ρ false).β _ _ hq).symm.trans (hz hzt i _ hq)))
    | succ j => exact ih2 j v c' (by simpa using h1) (by simpa using h2)
theorem callh_at {z : Bool} {f : FuncId} {xs : Array Operand} {ts : Array TypeId} {args : List SV} {v : SV} {d : Nat} {F' : List (Nat × SV)} (ho : o.op = .call { callee := .value (.func f), args := xs, argTypes := ts }) (hd : o.dst = some d) (hN : d < N) (hic : ICh P T f k args hh (fun x y => x = v ∧ y = hh')) (h : Handed s ρ k hh)
    (ha : ArgN P T s ρ z xs.toList args) (hk0 : k = true → (0 < ρ.length ∧ ρ.length ≤ 1000) ∧ args[0]? = some (.one (.ref 0 0))) (hlen : hh'.length = ρ.length) (hok : ∀ (i : Nat) (vh : VH), hh'[i]? = some vh → vh.okn ρ.length k (k && Nat.beq i 0) = true) (hv : v.okn ρ.length k = true)
    (hF : ∀ x, getF F' x = .u ∨ getF F' x = getF s.F x ∧ ∀ i q, ρ[i]? = some q → (k = true → i ≠ 0) → (getF F' x).has q = false) (hH : ∀ x, x ∉ ρ → ∀ i q, ρ[i]? = some q → (k = true → i ≠ 0) → (getH s.H x).has q = false)
    (hs : Sim P T N w0 g s a w) (hz : z = true → ∀ (i q : Nat), ρ[i]? = some q → g.β q = none) (K : Act → World → Prop) (Q : Exit → Act → World → Prop) (hK : ∀ g' s' a' w', s' = (St.mk F' (upsH ρ ρ hh' ++ s.H)).put d (v.upn ρ) → Sim P T N w0 g' s' a' w' → K a' w') : o.wp P a w K Q := by
  obtain ⟨k1, k2⟩ := ha.rep hs hz
  have hrun : (execOp a.eval o).run P w = .ok (.enter f (xs.map a.eval)) w := by
    simp only [execOp, ho, Sem.run_bind, resolve, Act.eval, Deferred.ofValue, Sem.run_pure, Result.andThen_ok, invoke]
    have := hic.1 (#[] ++ xs.map a.eval ++ #[]) w
    simpa using this
  unfold Oper.wp
  rw [hrun, Oper.upon_enter]
  have hszv : (xs.map a.eval).size = args.length := by simpa using k1
  have hu : k = true → RepCV P (g.lendN ρ) w ((xs.map a.eval).getD 0 undef) (.ref 0 0) := fun hk => by
    have h0 := (hk0 hk).2
    have hlt := (List.getElem?_eq_some_iff.1 h0).1
    have hv0 : (xs.map a.eval)[0]? = some ((xs.map a.eval).getD 0 undef) := by
      rw [Array.getD_eq_getD_getElem?, Array.getElem?_eq_getElem (by omega)]; rfl
    have hv1 : (xs.toList.map a.eval)[0]? = some ((xs.map a.eval).getD 0 undef) := by
      rw [← hv0, ← Array.getElem?_toList]; simp
    exact (k2 0 _ _ hv1 h0).one_inv
  refine (hic.2 (Org.lendN g w ρ) (g.lendN ρ) w (xs.map a.eval) rfl (lendN_gi hs h _) (lendN_heap hs h hu) hszv fun j v sv hv hsv => k2 j v sv (by simpa using hv) hsv).mono fun e w' ⟨u1, sv, hh1, g', ⟨h1, h2⟩, h3, h4, h5, h6⟩ => ?_
  subst h1; subst h2; subst h3
  obtain ⟨hs2, hn2⟩ := backN hs h hu (fun hk => (hk0 hk).1) h5 h6 hlen hok hF hH
  refine hK (g.back g' ρ k) _ _ _ rfl ?_
  rw [hd]
  exact hs2.put hN (h4.upn hn2 rfl hv)
theorem Sim.virt1 (hs : Sim P T N w0 g s a w) {D : Nat} (hfr : s.fresh D = true) (e sz : Nat) : Sim P T N w0 (g.virt [D]) ⟨s.F, (D, .arr e sz []) :: s.H⟩ a w ∧ (g.virt [D]).β D = none := by
  obtain ⟨f1, f2, f3⟩ := St.fresh_spec hfr
  have hD : (g.virt [D]).β D = none := by simp [Gh.virt]
  have hq : ∀ q, q ≠ D → (g.virt [D]).β q = g.β q := fun q hq => by simp [Gh.virt, hq]
  have key : ∀ r b, live ((D, VH.arr e sz []) :: s.H) r → (g.virt [D]).β r = some b → r ≠ D ∧ live s.H r ∧ g.β r = some b := fun r b hl hb => by
    by_cases er : r = D
    · subst er; rw [hD] at hb; cases hb
    · refine ⟨er, ?_, (hq r er) ▸ hb⟩
      unfold live at hl ⊢
      rwa [hget_put, if_neg (fun e => er e.symm)] at hl
  refine ⟨⟨⟨fun r r' b h1 h2 h3 h4 => hs.gi.inj r r' b (key r b h1 h3).2.1 (key r' b h2 h4).2.1 (key r b h1 h3).2.2 (key r' b h2 h4).2.2, fun r b h1 h2 => hs.gi.bd r b (key r b h1 h2).2.1 (key r b h1 h2).2.2, fun b o hr => ⟨(hs.gi.rd b o hr).1, (hs.gi.rd b o hr).2.1, fun r h1 h2 => (hs.gi.rd b o hr).2.2 r (key r b h1 h2).2.1 (key r b h1 h2).2.2⟩, hs.gi.keep, hs.gi.tape, ⟨hs.gi.org.rd0, hs.gi.org.new0, hs.gi.org.tp0, hs.gi.org.tpo⟩, fun c o hc => ⟨(hs.gi.ex c o hc).1, (hs.gi.ex c o hc).2.1, (hs.gi.ex c o hc).2.2.1, (hs.gi.ex c o hc).2.2.2.1, (hs.gi.ex c o hc).2.2.2.2.1, fun r h1 h2 => (hs.gi.ex c o hc).2.2.2.2.2 r (key r c h1 h2).2.1 (key r c h1 h2).2.2⟩⟩, hs.dn, hs.nt, fun x => ?_, fun r => ?_⟩, hD⟩
  · refine (hs.hF x).move (Fut.refl _ _) (fun _ h => h) fun q hh => ⟨hq q fun e => ?_, rfl⟩
    subst e; rw [f1 x] at hh; cases hh
  · show HeapOK P _ w r (getH ((D, VH.arr e sz []) :: s.H) r)
    rw [hget_put]
    by_cases er : D = r
    · subst er
      rw [if_pos rfl]
      exact ⟨by simp, .inl ⟨hD, rfl⟩⟩
    · rw [if_neg er]
      refine (hs.hH r).move (Fut.refl _ _) (fun _ h => h) (fun q hh => ⟨hq q fun e => ?_, rfl⟩) (fun _ _ _ => rfl) fun _ _ h => h
      subst e
      rcases hh with hh | hh
      · rw [f2 r] at hh; cases hh
      · exact er hh
end
def ICw (pre : Prop) (f : Nat) (args : List SV) (t : Nat) (cs : List CV) (e sz : Nat) (rows : List (List Cell)) (v : SV) (cs' : List CV) (rows' : List (List Cell)) : Prop :=
  pre → ICh Try.prog 26 f true args [.blk t cs, .arr e sz rows] (fun x y => x = v ∧ y = [.blk t cs', .arr e sz rows'])
def othH (l : List Nat) (r : Nat) (H : List (Nat × VH)) : Bool := (H.map (·.1)).all fun x => memB l x || !(getH H x).has r
theorem othH_get {l : List Nat} {r : Nat} {H : List (Nat × VH)} (h : othH l r H = true) {x : Nat} (hx : x ∉ l) : (getH H x).has r = false := by
  unfold othH at h
  rw [List.all_eq_true] at h
  by_cases hm : x ∈ H.map (·.1)
  · have := h x hm
    simp only [Bool.or_eq_true, Bool.not_eq_true'] at this
    rcases this with h1 | h1
    · exact absurd (memB_iff.1 h1) hx
    · exact h1
  · have : getH H x = .gone := by
      clear h
      induction H with
      | nil => rfl
      | cons p H ih =>
        simp only [List.map_cons, List.mem_cons, not_or] at hm
        simp only [getH, beq_eq]
        rw [decide_eq_false fun e => hm.1 e.symm, cond_false]
        exact ih hm.2
    rw [this]; rfl
section
variable {k : Wk} {w0 : Org} {ops : Array Oper} {l : List Oper} {Q : St → Prop} {F F' : List (Nat × SV)} {H : List (Nat × VH)} {d t : Nat} {p : String} {af : Array Edge}
theorem kill1_ok {r : Nat} {s : St} (x : Nat) : getF (killF r s.F) x = .u ∨ getF (killF r s.F) x = getF s.F x ∧ (getF (killF r s.F) x).has r = false := by
  rw [killF_get]
  cases h : (getF s.F x).has r with
  | true => exact .inl (by simp)
  | false => exact .inr (by simp [h])
theorem opr_callw {P : Program} {T : TypeId} {N : Nat} {s : St} {o : Oper} {f : FuncId} {xs : Array Operand} {ts : Array TypeId} {args : List SV} {v : SV} {tt e sz : Nat} {cs cs0 cs' : List CV} {rows rows' : List (List Cell)} (r0 r1 : Nat) (ho : o.op = .call { callee := .value (.func f), args := xs, argTypes := ts }) (hd : o.dst = some d) (hN : d < N)
    (hic : ICh P T f true (.one (.ref 0 0) :: args) [.blk tt cs, .arr e sz rows] (fun x y => x = v ∧ y = [.blk tt cs', .arr e sz rows'])) (hne : r0 ≠ r1) (h0 : getH s.H r0 = .blk tt cs0) (hcs : CV.upnL [r0, r1] cs = cs0) (hr : getH s.H r1 = .arr e sz rows) (ha : ArgN P T s [r0, r1] false xs.toList (.one (.ref 0 0) :: args)) (hok : CV.oknL 2 true cs = true) (hok' : CV.oknL 2 true cs' = true) (hv : v.okn 2 true = true) (hfr : othH [r0, r1] r1 s.H = true) :
    OpR P T N w0 s o (fun s' => s' = (St.mk (killF r1 s.F) ((r0, .blk tt (CV.upnL [r0, r1] cs')) :: (r1, .arr e sz rows') :: s.H)).put d (v.upn [r0, r1])) := by
  intro g a w hs K Q hK
  refine callh_at (ρ := [r0, r1]) (k := true) (hh' := [.blk tt cs', .arr e sz rows']) (F' := killF r1 s.F) ho hd hN hic ⟨by simp [hne], rfl, fun i q vh h1 h2 => ?_⟩ ha (fun _ => ⟨⟨by simp, by simp⟩, rfl⟩) rfl (fun i vh h1 => ?_) hv (fun x => ?_) (fun x hx i q h1 h2 => ?_) hs (fun h => by cases h) K Q hK
  · match i, h1, h2 with
    | 0, h1, h2 => simp at h1 h2; subst h1 h2; exact ⟨by rw [h0, ← hcs]; rfl, hok⟩
    | 1, h1, h2 => simp at h1 h2; subst h1 h2; exact ⟨hr, rfl⟩
    | i + 2, h1, h2 => simp at h1
  · match i, h1 with
    | 0, h1 => simp at h1; subst h1; exact hok'
    | 1, h1 => simp at h1; subst h1; rfl
    | i + 2, h1 => simp at h1
  · rcases kill1_ok (r := r1) (s := s) x with h | ⟨h1, h2⟩
    · exact .inl h
    · refine .inr ⟨h1, fun i q hi hk => ?_⟩
      match i, hi, hk with
      | 0, hi, hk => exact absurd rfl (hk rfl)
      | 1, hi, hk => simp at hi; subst hi; exact h2
      | i + 2, hi, hk => simp at hi
  · match i, h1, h2 with
    | 0, h1, h2 => exact absurd rfl (h2 rfl)
    | 1, h1, h2 => simp at h1; subst h1; exact othH_get hfr hx
    | i + 2, h1, h2 => simp at h1
theorem v_callw {pre : Prop} {f : FuncId} {xs : Array Operand} {ts : Array TypeId} {args : List SV} {tt e sz : Nat} {c : Cell} {cs cs0 cs' cs1 : List CV} {rows rows' : List (List Cell)} (r0 r1 : Nat) (hN : Nat.blt d k.N = true) (hk : k.P = Try.prog ∧ k.T = 26) (hne : Nat.beq r0 r1 = false) (h0 : getH H r0 = .blk tt cs0) (hr : getH H r1 = .arr e sz rows) (hic : ICw pre f (.one (.ref 0 0) :: args) tt cs e sz rows (.one (.d c)) cs' rows') (hcs : CV.upnL [r0, r1] cs = cs0)
    (ha : ArgN k.P k.T ⟨F, H⟩ [r0, r1] false xs.toList (.one (.ref 0 0) :: args)) (hok : CV.oknL 2 true cs = true) (hok' : CV.oknL 2 true cs' = true) (hkl : killK r1 F (fun a => some a) = some F') (hfr : othH [r0, r1] r1 H = true) (hc1 : CV.upnL [r0, r1] cs' = cs1) (hp : pre) (h : rg k w0 ops l Q ⟨(d, .one (.d c)) :: F', (r0, .blk tt cs1) :: (r1, .arr e sz rows') :: H⟩) :
    rg k w0 ops (⟨some d, .call { callee := .value (.func f), args := xs, argTypes := ts }, t, p, af, none⟩ :: l) Q ⟨F, H⟩ := by
  rw [killK_eq] at hkl
  injection hkl with hkl
  subst hkl hc1
  exact rgI (irg_h rfl (opr_callw (v := .one (.d c)) (rows' := rows') r0 r1 rfl rfl (nlt hN) (by rw [hk.1, hk.2]; exact hic hp) (fun e => by rw [beq_eq, decide_eq_true e] at hne; cases hne) h0 hcs hr ha hok hok' rfl hfr) (rgO h))
end
theorem ich_wk (k : Wk) {f : FuncId} {fn : Func} {cd : Code} {kk : Bool} {args : List SV} {hs : List VH} {post : SV → List VH → Prop} (hf : k.P.funcs[f]? = some fn) (hN : fn.ntmps = k.N) (hname : (fn.name == "runtime.NumGoroutine") = false) (hb : fn.body = some cd) (hn : Nat.ble args.length k.N = true)
    (h : ∀ w0 u, wk k w0 cd (RetQh k.τ fn kk u post) ⟨argF 0 args, numH 0 hs ++ pinK kk u⟩) : ICh k.P k.T f kk args hs post :=
  ich_of k.ok hf hname hb (by rw [hN]; exact hn) fun w0 u => by rw [hN]; exact wkO (h w0 u)
theorem CVleL.rfl_ (l : List CV) : CVleL [] l l := by
  induction l with
  | nil => exact .nil
  | cons c l ih => exact .cons (CVle.rfl_ c) ih
section
variable {τ : List TyI} {fn : Func} {F : List (Nat × SV)} {H : List (Nat × VH)} {α : Type} {f : α → List Cell} {xs x0 : List α} {e sz n : Nat} {u : Value} {ex : Exit} {t t1 t2 : Tmp} {c1 c2 d1 d2 : Cell}
theorem r_hw {tt : Nat} {cs cs0 : List CV} (he : ex = .ret ∨ ex = .normal) (hr : fn.results = #[.tmp t]) (hv : getF F t = .one (.d c1)) (hH0 : getH H 0 = .blk tt cs) (hH : getH H 1 = .arr e sz (xs.map f)) (hp : getH H 1000 = .pin u (.ref 0 0)) (hx : c1 = d1 ∧ cs = cs0 ∧ xs = x0) : RetQh τ fn true u (fun x y => x = .one (.d d1) ∧ y = [.blk tt cs0, .arr e sz (x0.map f)]) ex ⟨F, H⟩ := by
  obtain ⟨rfl, rfl, rfl⟩ := hx
  refine ⟨he, [], [(t, .one (.d c1))], [.blk tt cs, .arr e sz (xs.map f)], _, _, ⟨.cons ?_ .nil, .cons ?_ (.cons ?_ (.cons ?_ .nil))⟩, by rw [hr]; exact .cons (.tmp t) .nil, .one _, ?_, rfl⟩
  · rw [hv]; exact .one (.d rfl)
  · show VHle [] 0 (getH H 0) _
    rw [hH0]; exact .blk rfl (CVleL.rfl_ _)
  · show VHle [] 1 (getH H 1) _
    rw [hH]; exact .arr rfl rfl
  · show VHle [] 1000 (getH H 1000) _
    rw [hp]; exact .pin (CVle.rfl_ _)
  · simp [getF, beq_eq]
end
end Go.Proofs.Ytbnmcdnkeipdhaa
/- More operations that may be taken first. -/
set_option linter.all false
set_option maxRecDepth 20000
namespace Go.Proofs.Ytbnmcdnkeipdhaa
open Go.RowKit Go.Shelf
section
variable {k : Wk} {w0 : Org} {s : St} {o : Oper}
end
def CV.unz (D : Nat) : CV → CV
  | .sl q n sz => bif Nat.beq q D && Nat.beq n 0 then .nil else .sl q n sz
  | .d x => .d x
  | .nil => .nil
  | .ref r off => .ref r off
  | .u => .u
  | .el _ _ _ _ => .u
  | .slp _ _ _ _ => .u
  | .rp _ => .u
  | .clo _ _ => .u
  | .fn _ => .u
  | .tape => .u
def CV.unzL (D : Nat) : List CV → List CV
  | [] => []
  | c :: l => c.unz D :: CV.unzL D l
theorem CV.unzL_get (D : Nat) (cs : List CV) (j : Nat) : (CV.unzL D cs)[j]? = (cs[j]?).map (CV.unz D) := by
  induction cs generalizing j with
  | nil => rfl
  | cons x cs ih => cases j with
    | zero => rfl
    | succ j => simpa [CV.unzL] using ih j
theorem CV.unzL_len (D : Nat) (cs : List CV) : (CV.unzL D cs).length = cs.length := by
  induction cs with
  | nil => rfl
  | cons x cs ih => simp [CV.unzL, ih]
section
variable {P : Program} {T : TypeId} {N : Nat} {w0 : Org} {g : Gh} {s : St} {a : Act} {w : World}
theorem RepCV.zip {D : Nat} (hD : g.β D = none) {v : Value} {c : CV} {m : Nat} {k : Bool} {c0 : CV} {ρ : List Nat} (hc : c = c0.upn ρ) (ho : c0.okn m k = true) (h : RepCV P g w v (c.unz D)) : RepCV P g w v c := by
  subst hc
  cases c0 with
  | u => exact h
  | d x => exact h
  | nil => exact h
  | ref r off => exact h
  | sl r n sz =>
    simp only [CV.upn, CV.unz] at h ⊢
    cases hb : (Nat.beq (ρ.getD r 0) D && Nat.beq n 0) with
    | false => rw [hb] at h; exact h
    | true =>
      rw [hb] at h
      simp only [Bool.and_eq_true, beq_eq, decide_eq_true_eq] at hb
      obtain ⟨h1, rfl⟩ := hb
      rw [h1]
      have h2 : RepCV P g w v .nil := h
      cases h2
      exact .slv _ hD
  | el _ _ _ _ => cases ho
  | slp _ _ _ _ => cases ho
  | rp _ => cases ho
  | clo _ _ => cases ho
  | fn _ => cases ho
  | tape => cases ho
theorem opr_callw0 {d : Nat} {o : Oper} {f : FuncId} {xs : Array Operand} {ts : Array TypeId} {args : List SV} {v : SV} {tt e sz : Nat} {cs cs0 cs' : List CV} {rows' : List (List Cell)} (r0 r1 : Nat) (ho : o.op = .call { callee := .value (.func f), args := xs, argTypes := ts }) (hd : o.dst = some d) (hN : d < N)
    (hic : ICh P T f true (.one (.ref 0 0) :: args) [.blk tt cs, .arr e sz []] (fun x y => x = v ∧ y = [.blk tt cs', .arr e sz rows'])) (hne : r0 ≠ r1) (h0 : getH s.H r0 = .blk tt cs0) (hcs : CV.unzL r1 (CV.upnL [r0, r1] cs) = cs0) (hfr : s.fresh r1 = true) (ha : ArgN P T ⟨s.F, (r0, .blk tt (CV.upnL [r0, r1] cs)) :: (r1, .arr e sz []) :: s.H⟩ [r0, r1] false xs.toList (.one (.ref 0 0) :: args)) (hok : CV.oknL 2 true cs = true) (hok' : CV.oknL 2 true cs' = true) (hv : v.okn 2 true = true) :
    OpR P T N w0 s o (fun s' => s' = (St.mk s.F ((r0, .blk tt (CV.upnL [r0, r1] cs')) :: (r1, .arr e sz rows') :: (r0, .blk tt (CV.upnL [r0, r1] cs)) :: (r1, .arr e sz []) :: s.H)).put d (v.upn [r0, r1])) := by
  intro g a w hs K Q hK
  obtain ⟨f1, f2, f3⟩ := St.fresh_spec hfr
  obtain ⟨hs1, hb1⟩ := hs.virt1 hfr e sz
  have hH1 : ∀ x, getH ((r0, VH.blk tt (CV.upnL [r0, r1] cs)) :: (r1, .arr e sz []) :: s.H) x = if r0 = x then .blk tt (CV.upnL [r0, r1] cs) else getH ((r1, VH.arr e sz []) :: s.H) x := fun x => hget_put _ _ _ _
  have hg0 : getH ((r1, VH.arr e sz []) :: s.H) r0 = .blk tt cs0 := by rw [hget_put, if_neg fun e => hne e.symm, h0]
  have lv : ∀ x, live ((r0, VH.blk tt (CV.upnL [r0, r1] cs)) :: (r1, .arr e sz []) :: s.H) x → live ((r1, VH.arr e sz []) :: s.H) x := fun x hx => by
    unfold live at hx ⊢
    rw [hH1] at hx
    by_cases ex : r0 = x
    · subst ex; rw [hg0]; rfl
    · rwa [if_neg ex] at hx
  have hs2 : Sim P T N w0 (g.virt [r1]) ⟨s.F, (r0, .blk tt (CV.upnL [r0, r1] cs)) :: (r1, .arr e sz []) :: s.H⟩ a w := by
    refine ⟨hs1.gi.sub lv, hs1.dn, hs1.nt, hs1.hF, fun x => ?_⟩
    show HeapOK P _ w x (getH ((r0, VH.blk tt (CV.upnL [r0, r1] cs)) :: (r1, .arr e sz []) :: s.H) x)
    rw [hH1]
    by_cases ex : r0 = x
    · subst ex
      rw [if_pos rfl]
      have := hs1.hH r0
      rw [show getH (St.mk s.F ((r1, VH.arr e sz []) :: s.H)).H r0 = .blk tt cs0 from hg0, ← hcs] at this
      obtain ⟨b, vals, q1, q2, q3, q4⟩ := this
      refine ⟨b, vals, q1, q2, by rw [q3, CV.unzL_len], fun j v c hv hc => ?_⟩
      have hc2 := hc
      rw [CV.upnL_get] at hc2
      cases hx : cs[j]? with
      | none => rw [hx] at hc2; cases hc2
      | some c0 =>
        rw [hx] at hc2; simp at hc2
        exact RepCV.zip hb1 hc2.symm (CV.oknL_get hok hx) (q4 j v _ hv (by rw [CV.unzL_get, hc]; rfl))
    · rw [if_neg ex]; exact hs1.hH x
  refine callh_at (s := ⟨s.F, (r0, .blk tt (CV.upnL [r0, r1] cs)) :: (r1, .arr e sz []) :: s.H⟩) (ρ := [r0, r1]) (k := true) (hh' := [.blk tt cs', .arr e sz rows']) (F' := s.F) ho hd hN hic ⟨by simp [hne], rfl, fun i q vh h1 h2 => ?_⟩ ha (fun _ => ⟨⟨by simp, by simp⟩, rfl⟩) rfl (fun i vh h1 => ?_) hv (fun x => .inr ⟨rfl, fun i q hi hk => ?_⟩) (fun x hx i q h1 h2 => ?_) hs2 (fun h => by cases h) K Q hK
  · match i, h1, h2 with
    | 0, h1, h2 => simp at h1 h2; subst h1 h2; exact ⟨by rw [hH1, if_pos rfl]; rfl, hok⟩
    | 1, h1, h2 => simp at h1 h2; subst h1 h2; exact ⟨by rw [hH1, if_neg hne, hget_put, if_pos rfl]; rfl, rfl⟩
    | i + 2, h1, h2 => simp at h1
  · match i, h1 with
    | 0, h1 => simp at h1; subst h1; exact hok'
    | 1, h1 => simp at h1; subst h1; rfl
    | i + 2, h1 => simp at h1
  · match i, hi, hk with
    | 0, hi, hk => exact absurd rfl (hk rfl)
    | 1, hi, hk => simp at hi; subst hi; exact f1 x
    | i + 2, hi, hk => simp at hi
  · match i, h1, h2 with
    | 0, h1, h2 => exact absurd rfl (h2 rfl)
    | 1, h1, h2 =>
      simp at h1; subst h1
      show (getH ((r0, VH.blk tt (CV.upnL [r0, r1] cs)) :: (r1, .arr e sz []) :: s.H) x).has r1 = false
      rw [hH1, if_neg fun e => hx (by simp [e]), hget_put, if_neg fun e => hx (by simp [e])]
      exact f2 x
    | i + 2, h1, h2 => simp at h1
end
section
variable {k : Wk} {w0 : Org} {ops : Array Oper} {l : List Oper} {Q : St → Prop} {F F' : List (Nat × SV)} {H : List (Nat × VH)} {d t : Nat} {p : String} {af : Array Edge}
theorem v_callw0 {pre : Prop} {f : FuncId} {xs : Array Operand} {ts : Array TypeId} {args : List SV} {tt e sz : Nat} {c : Cell} {cs cs0 cs' cs1 cs2 : List CV} {rows' : List (List Cell)} (r0 : Nat) (hN : Nat.blt d k.N = true) (hk : k.P = Try.prog ∧ k.T = 26) (hne : Nat.beq r0 d = false) (h0 : getH H r0 = .blk tt cs0) (hic : ICw pre f (.one (.ref 0 0) :: args) tt cs e sz [] (.one (.d c)) cs' rows') (hcs : CV.unzL d (CV.upnL [r0, d] cs) = cs0) (hc2 : CV.upnL [r0, d] cs = cs2) (hfr : (St.mk F H).fresh d = true)
    (ha : ArgN k.P k.T ⟨F, (r0, .blk tt cs2) :: (d, .arr e sz []) :: H⟩ [r0, d] false xs.toList (.one (.ref 0 0) :: args)) (hok : CV.oknL 2 true cs = true) (hok' : CV.oknL 2 true cs' = true) (hc1 : CV.upnL [r0, d] cs' = cs1) (hp : pre) (h : rg k w0 ops l Q ⟨(d, .one (.d c)) :: F, (r0, .blk tt cs1) :: (d, .arr e sz rows') :: (r0, .blk tt cs2) :: (d, .arr e sz []) :: H⟩) :
    rg k w0 ops (⟨some d, .call { callee := .value (.func f), args := xs, argTypes := ts }, t, p, af, none⟩ :: l) Q ⟨F, H⟩ := by
  subst hc1 hc2
  exact rgI (irg_h rfl (opr_callw0 (v := .one (.d c)) (rows' := rows') r0 d rfl rfl (nlt hN) (by rw [hk.1, hk.2]; exact hic hp) (fun e => by rw [beq_eq, decide_eq_true e] at hne; cases hne) h0 hcs hfr ha hok hok' rfl) (rgO h))
end
end Go.Proofs.Ytbnmcdnkeipdhaa
/- A difference may be taken first. -/
set_option linter.all false
set_option maxRecDepth 20000
namespace Go.Proofs.Ytbnmcdnkeipdhaa
open Go.RowKit Go.Shelf
section
variable {k : Wk} {w0 : Org} {s : St} {o : Oper}
end
end Go.Proofs.Ytbnmcdnkeipdhaa
/- To bytes whose room is used up, bytes are appended that may be none; what comes is only read from then on. -/
set_option linter.all false
set_option maxRecDepth 20000
namespace Go.Proofs.Ytbnmcdnkeipdhaa
open Go.RowKit Go.Shelf Go.Lib
section
variable {k : Wk} {w0 : Org} {ops : Array Oper} {l rest : List Oper} {Q : St → Prop} {F F' : List (Nat × SV)} {H H' : List (Nat × VH)} {d b n t : Nat} {p p' pa pb pc pd : String} {af af' afa afb afc afd : Array Edge} {s : St}
theorem x_napF {d b t ty n e by_ : Nat} {y : Operand} {zs : List Z} {xs ys : List Int} {rows' : List (List Cell)} (hN : Nat.blt d k.N = true) (ht : tyAt k.τ t = .sl e 1 by_) (hz : (tyAt k.τ e).zs = some zs) (hzl : zs.length = 1) (hx : (St.mk F H).ev (.tmp b) = .one (.d (.list (xs.map irow_u8)))) (hn : n = xs.length) (hn0 : Nat.blt 0 n = true)
    (hy : Src ⟨F, H⟩ 1 ((St.mk F H).ev y) rows') (hrow : rows' = ys.map irow_u8) (hfr : (St.mk F H).fresh d = true) (hb0 : by_ = 1) (hbd : xs.length + ys.length ≤ 1000000000)
    (h : rg k w0 ops l Q ⟨(d, .one (.d (.list ((xs ++ ys).map irow_u8)))) :: F, (d, .gone) :: H⟩) : rg k w0 ops [] (fun s' => rgx k w0 b n ops (⟨some d, .call { callee := .builtin .append, args := #[.tmp b, y], argTypes := #[t, t] }, ty, p, af, none⟩ :: l) Q s') ⟨F, H⟩ := by
  subst hrow
  refine i_nil ?_
  unfold rgx
  intro g a w hs hA Q' hQ
  refine wpList_plain rfl fun K hK => ?_
  obtain ⟨A, hA⟩ := hA
  obtain ⟨hu, inf, hi, hsz⟩ := sliceT_spec (tab_sl k.ok ht)
  have hby : inf.bytes = by_ := by
    have := tab_by k.ok ht
    unfold bytesB at this
    rw [hi] at this
    exact Nat.eq_of_beq_eq_true this
  obtain ⟨i, z, hi2, hz1, hz2, hz3⟩ := zeroB_spec (tab_zs k.ok hz)
  obtain rfl : i = inf := by rw [hi] at hi2; injection hi2 with h; exact h.symm
  have hzs : z.cells.size = 1 := by rw [hz2]; simp [hzl]
  have hr1 : ∀ zs : List Int, ∀ row ∈ zs.map irow_u8, row.length = 1 := fun zs row hr => by
    obtain ⟨z, _, rfl⟩ := List.mem_map.1 hr; rfl
  have hX : Src ⟨F, H⟩ 1 ((St.mk F H).ev (.tmp b)) (xs.map irow_u8) := by rw [hx]; exact .d _ (hr1 xs)
  obtain ⟨A1, c1, olds, ex, hC1, hol, ho1, hor⟩ := hX.vals Nat.one_pos hs (hs.ev _)
  obtain ⟨A2, c2, news, ey, hC, hnl, hn1, hnr⟩ := hy.vals Nat.one_pos hs (hs.ev y)
  have hnp := nlt hn0
  rw [ex] at hA
  injection hA with _ _ ec
  subst ec
  simp only [List.length_map, Nat.mul_one] at ex ey hol hnl
  by_cases hy1 : ys = []
  · subst hy1
    have hnn : news = [] := List.eq_nil_of_length_eq_zero hnl
    subst hnn
    have hsrc : Go.Src k.P i.size t (.slice A2 0 c2) 0 [] w := by
      cases A2 with
      | none => exact Go.Src.ofNil w hu c2
      | some ad => exact Go.Src.ofSlice w hu ad 0 c2 [] (by simp) (fun j u hj => by cases hj) (fun u hu => by cases hu)
    have hrun := run_append_nothing (P := k.P) w t t ty e i hu hi A1 xs.length c1 (by omega) _ hsrc
    have ey' : a.eval y = .slice A2 0 c2 := ey
    unfold Oper.wp
    simp [execOp, resolve, invoke, builtin, ex, ey', hrun, Result.andThen]
    refine hK _ _ ?_
    have h2 := hs.put (x := d) (nlt hN) (hs.ev (.tmp b))
    rw [hx] at h2
    rw [ex] at h2
    refine rgO h _ _ _ (h2.less (fun y => .inl (by rw [List.append_nil]; rfl)) fun q => ?_) Q' hQ
    show getH ((d, VH.gone) :: H) q = getH H q ∨ _
    simp only [getH, beq_eq]
    by_cases e : d = q
    · right; simp [e]
    · left; simp [e]
  have hy0 : 0 < ys.length := List.length_pos_iff.2 hy1
  obtain ⟨ad1, rfl, _, _⟩ := hC1 0 _ (List.getElem?_eq_getElem (by omega))
  obtain ⟨ad2, rfl, _, _⟩ := hC 0 _ (List.getElem?_eq_getElem (by omega))
  obtain ⟨v', w', hrun, hown', hg'⟩ := run_append_arg_grows (P := k.P) (w := w) t ty e i z 1 by_ hu hi hz1 hsz hby hzs Nat.one_pos ad1 xs.length c1 olds (by omega) (fun j u hj => by obtain ⟨ad, h1, _, h2⟩ := hC1 j u hj; injection h1 with h1; subst h1; exact h2) ad2 ys.length c2 news (by omega) (fun j u hj => by obtain ⟨ad, h1, _, h2⟩ := hC j u hj; injection h1 with h1; subst h1; exact h2) (by omega) (by unfold maxLen; omega) (by subst hb0; omega)
  unfold Oper.wp
  simp [execOp, resolve, invoke, builtin, ex, ey, hrun, Result.andThen]
  refine hK _ _ ?_
  have hlen : ((xs ++ ys).map irow_u8).length = xs.length + ys.length := by simp
  have hfut : Fut g.Rd g.Rd w w' := ⟨fun _ _ h => h, fun b o' hb => World.cell?_of_block (w := w) (a := ⟨b, o', none⟩) (hg'.block b (hs.gi.rd b o' hb).1 (fun e => by cases e))⟩
  obtain ⟨q, q1, q2, q3⟩ := own_arr (P := k.P) (g := g) (d := d) hown' hlen.symm (hr1 _) (fun i j row x hi hj => by
    rw [List.map_append] at hi
    by_cases hlt : i < (xs.map irow_u8).length
    · rw [List.getElem?_append_left hlt] at hi
      obtain ⟨hj', u, hu, hr⟩ := hor i j row x hi hj
      refine ⟨u, ?_, hr.mono hfut.rd hfut.cell⟩
      rw [List.getElem?_append_left (List.getElem?_eq_some_iff.1 hu).1]
      exact hu
    · rw [List.getElem?_append_right (by omega)] at hi
      obtain ⟨hj', u, hu, hr⟩ := hnr _ j row x hi hj
      refine ⟨u, ?_, hr.mono hfut.rd hfut.cell⟩
      simp only [List.length_map] at hlt hu
      rw [List.getElem?_append_right (by omega)]
      rw [← hu]
      congr 1
      omega)
  have h1 := hs.newG (d := d) (St.fresh_spec hfr).1 (St.fresh_spec hfr).2.1 (r0 := none) (ob := none) (nb := v'.ownBlock) (k := q) (vh := .arr e 1 ((xs ++ ys).map irow_u8)) (fun b hb => by cases hb) hg' (fun b hb => ⟨.inr (hown'.lt b hb).1, q3 b hb⟩) rfl (fun _ => q1)
  have h2 := h1.put (x := d) (nlt hN) (.one q2)
  have h3 := h2.fr (rs := [d]) (F' := (d, .one (.d (.list ((xs ++ ys).map irow_u8)))) :: F) (dropH_fr _ d _) (.cons (.one (.fz (e := e) (rows := (xs ++ ys).map irow_u8) (by simp) (by show getH ((d, VH.arr e 1 ((xs ++ ys).map irow_u8)) :: _) d = _; simp only [getH, beq_eq, decide_true, cond_true]) rfl)) (frF_same F))
  have h4 := h3.less (s' := ⟨(d, .one (.d (.list ((xs ++ ys).map irow_u8)))) :: F, (d, .gone) :: H⟩) (fun y => .inl rfl) fun q => by
    left
    show getH ((d, VH.gone) :: H) q = getH (dropH d ((d, VH.arr _ _ _) :: H)) q
    rw [dropH_get]
    by_cases e : q = d
    · rw [if_pos e, e]
      simp only [getH, beq_eq, decide_true, cond_true]
    · rw [if_neg e]
      simp only [getH, beq_eq]
      simp [show ¬ d = q from fun h => e h.symm]
  exact rgO h _ _ _ h4 Q' hQ
end
end Go.Proofs.Ytbnmcdnkeipdhaa
