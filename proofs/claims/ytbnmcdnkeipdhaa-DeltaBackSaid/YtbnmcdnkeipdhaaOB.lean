/- Apply and awake, as contracts. -/
import Derived.Test.YtbnmcdnkeipdhaaOA
import Derived.Test.YtbnmcdnkeipdhaaDc0
set_option linter.all false
set_option maxRecDepth 20000
set_option maxHeartbeats 2000000
namespace Go.Proofs.Ytbnmcdnkeipdhaa
open Go.RowKit Go.Shelf
def u8 (z : Int) : UInt8 := UInt8.ofNat z.toNat
theorem u8_nat {z : Int} (h : 0 ≤ z ∧ z ≤ 255) : ((u8 z).toNat : Int) = z := by
  unfold u8; simp only [UInt8.toNat_ofNat']; omega
def InB (l : List Int) : Prop := ∀ z ∈ l, 0 ≤ z ∧ z ≤ 255
theorem bts_of {Rd : Nat → Nat → Prop} {w : World} {v : Value} {l : List Int} (h : RepCell Rd w v (.list (l.map irow_u8))) : ∃ A c, v = .slice A (l.map u8).length c ∧ (l.map u8).length ≤ c ∧ c ≤ maxLen ∧ Bts (fun _ => False) w A (l.map u8) ∧ InB l := by
  obtain ⟨A, cap, sz, vals, e, q0, q1, q2, q3, q4, q5⟩ := h.list_inv
  have hlen : (l.map irow_u8).length = l.length := by simp
  rw [hlen] at e q1 q4
  have key : ∀ (i : Nat) (z : Int), l[i]? = some z → vals i 0 = .int .u8 z ∧ 0 ≤ z ∧ z ≤ 255 := fun i z hz => by
    have hrep := q5 i 0 (irow_u8 z) (.int .u8 z) (by rw [List.getElem?_map, hz]; rfl) rfl
    cases hv : vals i 0 <;> rw [hv] at hrep <;> cases hrep
    rename_i hw
    refine ⟨rfl, ?_⟩
    simp [Lit.wf, IntKind.min, IntKind.max, IntKind.bits, IntKind.signed] at hw
    omega
  refine ⟨A, cap, by simpa using e, by simpa using q1, q2, ?_, fun z hz => ?_⟩
  · intro i u hu
    rw [List.map_map, List.getElem?_map] at hu
    cases hz : l[i]? with
    | none => rw [hz] at hu; cases hu
    | some z =>
      rw [hz] at hu
      simp at hu
      obtain ⟨k1, k2⟩ := key i z hz
      have hil := (List.getElem?_eq_some_iff.1 hz).1
      have hs1 : sz = 1 := (q3 (irow_u8 l[0]) (by simp; exact ⟨_, List.getElem_mem (by omega), rfl⟩)).symm
      subst hs1
      obtain ⟨b, o, e1, _, e3⟩ := q4 i 0 hil (by omega)
      refine ⟨_, e1, fun h => h, ?_⟩
      rw [Addr.add_lit, ← hu]
      simp only [Nat.mul_one, Nat.add_zero] at e3
      rw [e3, k1]
      unfold byteV
      rw [u8_nat k2]
  · obtain ⟨i, hi, rfl⟩ := List.getElem_of_mem hz
    exact (key i _ (List.getElem?_eq_getElem hi)).2
theorem ops_of {Rd : Nat → Nat → Prop} {w : World} {v : Value} {l : List Opn} (h : RepCell Rd w v (.list (l.map Opn.row))) : ∃ B c rs, v = .slice B rs.length c ∧ rs.length ≤ c ∧ c ≤ maxLen ∧ Old.OpsAt (fun _ => False) w B rs ∧ rs.map (fun r => (r.fr, r.sz, r.dat)) = l.map (fun o => (o.frm, o.sz, o.dat.map u8)) ∧ ∀ o ∈ l, InB o.dat := by
  obtain ⟨A, cap, sz, vals, e, q0, q1, q2, q3, q4, q5⟩ := h.list_inv
  have hlen : (l.map Opn.row).length = l.length := by simp
  rw [hlen] at e q1 q4
  have key : ∀ (i : Nat) (o : Opn), l[i]? = some o → ∃ r : Old.OpR, (∀ (j : Nat) (u : Value), r.cells[j]? = some u → vals i j = u) ∧ r.Ok (fun _ => False) w ∧ (r.fr, r.sz, r.dat) = (o.frm, o.sz, o.dat.map u8) ∧ InB o.dat := fun i o ho => by
    have hr : (l.map Opn.row)[i]? = some o.row := by rw [List.getElem?_map, ho]; rfl
    have r0 := q5 i 0 _ (.int .i64 o.frm) hr rfl
    have r1 := q5 i 1 _ (.int .i64 o.sz) hr rfl
    have r2 := q5 i 2 _ (.list (o.dat.map irow_u8)) hr rfl
    obtain ⟨B, c, e2, h1, h2, h3, h4⟩ := bts_of r2
    obtain ⟨k0, m0⟩ : vals i 0 = .int .i64 o.frm ∧ (-9223372036854775808 ≤ o.frm ∧ o.frm ≤ 9223372036854775807) := by
      cases hv : vals i 0 <;> rw [hv] at r0 <;> cases r0
      rename_i hw
      refine ⟨rfl, ?_⟩
      simp [Lit.wf, IntKind.min, IntKind.max, IntKind.bits, IntKind.signed] at hw; omega
    obtain ⟨k1, m1⟩ : vals i 1 = .int .i64 o.sz ∧ (-9223372036854775808 ≤ o.sz ∧ o.sz ≤ 9223372036854775807) := by
      cases hv : vals i 1 <;> rw [hv] at r1 <;> cases r1
      rename_i hw
      refine ⟨rfl, ?_⟩
      simp [Lit.wf, IntKind.min, IntKind.max, IntKind.bits, IntKind.signed] at hw; omega
    refine ⟨⟨o.frm, o.sz, B, o.dat.map u8, c⟩, fun j u hu => ?_, ⟨h3, h1, h2, m0, m1⟩, rfl, h4⟩
    match j, hu with
    | 0, hu => simp [Old.OpR.cells] at hu; rw [k0, hu]
    | 1, hu => simp [Old.OpR.cells] at hu; rw [k1, hu]
    | 2, hu => simp [Old.OpR.cells] at hu; rw [e2, ← hu]; simp
  have all : ∀ n, n ≤ l.length → ∃ rs : List Old.OpR, rs.length = n ∧ (∀ (i : Nat) (r : Old.OpR), rs[i]? = some r → (∀ (j : Nat) (u : Value), r.cells[j]? = some u → vals i j = u) ∧ r.Ok (fun _ => False) w) ∧ rs.map (fun r => (r.fr, r.sz, r.dat)) = (l.take n).map (fun o => (o.frm, o.sz, o.dat.map u8)) := by
    intro n
    induction n with
    | zero => intro _; exact ⟨[], rfl, by simp, by simp⟩
    | succ n ih =>
      intro hn
      obtain ⟨rs, h1, h2, h3⟩ := ih (by omega)
      obtain ⟨r, g1, g2, g3, _⟩ := key n l[n] (List.getElem?_eq_getElem (by omega))
      refine ⟨rs ++ [r], by simp [h1], fun i r' hr' => ?_, ?_⟩
      · by_cases hi : i < rs.length
        · rw [List.getElem?_append_left hi] at hr'; exact h2 i r' hr'
        · rw [List.getElem?_append_right (by omega)] at hr'
          have : i = n := by
            have := (List.getElem?_eq_some_iff.1 hr').1
            simp at this; omega
          subst this
          rw [h1] at hr'
          simp at hr'
          subst hr'
          exact ⟨g1, g2⟩
      · rw [List.take_succ_eq_append_getElem (by omega), List.map_append, List.map_append, h3]
        simp only [List.map_cons, List.map_nil, g3]
  obtain ⟨rs, h1, h2, h3⟩ := all l.length (Nat.le_refl _)
  rw [List.take_length] at h3
  refine ⟨A, cap, rs, by rw [h1]; exact e, by rw [h1]; exact q1, q2, ⟨?_, fun r hr => ?_⟩, h3, fun o ho => ?_⟩
  · intro m u hu
    have hl := Old.flat_len Old.OpR.cells 3 Old.OpR.cells_len rs
    have hm : m < rs.length * 3 := by rw [← hl]; exact (List.getElem?_eq_some_iff.1 hu).1
    have hi : m / 3 < rs.length := by omega
    have em : m / 3 * 3 + m % 3 = m := by omega
    have hu2 := Old.flat_get Old.OpR.cells 3 Old.OpR.cells_len rs (m / 3) (m % 3) hi (by omega)
    rw [em, hu] at hu2
    have hs3 : sz = 3 := (q3 (Opn.row l[0]) (by simp; exact ⟨_, List.getElem_mem (by omega), rfl⟩)).symm
    subst hs3
    obtain ⟨b, o, e1, _, e3⟩ := q4 (m / 3) (m % 3) (by omega) (by omega)
    refine ⟨_, e1, fun h => h, ?_⟩
    rw [Addr.add_lit]
    rw [em] at e3
    rw [e3, (h2 (m / 3) _ (List.getElem?_eq_getElem hi)).1 (m % 3) u hu2.symm]
  · obtain ⟨i, hi, rfl⟩ := List.getElem_of_mem hr
    exact (h2 i _ (List.getElem?_eq_getElem hi)).2
  · obtain ⟨i, hi, rfl⟩ := List.getElem_of_mem ho
    obtain ⟨_, _, _, _, h⟩ := key i _ (List.getElem?_eq_getElem hi)
    exact h
theorem sumA_cons (x : Opn) (l : List Opn) : sumA (x :: l) = amt x + sumA l := by
  have : ∀ (l : List Opn) (n : Int), l.foldl (fun n x => n + amt x) n = n + sumA l := by
    intro l
    induction l with
    | nil => intro n; simp [sumA]
    | cons y l ih => intro n; unfold sumA; simp only [List.foldl_cons]; rw [ih, ih]; omega
  unfold sumA; simp only [List.foldl_cons]; rw [this]; unfold sumA; omega
theorem lim_same {rs : List Old.OpR} : ∀ {l : List Opn} (left : Int), 0 ≤ left → rs.map (fun r => (r.fr, r.sz, r.dat)) = l.map (fun o => (o.frm, o.sz, o.dat.map u8)) → (Old.limB left rs = true ↔ left < sumA l) := by
  induction rs with
  | nil =>
    intro l left h0 h
    cases l with
    | nil => simp [Old.limB, sumA]; omega
    | cons o l => simp at h
  | cons r rs ih =>
    intro l left h0 h
    cases l with
    | nil => simp at h
    | cons o l =>
      simp only [List.map_cons, List.cons.injEq, Prod.mk.injEq] at h
      obtain ⟨⟨h1, h2, h3⟩, h4⟩ := h
      have ea : Old.amountZ r = amt o := by unfold Old.amountZ amt; rw [h2, h3]; simp
      have hp := amt_pos o
      have hs : 0 ≤ sumA l := by have := (sumA_take l l.length).1; rwa [List.take_length] at this
      rw [Old.limB_cons, sumA_cons, ea]
      by_cases hlt : left < amt o
      · rw [if_pos hlt]; simp; omega
      · rw [if_neg hlt, ih (left - amt o) (by omega) h4]; omega
theorem any_same {rs : List Old.OpR} : ∀ {l : List Opn} (n : Nat), rs.map (fun r => (r.fr, r.sz, r.dat)) = l.map (fun o => (o.frm, o.sz, o.dat.map u8)) → rs.any (Old.badB n) = !l.all (fitO n) := by
  induction rs with
  | nil =>
    intro l n h
    cases l with
    | nil => rfl
    | cons o l => simp at h
  | cons r rs ih =>
    intro l n h
    cases l with
    | nil => simp at h
    | cons o l =>
      simp only [List.map_cons, List.cons.injEq, Prod.mk.injEq] at h
      obtain ⟨⟨h1, h2, h3⟩, h4⟩ := h
      have e : Old.badB n r = !fitO n o := by
        unfold Old.badB fitO fitsB rightB Old.fitsB Old.rightB
        rw [h1, h2, h3]
        by_cases hs : o.sz = 0 <;> simp [hs, Bool.and_assoc]
      rw [List.any_cons, List.all_cons, ih n h4, e, Bool.not_and]
theorem check_same {rs : List Old.OpR} {l : List Opn} (n : Nat) (h : rs.map (fun r => (r.fr, r.sz, r.dat)) = l.map (fun o => (o.frm, o.sz, o.dat.map u8))) : Old.checkS n rs = chkO n l := by
  have hl : rs.length = l.length := by have := congrArg List.length h; simpa using this
  unfold Old.checkS chkO
  rw [hl, any_same n h]
  by_cases h1 : 200 < l.length ∨ 65536 < n
  · rw [if_pos h1, if_pos (by omega)]
  · rw [if_neg h1]
    by_cases h2 : 65536 < sumA l
    · rw [if_pos ((lim_same 65536 (by omega) h).2 h2), if_pos (by omega)]
    · rw [if_neg (fun q => h2 ((lim_same 65536 (by omega) h).1 q)), if_neg (show ¬ (200 < l.length ∨ 65536 < n ∨ 65536 < sumA l) by omega)]
      cases l.all (fitO n) <;> simp
theorem made_same {rs : List Old.OpR} {base : List Int} : ∀ {l : List Opn}, rs.map (fun r => (r.fr, r.sz, r.dat)) = l.map (fun o => (o.frm, o.sz, o.dat.map u8)) → l.all (fitO base.length) = true → rs.flatMap (Old.pieceS (base.map u8)) = (madeS base l).map u8 := by
  induction rs with
  | nil =>
    intro l h _
    cases l with
    | nil => rfl
    | cons o l => simp at h
  | cons r rs ih =>
    intro l h hf
    cases l with
    | nil => simp at h
    | cons o l =>
      simp only [List.map_cons, List.cons.injEq, Prod.mk.injEq] at h
      obtain ⟨⟨h1, h2, h3⟩, h4⟩ := h
      simp only [List.all_cons, Bool.and_eq_true] at hf
      have e : Old.pieceS (base.map u8) r = (pieceS base o).map u8 := by
        unfold Old.pieceS pieceS part
        rw [h1, h2, h3]
        rcases fit_spec hf.1 with ⟨q1, q2, q3⟩ | ⟨q1, q2, q3, q4, q5⟩
        · rw [if_neg (by omega)]; simp [q1, q2]
        · rw [if_pos q1, q5]
          simp only [List.map_nil, List.append_nil, List.map_drop, List.map_take]
          rw [List.take_drop]
          congr 2
          omega
      unfold madeS
      rw [List.flatMap_cons, List.flatMap_cons, List.map_append, e, ih h4 hf.2]
      rfl
theorem made_in {base : List Int} {l : List Opn} (hb : InB base) (hl : ∀ o ∈ l, InB o.dat) : InB (madeS base l) := by
  intro z hz
  unfold madeS at hz
  obtain ⟨o, ho, hz⟩ := List.mem_flatMap.1 hz
  unfold pieceS part at hz
  rcases List.mem_append.1 hz with hz | hz
  · exact hb z (List.mem_of_mem_take (List.mem_of_mem_drop hz))
  · exact hl o ho z hz
theorem Apply_ic (base : List Int) (ops : List Opn) : ICt 20 [by_ base, ov ops] (fun v => v = .tup [by_ (applyS base ops), iv (chkO base.length ops)]) := by
  refine ⟨enters_of Try.func20 rfl rfl, fun g w vals hβ hgi hsz hrep => ?_⟩
  obtain ⟨l⟩ := vals
  match l, hsz with
  | [a, b], _ =>
    have w0 := (hrep 0 a _ rfl rfl).list_inv
    have w1 := (hrep 1 b _ rfl rfl).list_inv
    obtain ⟨A, ca, rfl, p1, p2, p3, p4⟩ := bts_of w0
    obtain ⟨B, cb, rs, rfl, q1, q2, q3, q4, q5⟩ := ops_of w1
    have hm : maxLen ≤ 9223372036854775807 := by unfold maxLen; omega
    refine (Old.apply_any (fun _ => False) A (base.map u8) ca p1 (by omega) B rs cb (by omega) w p3 q3).mono ?_
    rintro e w' ⟨C, c, l, rfl, hl, hlc, hcm, hbl, hB⟩
    have hlen : (base.map u8).length = base.length := by simp
    have hl2 : l = (applyS base ops).map u8 := by
      rw [hl]; unfold Old.applyS applyS
      rw [hlen, check_same base.length q4]
      by_cases hc : chkO base.length ops = 0
      · rw [if_pos hc, if_pos hc]
        unfold Old.madeS
        exact made_same q4 (chk_ok hc).2.2.2
      · rw [if_neg hc, if_neg hc]; rfl
    have hin : InB (applyS base ops) := by
      unfold applyS; split
      · exact made_in p4 q5
      · intro z hz; cases hz
    have hchk : (Lit.int .i64 (chkO base.length ops)).wf = true := by
      have : chkO base.length ops = 0 ∨ chkO base.length ops = 2 ∨ chkO base.length ops = 3 := by
        unfold chkO
        split
        · simp
        · split <;> simp
      rcases this with h | h | h <;> rw [h] <;> rfl
    rw [hlen, check_same base.length q4]
    let Rd' : Nat → Nat → Prop := fun b o => g.Rd b o ∨ (w.heap.size ≤ b ∧ b < w'.heap.size)
    have hK := hB
    have hcell : ∀ b o, g.Rd b o → w'.cell? ⟨b, o, none⟩ = w.cell? ⟨b, o, none⟩ := fun b o hr => by
      obtain ⟨h1, _⟩ := hgi.rd b o hr
      exact hB.cell (p := ⟨b, o, none⟩) (by simpa using h1)
    have hfut : Fut g.Rd Rd' w w' := ⟨fun _ _ h => .inl h, hcell⟩
    refine ⟨_, .tup [by_ (applyS base ops), iv (chkO base.length ops)], ⟨g.β, g.κ, Rd', g.tp, g.tl⟩, rfl, rfl, rfl, ?_, ⟨fun _ _ h => .inl h, fun _ _ h => h, Keep.below hB fun k hk => .inr hk, fun tb htb => ?_⟩⟩
    · refine .tup _ _ rfl fun j v sv hv hs => ?_
      match j, hv, hs with
      | 0, hv, hs =>
        simp at hv hs
        subst hv hs
        refine .one (.d ?_)
        have hll : l.length = ((applyS base ops).map irow_u8).length := by rw [hl2]; simp
        rw [hll]
        refine .list C c _ 1 (fun i _ => .int .u8 ((applyS base ops).getD i 0)) (fun hC => ?_) (by rw [← hll]; exact hlc) hcm (fun row hr => ?_) (fun i j hi hj => ?_) (fun i j row x hi hj => ?_)
        · subst hC
          cases hx : applyS base ops with
          | nil => rfl
          | cons z t =>
            obtain ⟨ad, h, _⟩ := hbl 0 (byteV (u8 z)) (by rw [hl2, hx]; rfl)
            cases h
        · obtain ⟨z, _, rfl⟩ := List.mem_map.1 hr; rfl
        · have hi2 : i < (applyS base ops).length := by simpa using hi
          have hj0 : j = 0 := by omega
          subst hj0
          have hli : l[i]? = some (u8 (applyS base ops)[i]) := by rw [hl2, List.getElem?_map, List.getElem?_eq_getElem hi2]; rfl
          obtain ⟨b, o, e, hnb, hc⟩ := Cells.plain hbl (by rw [List.length_map, hl2, List.length_map]; omega)
          have hcc := hc i (byteV (u8 (applyS base ops)[i])) (by rw [List.getElem?_map, hli]; rfl)
          have hbb : b < w'.heap.size := World.block_lt_of_cell? _ _ hcc
          refine ⟨b, o, e, .inr ⟨by omega, hbb⟩, ?_⟩
          simp only [Nat.mul_one, Nat.add_zero]
          rw [hcc]
          unfold byteV
          rw [u8_nat (hin _ (List.getElem_mem hi2)), List.getD_eq_getElem?_getD, List.getElem?_eq_getElem hi2]; rfl
        · rw [List.getElem?_map] at hi
          cases hz : (applyS base ops)[i]? with
          | none => rw [hz] at hi; cases hi
          | some z =>
            rw [hz] at hi
            simp at hi
            subst hi
            have hj0 : j = 0 := by have := (List.getElem?_eq_some_iff.1 hj).1; simp [irow_u8] at this; omega
            subst hj0
            simp [irow_u8] at hj
            subst hj
            have hzm : z ∈ applyS base ops := List.mem_of_getElem? hz
            have := hin z hzm
            rw [List.getD_eq_getElem?_getD, hz]
            exact .int .u8 z (by simp [Lit.wf, IntKind.min, IntKind.max, IntKind.bits, IntKind.signed]; omega)
      | 1, hv, hs =>
        simp at hv hs
        subst hv hs
        exact .one (.d (.int .i64 _ hchk))
    · obtain ⟨h1, h2⟩ := hgi.tape tb htb
      exact h2.keep hfut ((Keep.below hB (S := fun k => w.heap.size ≤ k) fun _ h => h).block tb (by omega))
theorem awake_ic : ICt 19 [] (fun v => v = bv true) := by
  refine ⟨enters_of Try.func19 rfl rfl, fun g w vals hβ hgi hsz hrep => ?_⟩
  have hv : vals = #[] := Array.eq_empty_of_size_eq_zero (by simpa using hsz)
  subst hv
  refine (Old.awake_any w).mono ?_
  rintro e w' ⟨rfl, hB⟩
  have hcell : ∀ b o, g.Rd b o → w'.cell? ⟨b, o, none⟩ = w.cell? ⟨b, o, none⟩ := fun b o hr => by
    obtain ⟨h1, _⟩ := hgi.rd b o hr
    exact hB.cell (p := ⟨b, o, none⟩) (by simpa using h1)
  refine ⟨_, bv true, g, rfl, rfl, rfl, .one (.d (.bool true)), ⟨fun _ _ h => h, fun _ _ h => .inl h, Keep.below hB fun k hk => .inr hk, fun tb htb => ?_⟩⟩
  obtain ⟨h1, h2⟩ := hgi.tape tb htb
  exact h2.keep ⟨fun _ _ h => h, hcell⟩ ((Keep.below hB (S := fun k => w.heap.size ≤ k) fun _ h => h).block tb (by omega))
end Go.Proofs.Ytbnmcdnkeipdhaa
