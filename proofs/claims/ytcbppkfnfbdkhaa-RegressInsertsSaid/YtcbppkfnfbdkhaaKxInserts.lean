/- Regress: the law RegressInserts, shown. -/
import Derived.Test.YtcbppkfnfbdkhaaKi
import Derived.Test.YtcbppkfnfbdkhaaKvInserts
set_option linter.all false
set_option maxRecDepth 20000
set_option maxHeartbeats 4000000
namespace Go.Proofs.Ytcbppkfnfbdkhaa
open Go.RowKit Go.Shelf
theorem and255 (x : Int) : 0 ≤ bits .and .i64 x 255 ∧ bits .and .i64 x 255 ≤ 255 := by
  have h0 : bits .and .i64 x 255 = IntKind.i64.wrap ((BitVec.ofInt 64 x &&& BitVec.ofInt 64 255).toNat : Int) := rfl
  have h1 : (BitVec.ofInt 64 x &&& BitVec.ofInt 64 255).toNat ≤ 255 := by
    rw [BitVec.toNat_and]
    exact Nat.le_trans Nat.and_le_right (by decide)
  rw [h0, Go.IntWalk.i64_in _ (by omega)]
  omega
theorem TrmM.up {c : Trm} (h : TrmM 2 c) : TrmM 3 c := by
  obtain ⟨h1, h2, h3, h4⟩ := h
  have e2 : szD (2 : Int).toNat = 4 := rfl
  have e3 : szD (3 : Int).toNat = 13 := rfl
  have f2 : (2 : Int).toNat = 2 := rfl
  have f3 : (3 : Int).toNat = 3 := rfl
  exact ⟨h1, h2, by omega, by omega⟩
theorem less_dec {M : List Rul} {n : Int} {kinds : List Knd} {f : Fnd} {s : Spt} (h0 : 0 ≤ n) (h1 : n < M.length) (hd : decN M kinds f s ≠ n) : decV M kinds f s = decV (M.take n.toNat ++ M.drop (n + 1).toNat) kinds f s := by
  have e : insL (M.take n.toNat ++ M.drop (n + 1).toNat) (gt M n) n = M := by
    unfold insL
    have hl : (M.take n.toNat).length = n.toNat := by rw [List.length_take]; omega
    rw [List.take_append_of_le_length (by omega), List.take_of_length_le (by omega), List.drop_append_of_le_length (by omega), List.drop_eq_nil_of_le (by omega), List.nil_append, gt_eq (by omega), show (n + 1).toNat = n.toNat + 1 by omega]
    rw [← List.drop_eq_getElem_cons (by omega), List.take_append_drop]
  have hlen : ((M.take n.toNat ++ M.drop (n + 1).toNat).length : Int) = M.length - 1 := by
    simp only [List.length_append, List.length_take, List.length_drop]; omega
  rcases ins_dec (l := M.take n.toNat ++ M.drop (n + 1).toNat) (r := gt M n) (z := n) (kinds := kinds) (f := f) (s := s) (by omega) with ⟨a, _, _⟩ | a
  · rw [e] at a; exact absurd a hd
  · rw [e] at a; exact a
theorem less_ok {M : List Rul} {n : Int} (h : RulOk M) (h0 : 0 ≤ n) (h1 : n < M.length) : RulOk (M.take n.toNat ++ M.drop (n + 1).toNat) := by
  have hs : (M.take n.toNat ++ M.drop (n + 1).toNat).Sublist M := by
    have : (M.take n.toNat ++ M.drop (n + 1).toNat).Sublist (M.take n.toNat ++ M.drop n.toNat) := List.Sublist.append_left (List.drop_sublist_drop_left M (by omega)) _
    rwa [List.take_append_drop] at this
  exact ⟨Nat.le_trans hs.length_le h.1, fun r hr => h.2.1 r (hs.subset hr), h.2.2.sublist (hs.map _)⟩
theorem inserts_il (tape : List Int) (at_ : Int) : ILt 5 [lv tape, iv at_] := (lawInserts_V tape at_).2 (by
  (delta lawInserts_V; dsimp only [mkV])
  intro kinds hk
  refine Chk.mk (by omega) ?_
  intro n1 hn1
  refine Chk.mk (by omega) ?_
  intro l hl f hf
  refine Chk.mk (by omega) ?_
  intro c hc
  refine Chk.mk (by omega) ?_
  intro v hv
  obtain ⟨f1, f2⟩ := hf.2.ok hf.1
  have rl := hl.2.ok (by omega)
  have a255 := and255 at_
  refine Fct.mk fun _ => Chk.mk (by unfold InI; omega) (Chk.mk (by omega) ?_)
  have hk0 : 0 ≤ (bits .and .i64 at_ 255).tmod ((l.length : Int) + 1) ∧ (bits .and .i64 at_ 255).tmod ((l.length : Int) + 1) ≤ l.length := by
    have h1 := Int.tmod_nonneg ((l.length : Int) + 1) a255.1
    have h2 := Int.tmod_lt_of_pos (bits .and .i64 at_ 255) (show (0 : Int) < (l.length : Int) + 1 by omega)
    omega
  generalize (bits .and .i64 at_ 255).tmod ((l.length : Int) + 1) = k at *
  have hok := hc.up
  have hr : (⟨⟨#[110, 101, 119]⟩, c, v⟩ : Rul).nm.size ≤ 1000000000 ∧ (⟨⟨#[110, 101, 119]⟩, c, v⟩ : Rul).wh.ok ∧ ckS ⟨⟨#[110, 101, 119]⟩, c, v⟩ = 0 := by
    refine ⟨by show (3 : Nat) ≤ _; omega, hok.1, ?_⟩
    unfold ckS
    rw [if_pos (by show nmB ⟨#[110, 101, 119]⟩ = true; decide), if_pos hok.te, if_pos (by show v = 1 ∨ v = 2; omega)]
  have hsz := rnm_sz hl.2 (by omega)
  have hM : RulOk (insL l ⟨⟨#[110, 101, 119]⟩, c, v⟩ k) := insL_ok rl (by omega) hr (fun x hx e => by
    have := hsz x hx
    rw [e] at this
    exact absurd this (by show ¬ (3 : Nat) = 2; omega)) hk0
  have hlen := insL_len (l := l) (r := ⟨⟨#[110, 101, 119]⟩, c, v⟩) hk0.1 hk0.2
  have hsize : ∀ x ∈ insL l ⟨⟨#[110, 101, 119]⟩, c, v⟩ k, x.wh.tre.size ≤ 1000 := fun x hx => by
    have e : szD (3 : Int).toNat = 13 := rfl
    rcases insL_mem hx with rfl | hx
    · have := hok.2.2.1
      show c.tre.size ≤ 1000
      omega
    · have := (hl.2.2 x hx).1.2.2.1
      omega
  have hdec := fun (g : Fnd) (s : Spt) => ins_dec (l := l) (r := ⟨⟨#[110, 101, 119]⟩, c, v⟩) (z := k) (kinds := kinds) (f := g) (s := s) hk0
  generalize insL l ⟨⟨#[110, 101, 119]⟩, c, v⟩ k = M at *
  refine Chk.mk ⟨hk0, by omega, hM, hsize⟩ (Chk.mk ⟨rl, hM, f1, f2⟩ (Fct.mk fun _ => Fct.mk fun _ => brn_nd (fun h => absurd (by omega) h) fun _ => Fct.mk fun hcl => ?_))
  refine lp1 (fun z => 0 ≤ z ∧ z ≤ (chgS l M kinds f).length) (fun z => ((chgS l M kinds f).length - z).toNat) ⟨by omega, by omega⟩ ?_
  rintro I μ nx z ⟨z0, z1⟩
  refine brn_d (fun hz => ?_) fun _ => ?_
  · obtain ⟨i, q, ⟨i0, i1⟩, ⟨q0, q1⟩, hne, hcc⟩ := mem_chgS (gt_mem z0 hz)
    rw [hcc]
    rcases hdec (gt f i) (gt (gt f i).wh q) with ⟨d1, d2, d3⟩ | d
    · have hsp := (hf.2.1 _ (gt_mem i0 i1)).2.2
      have hho : hoS kinds (gt f i) (gt (gt f i).wh q) c = true := d2
      refine Chk.mk ⟨z0, hz⟩ (brn_d (fun h => absurd h (by dsimp only; omega)) fun _ => brn_d (fun h => absurd h (by dsimp only; omega)) fun _ => brn_nd (fun h => absurd d1 h) fun _ => brn_nd (fun h => absurd d3 h) fun _ => Chk.mk ⟨i0, i1⟩ (Chk.mk ⟨hok.1, q0, q1, fun s hs => (hsp.2 s hs).2.1⟩ ?_))
      dsimp only
      rw [hho, hok.te]
      refine ⟨fun h => by simp at h, fun _ => Chk.mk (by unfold InI; omega) (nx _ _ ⟨z0, z1⟩ ⟨by omega, by omega⟩ (by omega))⟩
    · exact absurd d.symm hne
  · refine Chk.mk ⟨hM, f1, f2⟩ (Fct.mk fun hil => ?_)
    refine lp1 (fun z => 0 ≤ z ∧ z ≤ (idlS M kinds f).length) (fun z => ((idlS M kinds f).length - z).toNat) ⟨by omega, by omega⟩ ?_
    rintro I2 μ2 nx2 y ⟨y0, y1⟩
    refine brn_d (fun hy => ?_) fun _ => rfl
    obtain ⟨m0, m1, m2⟩ := mem_idlS (gt_mem y0 hy)
    generalize gt (idlS M kinds f) y = n at *
    have hless := less_ok hM m0 m1
    have hnil : chgS M (M.take n.toNat ++ M.drop (n + 1).toNat) kinds f = [] := chgS_nil fun x hx s hs => less_dec m0 m1 fun e => m2 (mem_nums.2 ⟨x, hx, s, hs, e⟩)
    (repeat' (first | with_reducible refine brn_nd (fun h => ?_) (fun h => ?_) | with_reducible refine brn_d (fun h => ?_) (fun h => ?_) | with_reducible refine brn_nn (fun h => ?_) (fun h => ?_) | with_reducible refine brn_nb (fun h => ?_) (fun h => ?_) | with_reducible refine Brn.mk (fun h => ?_) (fun h => ?_) | with_reducible refine Chk.mk ?_ ?_ | with_reducible refine Bth.mk ?_ ?_ | with_reducible refine Fct.mk (fun hf => ?_)))
    all_goals first
      | exact ⟨y0, hy⟩
      | (exfalso; omega)
      | omega
      | (unfold InI; omega)
      | (simp only [List.length_append, List.length_take, List.length_drop, List.length_nil]; omega)
      | exact ⟨hM, hless, f1, f2⟩
      | exact nx2 _ _ ⟨y0, y1⟩ ⟨by omega, by omega⟩ (by omega)
      | (exfalso; rename_i hh; rw [List.nil_append, hnil] at hh; exact hh rfl)
      | (exfalso; simp_all; done)
      | trace_state)
end Go.Proofs.Ytcbppkfnfbdkhaa
