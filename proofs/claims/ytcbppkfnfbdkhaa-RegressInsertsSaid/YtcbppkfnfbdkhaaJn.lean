/- Makers: conditions, shown. -/
import Derived.Test.YtcbppkfnfbdkhaaJm
set_option linter.all false
set_option maxRecDepth 20000
set_option maxHeartbeats 4000000
namespace Go.Proofs.Ytcbppkfnfbdkhaa
open Go.RowKit Go.Shelf
theorem trm_node {d : Int} {op nu pr : Int} {tx : ByteArray} {ts : List Trm} (hd : 1 ≤ d) (ht : tx.size ≤ 1000000000) (hk : ∀ k ∈ ts, 1 < d ∧ TrmM (d - 1) k) (hl : ts.length ≤ 3) (h : okF op tx nu pr ts.length = true) : TrmM d ⟨op, tx, nu, pr, ts.map Trm.row⟩ := by
  have hok : ∀ k ∈ ts, k.ok := fun k hx => (hk k hx).2.1
  refine ⟨Trm.ok_mk ht hok, ?_, ?_, ?_⟩
  · rw [rtS_mk hok, h, Bool.true_and, Bool.not_eq_true', List.any_eq_false]
    intro k hx
    simp [(hk k hx).2.2.1]
  · rw [Trm.tre_mk hok, Tre.size_mk, List.map_map]
    obtain ⟨n, hn⟩ : ∃ n : Nat, d.toNat = n + 1 := ⟨d.toNat - 1, by omega⟩
    rw [hn, szD]
    have : ((ts.map (Tre.size ∘ Trm.tre)).sum) ≤ ts.length * szD n := by
      clear h hl hok
      induction ts with
      | nil => simp
      | cons k ts ih =>
        have h1 := (hk k (List.mem_cons_self ..)).2.2.2.1
        have h2 := ih fun x hx => hk x (List.mem_cons_of_mem _ hx)
        rw [show (d - 1).toNat = n by omega] at h1
        simp only [List.map_cons, List.sum_cons, List.length_cons, Function.comp]
        rw [Nat.add_mul, Nat.one_mul]
        omega
    have h3 : ts.length * szD n ≤ 3 * szD n := Nat.mul_le_mul_right _ hl
    omega
  · rw [Trm.tre_mk hok, Tre.deep_mk, List.map_map]
    have : ∀ (a : Nat), a ≤ d.toNat - 1 → (ts.map (Tre.deep ∘ Trm.tre)).foldl max a ≤ d.toNat - 1 := by
      clear h hl hok
      induction ts with
      | nil => intro a ha; simpa using ha
      | cons k ts ih =>
        intro a ha
        have h1 := (hk k (List.mem_cons_self ..)).2.2.2.2
        simp only [List.map_cons, List.foldl_cons, Function.comp]
        exact ih (fun x hx => hk x (List.mem_cons_of_mem _ hx)) _ (by omega)
    have := this 0 (by omega)
    omega
theorem trm_leaf {d : Int} {op nu pr : Int} {tx : ByteArray} (hd : 1 ≤ d) (ht : tx.size ≤ 1000000000) (h : okF op tx nu pr 0 = true) : TrmM d ⟨op, tx, nu, pr, []⟩ := trm_node (ts := []) hd ht (fun k hk => by cases hk) (by simp) h
theorem trm_text {d : Int} {op : Int} {l : List ByteArray} {i : Int} (hd : 1 ≤ d) (ho : op = 1 ∨ op = 2 ∨ op = 3) (hi : 0 ≤ i ∧ i < l.length) (hl : (l.all fun t => quB t && decide (t.size ≤ 1000)) = true) : TrmM d ⟨op, gt l i, 0, 0, []⟩ := by
  have := List.all_eq_true.1 hl _ (gt_mem hi.1 hi.2)
  rw [Bool.and_eq_true] at this
  have h2 := of_decide_eq_true this.2
  refine trm_leaf hd (by omega) ?_
  unfold okF
  rw [if_pos ho, this.1]; rfl
theorem trm_num {d : Int} {op nu : Int} (hd : 1 ≤ d) (ho : op = 4 ∨ op = 5 ∨ op = 6 ∨ op = 8) (hn : 0 ≤ nu ∧ nu < 8) : TrmM d ⟨op, ⟨#[]⟩, nu, 0, []⟩ := by
  refine trm_leaf hd (by show 0 ≤ 1000000000; omega) ?_
  unfold okF
  rw [if_neg (by omega), if_pos ho]
  simp; omega
theorem trm_print {d : Int} {op pr : Int} (hd : 1 ≤ d) (ho : op = 7) : TrmM d ⟨op, ⟨#[]⟩, 0, pr, []⟩ := by
  refine trm_leaf hd (by show 0 ≤ 1000000000; omega) ?_
  subst ho
  unfold okF
  simp
theorem trm_not {d : Int} {op : Int} {k : Trm} (hd : 1 < d) (ho : op = 9) (hk : TrmM (d - 1) k) : TrmM d ⟨op, ⟨#[]⟩, 0, 0, [k].map Trm.row⟩ := by
  refine trm_node (by omega) (by show 0 ≤ 1000000000; omega) (fun x hx => ?_) (by simp) ?_
  · rw [List.mem_singleton] at hx; subst hx; exact ⟨hd, hk⟩
  · subst ho; unfold okF; simp
theorem trm_and {d : Int} {op : Int} {ts : List Trm} (hd : 1 < d) (ho : op = 10 ∨ op = 11) (hk : ∀ k ∈ ts, TrmM (d - 1) k) (h2 : 2 ≤ ts.length) (h3 : ts.length ≤ 3) : TrmM d ⟨op, ⟨#[]⟩, 0, 0, ts.map Trm.row⟩ := by
  refine trm_node (by omega) (by show 0 ≤ 1000000000; omega) (fun x hx => ⟨hd, hk x hx⟩) h3 ?_
  unfold okF
  rcases ho with rfl | rfl <;> simp <;> omega
theorem mterm_step (deep : Int) (ih : ∀ dp : Int, ICp (1 < deep ∧ deep ≤ 3 ∧ dp = deep - 1) 21 [.one .tape, iv dp] (ND (fun c : Trm => TrmM dp c) Trm.v)) : ICp (1 ≤ deep ∧ deep ≤ 3) 21 [.one .tape, iv deep] (ND (fun c : Trm => TrmM deep c) Trm.v) := fun hd => (mterm_V deep ih _).2 (by
  obtain ⟨d1, d3⟩ := hd
  (delta mterm_V; dsimp only [mkV])
  repeat' (first | with_reducible refine brn_d (fun h => ?_) (fun h => ?_) | with_reducible refine Chk.mk ?_ ?_ | with_reducible refine Bth.mk ?_ ?_ | with_reducible refine Fct.mk (fun _ => ?_) | intro _)
  all_goals (try first | omega | (unfold InI; omega))
  all_goals (try first | (refine ⟨_, trm_text d1 ?_ ?_ ?_, rfl⟩ <;> first | omega | assumption | decide; done) | (refine ⟨_, trm_num d1 ?_ ?_, rfl⟩ <;> first | omega; done) | (refine ⟨_, trm_print d1 ?_, rfl⟩ <;> first | omega; done))
  · rename_i c hc
    exact ⟨_, trm_not (by omega) (by assumption) hc, rfl⟩
  all_goals
    rename_i n hn
    refine lp6 (fun ts k op tx nu pr => (op = 10 ∨ op = 11) ∧ tx = ⟨#[]⟩ ∧ nu = 0 ∧ pr = 0 ∧ 0 ≤ k ∧ (ts.length : Int) + k = n ∧ ∀ c ∈ ts, TrmM (deep - 1) c) (fun _ k _ _ _ _ => k.toNat) ⟨by omega, rfl, rfl, rfl, by omega, by show (0 : Int) + n = n; omega, fun c hc => by cases hc⟩ ?_
    intro I μ nx ts k op tx nu pr hJ
    obtain ⟨j1, j2, j3, j4, j5, j6, j7⟩ := hJ
    subst j2 j3 j4
    repeat' (first | with_reducible refine brn_d (fun h => ?_) (fun h => ?_) | with_reducible refine Chk.mk ?_ ?_ | intro _)
    all_goals (try first | omega | (unfold InI; omega) | (simp; omega))
    · refine nx _ _ _ _ _ _ _ _ _ _ _ _ ⟨j1, rfl, rfl, rfl, j5, j6, j7⟩ ⟨j1, rfl, rfl, rfl, by omega, by simp; omega, fun x hx => ?_⟩ (by omega)
      rcases List.mem_append.1 hx with hx | hx
      · exact j7 x hx
      · rw [List.mem_singleton] at hx; subst hx; exact ‹TrmM (deep - 1) _›
    · exact ⟨_, trm_and (by omega) j1 j7 (by omega) (by omega), rfl⟩)
theorem mterm_x (n : Nat) : ∀ deep : Int, deep.toNat ≤ n → ICp (1 ≤ deep ∧ deep ≤ 3) 21 [.one .tape, iv deep] (ND (fun c : Trm => TrmM deep c) Trm.v) := by
  induction n with
  | zero => exact fun deep h hd => absurd hd.1 (by omega)
  | succ n ih => exact fun deep h => mterm_step deep fun dp hp => ih dp (by omega) ⟨by omega, by omega⟩
theorem mterm_nd (deep : Int) : ICp (1 ≤ deep ∧ deep ≤ 3) 21 [.one .tape, iv deep] (ND (fun c : Trm => TrmM deep c) Trm.v) := mterm_x _ deep (Nat.le_refl _)
end Go.Proofs.Ytcbppkfnfbdkhaa
