/- Regress: a rule is inserted. -/
import Derived.Test.YtcbppkfnfbdkhaaKf
set_option linter.all false
set_option maxRecDepth 20000
set_option maxHeartbeats 4000000
namespace Go.Proofs.Ytcbppkfnfbdkhaa
open Go.RowKit Go.Shelf
def insL (l : List Rul) (r : Rul) (z : Int) : List Rul := l.take z.toNat ++ (r :: l.drop z.toNat)
theorem insL_len {l : List Rul} {r : Rul} {z : Int} (h0 : 0 ≤ z) (h1 : z ≤ l.length) : (insL l r z).length = l.length + 1 := by
  unfold insL
  simp only [List.length_append, List.length_take, List.length_cons, List.length_drop]; omega
theorem insert_ic (l : List Rul) (r : Rul) (z : Int) : ICp ((0 ≤ z ∧ z ≤ l.length) ∧ l.length ≤ 1000000 ∧ RulOk (insL l r z) ∧ ∀ x ∈ insL l r z, x.wh.tre.size ≤ 1000) 23 [rlv l, r.v, iv z] (fun v => v = .tup [rlv (insL l r z), iv 0]) := fun hh => (insert_V l r z _).2 (by
  obtain ⟨⟨h0, h1⟩, h2, h3, h4⟩ := hh
  (delta insert_V; dsimp only [mkV])
  have eL : List.take z.toNat l ++ { nm := r.nm, wh := { op := r.wh.op, tx := r.wh.tx, nu := r.wh.nu, pr := r.wh.pr, kids := r.wh.kids }, vd := r.vd } :: List.drop z.toNat l = insL l r z := rfl
  rw [eL]
  have hlen := insL_len (r := r) h0 h1
  generalize insL l r z = L at *
  (repeat' (first | with_reducible refine brn_nd (fun h => ?_) (fun h => ?_) | with_reducible refine brn_d (fun h => ?_) (fun h => ?_) | with_reducible refine brn_nn (fun h => ?_) (fun h => ?_) | with_reducible refine brn_nb (fun h => ?_) (fun h => ?_) | with_reducible refine Brn.mk (fun h => ?_) (fun h => ?_) | with_reducible refine Chk.mk ?_ ?_ | with_reducible refine Bth.mk ?_ ?_ | with_reducible refine Fct.mk (fun hf => ?_)))
  · exfalso; omega
  · exfalso; omega
  · omega
  · omega
  · exact h3
  refine lp2 (fun x k => 0 ≤ k ∧ k ≤ L.length ∧ x = L) (fun _ k => (L.length - k).toNat) ⟨by omega, by omega, rfl⟩ ?_
  rintro I μ nx x k ⟨k0, k1, rfl⟩
  (repeat' (first | with_reducible refine brn_nd (fun h => ?_) (fun h => ?_) | with_reducible refine brn_d (fun h => ?_) (fun h => ?_) | with_reducible refine brn_nn (fun h => ?_) (fun h => ?_) | with_reducible refine brn_nb (fun h => ?_) (fun h => ?_) | with_reducible refine Brn.mk (fun h => ?_) (fun h => ?_) | with_reducible refine Chk.mk ?_ ?_ | with_reducible refine Bth.mk ?_ ?_ | with_reducible refine Fct.mk (fun hf => ?_)))
  · exact ⟨k0, by assumption⟩
  · have hm := gt_mem k0 (show k < x.length by assumption)
    exact ⟨(h3.2.1 _ hm).2.1, h4 _ hm⟩
  · unfold InI; omega
  · refine nx _ _ _ _ ⟨k0, k1, rfl⟩ ⟨by omega, by omega, ?_⟩ (by omega)
    exact set_gt k0 (by assumption)
  · rfl)
theorem insertN_ic (l : List Rul) (nm tx : ByteArray) (op nu pr vd z : Int) : ICp ((0 ≤ z ∧ z ≤ l.length) ∧ l.length ≤ 1000000 ∧ RulOk (insL l ⟨nm, ⟨op, tx, nu, pr, []⟩, vd⟩ z) ∧ ∀ x ∈ insL l ⟨nm, ⟨op, tx, nu, pr, []⟩, vd⟩ z, x.wh.tre.size ≤ 1000) 23 [rlv l, .agg [.d (.str nm), .d (.int .i64 op), .d (.str tx), .d (.int .i64 nu), .d (.int .u64 pr), .d (.list []), .d (.int .i64 vd)], iv z] (fun v => v = .tup [rlv (insL l ⟨nm, ⟨op, tx, nu, pr, []⟩, vd⟩ z), iv 0]) := insert_ic l ⟨nm, ⟨op, tx, nu, pr, []⟩, vd⟩ z
end Go.Proofs.Ytcbppkfnfbdkhaa
