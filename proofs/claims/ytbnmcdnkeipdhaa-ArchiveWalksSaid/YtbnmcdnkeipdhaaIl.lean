/- Archives: Walk, shown. -/
import Derived.Test.YtbnmcdnkeipdhaaIk
set_option linter.all false
set_option maxRecDepth 20000
set_option maxHeartbeats 8000000
namespace Go.Proofs.Ytbnmcdnkeipdhaa
open Go.RowKit Go.Shelf
theorem wk_rel (d : Nat) : ∀ (path : List ByteArray), path.length + d = 3 → 1 ≤ d → ∀ (l : List Ent) (out : List Ent) (size left : Int), left = 65536 - size → out.length ≤ 2000 → 0 ≤ size → size ≤ 65536 →
    (wkA l path out left).2.2 = (wkS d l (frontB path) out size).2.2 ∧ ((wkA l path out left).2.2 = true → (wkA l path out left).1 = (wkS d l (frontB path) out size).1 ∧ (wkA l path out left).2.1 = 65536 - (wkS d l (frontB path) out size).2.1) := by
  induction d using Nat.strongRecOn with
  | ind d ihd =>
    intro path hp h1d l
    induction l with
    | nil => intro out size left h1 h2 h3 h4; rw [wkA_nil, wkS_nil]; exact ⟨rfl, fun _ => ⟨rfl, h1⟩⟩
    | cons e l ihl =>
      intro out size left h1 h2 h3 h4
      rw [wkA_cons path out left rfl, wkS_cons d (frontB path) out size rfl, join_front]
      by_cases hc : 65536 < size + e.dat.length ∨ 2000 < out.length + 1
      · rw [if_pos hc, if_pos (by omega)]; exact ⟨rfl, fun h => by cases h⟩
      · rw [if_neg hc, if_neg (by omega)]
        have ho : (out ++ [Ent.mk (frontB path ++ e.nm) e.dat]).length ≤ 2000 := by simp; omega
        by_cases hd : 1 < d ∧ (parS e.dat).2 = true
        · rw [if_pos hd, if_pos ⟨by omega, hd.2⟩]
          obtain ⟨r1, r2⟩ := ihd (d - 1) (by omega) (path ++ [e.nm]) (by simp; omega) (by omega) (parS e.dat).1 (out ++ [⟨frontB path ++ e.nm, e.dat⟩]) (size + e.dat.length) (left - e.dat.length) (by omega) ho (by omega) (by omega)
          have hfa := wkA_facts _ (path ++ [e.nm]) rfl (parS e.dat).1 (out ++ [⟨frontB path ++ e.nm, e.dat⟩]) (left - e.dat.length) ho (by omega) (by omega)
          rw [frontB_snoc] at r1 r2
          generalize wkA (parS e.dat).1 (path ++ [e.nm]) (out ++ [⟨frontB path ++ e.nm, e.dat⟩]) (left - e.dat.length) = A at *
          generalize wkS (d - 1) (parS e.dat).1 (frontB path ++ e.nm ++ bang) (out ++ [⟨frontB path ++ e.nm, e.dat⟩]) (size + e.dat.length) = S at *
          by_cases hok : A.2.2 = true
          · obtain ⟨q1, q2⟩ := r2 hok
            obtain ⟨q3, q4, q5⟩ := hfa hok
            rw [if_pos hok, if_pos (r1 ▸ hok), ← q1]
            exact ihl _ _ _ (by omega) q3 (by omega) (by omega)
          · rw [if_neg hok, if_neg (r1 ▸ hok)]; exact ⟨rfl, fun h => by cases h⟩
        · rw [if_neg hd, if_neg (fun h => hd ⟨by omega, h.2⟩)]
          exact ihl _ _ _ (by omega) ho (by omega) (by omega)
theorem aWalk_ic (b : List Int) : ICp (b.length ≤ 100000000) 41 [by_ b] (fun v => v = .tup [ev (wlkL b), iv (wlkE b)]) := fun hl => (aWalk_V b _).2 (by
  obtain ⟨q1, q2⟩ := parL_small b
  obtain ⟨r1, r2⟩ := wk_rel 3 [] rfl (by omega) (parL b) [] 0 65536 rfl (by simp) (by omega) (by omega)
  have hLr : wlkR b = wkS 3 (parL b) (frontB []) [] 0 := rfl
  rw [← hLr] at r1 r2
  (delta aWalk_V; dsimp only [mkV])
  (repeat' (first | with_reducible refine brn_nd (fun h => ?_) (fun h => ?_) | with_reducible refine brn_d (fun h => ?_) (fun h => ?_) | with_reducible refine brn_nn (fun h => ?_) (fun h => ?_) | with_reducible refine brn_nb (fun h => ?_) (fun h => ?_) | with_reducible refine Brn.mk (fun h => ?_) (fun h => ?_) | with_reducible refine Chk.mk ?_ ?_ | with_reducible refine Bth.mk ?_ ?_ | with_reducible refine Fct.mk (fun hf => ?_)))
  · omega
  · have hn : ¬ parE b = 0 := by assumption
    unfold wlkL wlkE; rw [if_neg hn, if_neg hn]; rfl
  · exact ⟨by show (parL b).length ≤ 1000; omega, fun x hx => by have := q2 x hx; omega, by simp, by simp, by omega, by omega, by simp⟩
  · have hn : parE b = 0 := by assumption
    have h9 : (wkA (parL b) [] [] 65536).2.2 = false := by assumption
    have ho : ¬ (wlkR b).2.2 = true := by rw [← r1, h9]; simp
    unfold wlkL wlkE; rw [if_pos hn, if_pos hn, if_neg ho, if_neg ho]; rfl
  · have hn : parE b = 0 := by assumption
    have h9 : (wkA (parL b) [] [] 65536).2.2 = true := by assumption
    have ho : (wlkR b).2.2 = true := by rw [← r1]; exact h9
    unfold wlkL wlkE; rw [if_pos hn, if_pos hn, if_pos ho, if_pos ho, ← (r2 h9).1]; rfl)
end Go.Proofs.Ytbnmcdnkeipdhaa
