/- Archives: what is packed is unpacked. Plain Lean. -/
import Derived.Test.YtbnmcdnkeipdhaaFs
set_option linter.all false
set_option maxRecDepth 20000
set_option maxHeartbeats 4000000
namespace Go.Proofs.Ytbnmcdnkeipdhaa
open Go.RowKit Go.Shelf
def Dec (p d : List Int) : Prop := ∀ (rest data : List Int) (size : Int), (data.length : Int) + d.length ≤ size → unpS (p ++ rest) data size = unpS rest (data ++ d) size
theorem Dec.nil : Dec [] [] := fun rest data size _ => by simp
theorem Dec.app {p1 p2 d1 d2 : List Int} (h1 : Dec p1 d1) (h2 : Dec p2 d2) : Dec (p1 ++ p2) (d1 ++ d2) := fun rest data size h => by
  rw [List.length_append] at h
  rw [List.append_assoc, h1 _ _ _ (by omega), h2 _ _ _ (by rw [List.length_append]; omega), List.append_assoc]
theorem gt_hd (a : Int) (l : List Int) : gt (a :: l) 0 = a := rfl
theorem Dec.lit {xs : List Int} {n : Nat} (h0 : 0 < n) (h1 : n ≤ 128) (hn : xs.length = n) : Dec ((((n : Nat) : Int) - 1) % 256 :: xs) xs := fun rest data size h => by
  have e : (((n : Nat) : Int) - 1) % 256 = (n : Int) - 1 := by omega
  rw [e, List.cons_append, unpS, if_pos (by omega), dif_neg (by simp; omega), gt_hd, if_pos (by omega), if_neg (by simp; omega)]
  have e1 : ((n : Int) - 1).toNat + 2 = n + 1 := by omega
  have e2 : ((n : Int) - 1).toNat + 1 = n := by omega
  rw [e1, e2, List.drop_succ_cons, List.drop_succ_cons, List.drop_zero, ← hn, List.drop_left, List.take_left]
theorem Dec.run (x : Int) {m : Nat} (h0 : 3 ≤ m) (h1 : m ≤ 130) : Dec [(m : Int) + 125, x] (List.replicate m x) := fun rest data size h => by
  rw [List.length_replicate] at h
  rw [List.cons_append, List.cons_append, List.nil_append, unpS, if_pos (by omega), dif_neg (by simp), gt_hd, if_neg (by omega)]
  have e1 : ((m : Int) + 125 - 125).toNat = m := by omega
  rw [e1]; rfl
theorem Dec.plain (l : List Int) : Dec (plS l) l := by
  by_cases h : l = []
  · subst h; rw [plS_nil]; exact .nil
  · have hl : 0 < l.length := List.length_pos_iff.2 h
    have ih := Dec.plain (l.drop 128)
    have := (Dec.lit (xs := l.take 128) (n := min 128 l.length) (by omega) (by omega) (by rw [List.length_take])).app ih
    rw [List.take_append_drop] at this
    rw [plS_cons h]
    exact this
termination_by l.length
decreasing_by (have := List.length_pos_iff.2 h; simp; omega)
theorem Dec.eq (x : Int) (n : Nat) : Dec (eqB x n) (List.replicate (n - eqR n) x) := by
  rw [eqB, eqR]
  split
  · have ih := Dec.eq x (n - min n 130)
    have hr := eqR_le (n - min n 130)
    have := (Dec.run x (m := min n 130) (by omega) (by omega)).app ih
    rw [List.replicate_append_replicate, show min n 130 + (n - min n 130 - eqR (n - min n 130)) = n - eqR (n - min n 130) by omega] at this
    exact this
  · rw [Nat.sub_self]; exact .nil
termination_by n
decreasing_by omega
theorem rowF_take (x : Int) (l : List Int) : l.take (rowF x l) = List.replicate (rowF x l) x := by
  induction l with
  | nil => rfl
  | cons y t ih =>
    rw [rowF]
    split
    · rename_i e
      rw [Nat.add_comm, List.take_succ_cons, List.replicate_succ, ih, e]
    · rfl
theorem rowS_take {b : List Int} (h : b ≠ []) : b.take (rowS b) = List.replicate (rowS b) (gt b 0) := by
  match b, h with
  | a :: t, _ =>
    unfold rowS
    rw [gt_hd, List.drop_succ_cons, List.drop_zero, Nat.add_comm, List.take_succ_cons, List.replicate_succ, rowF_take]
theorem Dec.packs (b out wait o' : List Int) (ho : Dec out o') : Dec (packS b out wait) (o' ++ wait ++ b) := by
  by_cases h : b = []
  · subst h
    rw [packS, dif_pos rfl, List.append_nil]
    exact ho.app (.plain wait)
  · have hr := rowS_le (List.length_pos_iff.2 h)
    rw [packS, dif_neg h]
    split
    · have hq := eqR_le (rowS b)
      have := Dec.packs (b.drop (rowS b)) (out ++ plS wait ++ eqB (gt b 0) (rowS b)) ((b.drop (rowS b - eqR (rowS b))).take (eqR (rowS b))) _ ((ho.app (.plain wait)).app (.eq (gt b 0) (rowS b)))
      have e1 : List.replicate (rowS b - eqR (rowS b)) (gt b 0) = b.take (rowS b - eqR (rowS b)) := by
        have := congrArg (List.take (rowS b - eqR (rowS b))) (rowS_take h)
        rw [List.take_take, List.take_replicate, Nat.min_eq_left (by omega)] at this
        exact this.symm
      have e2 : b.take (rowS b - eqR (rowS b)) ++ (b.drop (rowS b - eqR (rowS b))).take (eqR (rowS b)) = b.take (rowS b) := by
        rw [← List.take_add, show rowS b - eqR (rowS b) + eqR (rowS b) = rowS b by omega]
      rw [e1, List.append_assoc (o' ++ wait), e2, List.append_assoc (o' ++ wait), List.take_append_drop] at this
      exact this
    · have := Dec.packs (b.drop (rowS b)) out (wait ++ b.take (rowS b)) o' ho
      rw [List.append_assoc, List.append_assoc, List.take_append_drop, ← List.append_assoc] at this
      exact this
termination_by b.length
decreasing_by all_goals (have := rowS_le (List.length_pos_iff.2 h); simp; omega)
theorem unp_pack (d rest : List Int) : unpS (packS d [] [] ++ rest) [] d.length = (d, rest, true) := by
  have h := Dec.packs d [] [] [] .nil rest [] d.length (by simp)
  simp only [List.nil_append] at h
  rw [h, unpS, if_neg (by omega)]
  simp
theorem tk_app (xs r : List Int) {n : Int} (h : n = xs.length) : tkW (xs ++ r) false n = false ∧ tkO (xs ++ r) false n = xs ∧ tkB (xs ++ r) false n = r := by
  subst h
  have h1 : tkW (xs ++ r) false (xs.length : Int) = false := by unfold tkW; simp; omega
  unfold tkO tkB
  rw [h1]
  simp
theorem bsI_bytI (q : ByteArray) : bsI (bytI q) = q := by
  unfold bsI bytI
  rw [List.map_map]
  have : (List.map ((fun z : Int => UInt8.ofNat z.toNat) ∘ fun b : UInt8 => (b.toNat : Int)) q.data.toList) = q.data.toList := by
    conv => rhs; rw [← List.map_id q.data.toList]
    refine List.map_congr_left fun b _ => ?_
    simp
  rw [this]
theorem numI_three {n : Int} (h0 : 0 ≤ n) (h1 : n < 16777216) : numI (threeS n) = n := by
  show n / 65536 % 256 * 65536 + n / 256 % 256 * 256 + n % 256 = n
  omega
theorem dtR_enc (d rest : List Int) (left : Int) (h : (d.length : Int) ≤ left) (h1 : left ≤ 65536) : dtR (threeS d.length ++ ((if (packS d [] []).length < d.length then [1] ++ packS d [] [] else [0] ++ d) ++ rest)) false left = (d, rest, false) := by
  generalize ht : (if (packS d [] []).length < d.length then [1] ++ packS d [] [] else [0] ++ d) = t
  obtain ⟨a1, a2, a3⟩ := tk_app (threeS d.length) (t ++ rest) (n := 3) rfl
  have hN : dtN (threeS d.length ++ (t ++ rest)) false = d.length := by unfold dtN; rw [a2, numI_three (by omega) (by omega)]
  split at ht
  all_goals subst ht
  all_goals rw [List.append_assoc] at a1 a2 a3 hN ⊢
  · obtain ⟨b1, b2, b3⟩ := tk_app [1] (packS d [] [] ++ rest) (n := 1) rfl
    have hF : dtF (threeS d.length ++ ([1] ++ (packS d [] [] ++ rest))) false = 1 := by unfold dtF; rw [a3, a1, b2]; rfl
    have hB : dtB (threeS d.length ++ ([1] ++ (packS d [] [] ++ rest))) false = packS d [] [] ++ rest := by unfold dtB; rw [a3, a1, b3]
    have hW : dtW (threeS d.length ++ ([1] ++ (packS d [] [] ++ rest))) false = false := by unfold dtW; rw [a3, a1, b1]
    rw [dtR, if_neg (by rw [hN, hF, hW]; simp; omega), if_neg (by rw [hF]; decide), hN, hB, unp_pack]; rfl
  · obtain ⟨b1, b2, b3⟩ := tk_app [0] (d ++ rest) (n := 1) rfl
    obtain ⟨c1, c2, c3⟩ := tk_app d rest (n := d.length) rfl
    have hF : dtF (threeS d.length ++ ([0] ++ (d ++ rest))) false = 0 := by unfold dtF; rw [a3, a1, b2]; rfl
    have hB : dtB (threeS d.length ++ ([0] ++ (d ++ rest))) false = d ++ rest := by unfold dtB; rw [a3, a1, b3]
    have hW : dtW (threeS d.length ++ ([0] ++ (d ++ rest))) false = false := by unfold dtW; rw [a3, a1, b1]
    rw [dtR, if_neg (by rw [hN, hF, hW]; simp; omega), if_pos hF, hN, hB, hW, c1, c2, c3]
theorem rd_enc (x : Ent) (rest : List Int) (left : Int) (hn : x.nm.size ≤ 40) (h : (x.dat.length : Int) ≤ left) (h1 : left ≤ 65536) : bsI (rdN (encE x ++ rest) false) = x.nm ∧ rdD (encE x ++ rest) false left = (x.dat, rest, false) := by
  have e : encE x ++ rest = [(x.nm.size : Int) % 256] ++ (bytI x.nm ++ (threeS x.dat.length ++ ((if (packS x.dat [] []).length < x.dat.length then [1] ++ packS x.dat [] [] else [0] ++ x.dat) ++ rest))) := by
    unfold encE; simp only [List.append_assoc]
  rw [e]
  obtain ⟨a1, a2, a3⟩ := tk_app [(x.nm.size : Int) % 256] (bytI x.nm ++ (threeS x.dat.length ++ ((if (packS x.dat [] []).length < x.dat.length then [1] ++ packS x.dat [] [] else [0] ++ x.dat) ++ rest))) (n := 1) rfl
  obtain ⟨b1, b2, b3⟩ := tk_app (bytI x.nm) (threeS x.dat.length ++ ((if (packS x.dat [] []).length < x.dat.length then [1] ++ packS x.dat [] [] else [0] ++ x.dat) ++ rest)) (n := x.nm.size) (by rw [bytI_len])
  have hk : gt [(x.nm.size : Int) % 256] 0 = x.nm.size := by rw [gt_hd]; omega
  unfold rdN rdD rdK
  rw [a1, a2, a3, hk, b1, b2, b3]
  exact ⟨bsI_bytI _, dtR_enc _ _ _ h h1⟩
theorem prsL_enc (l : List Ent) (rest : List Int) (left : Int) (out : List Ent) (hn : ∀ x ∈ l, x.nm.size ≤ 40) (h : sumE l ≤ left) (h1 : left ≤ 65536) : prsL l.length (l.flatMap encE ++ rest) false left out = some (out ++ l, rest, false) := by
  induction l generalizing left out with
  | nil => simp [prsL]
  | cons x l ih =>
    have hs : sumE (x :: l) = x.dat.length + sumE l := by simp [sumE]
    have hp := sumE_pos l
    obtain ⟨r1, r2⟩ := rd_enc x (l.flatMap encE ++ rest) left (hn x List.mem_cons_self) (by omega) h1
    rw [List.length_cons, List.flatMap_cons, List.append_assoc, prsL, r2, r1]
    simp only [Bool.false_eq_true, if_false]
    rw [ih (left - x.dat.length) (out ++ [Ent.mk x.nm x.dat]) (fun y hy => hn y (List.mem_cons_of_mem _ hy)) (by omega) (by omega)]
    simp
theorem parS_fmt {l : List Ent} (h : valS l = 0) : parS (fmtB l) = (l, true) := by
  obtain ⟨v1, v2, v3, v4⟩ := valS_ok h
  have e : fmtB l = [65, 82, 67, 49] ++ ([(l.length : Int) % 256] ++ (l.flatMap encE ++ [])) := by unfold fmtB; simp
  obtain ⟨a1, a2, a3⟩ := tk_app [65, 82, 67, 49] ([(l.length : Int) % 256] ++ (l.flatMap encE ++ [])) (n := 4) rfl
  obtain ⟨b1, b2, b3⟩ := tk_app [(l.length : Int) % 256] (l.flatMap encE ++ []) (n := 1) rfl
  have hN : (prsN (fmtB l)).toNat = l.length := by unfold prsN; rw [e, a3, a1, b2, gt_hd]; omega
  have hB : prsB (fmtB l) = l.flatMap encE ++ [] := by unfold prsB; rw [e, a3, a1, b3]
  have hW : prsW (fmtB l) = false := by unfold prsW; rw [e, a3, a1, b1]
  have hL := prsL_enc l [] 65536 [] (fun x hx => (v4 x hx).2.1) v2 (by omega)
  rw [parS, if_pos (by rw [e, a2]; rfl), hN, hB, hW, hL]
  simp [h]
end Go.Proofs.Ytbnmcdnkeipdhaa
