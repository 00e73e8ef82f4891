/- Archives: the law ArchiveWalks, shown. -/
import Derived.Test.YtbnmcdnkeipdhaaFvWalks
import Derived.Test.YtbnmcdnkeipdhaaIn
set_option linter.all false
set_option maxRecDepth 20000
set_option maxHeartbeats 4000000
namespace Go.Proofs.Ytbnmcdnkeipdhaa
open Go.RowKit Go.Shelf
section
variable {D : List Int}
def nX : ByteArray := ⟨#[120]⟩
def nY : ByteArray := ⟨#[121]⟩
def nFst : ByteArray := ⟨#[102, 105, 114, 115, 116]⟩
def entW (D : List Int) : Nat → List Ent
  | 0 => [⟨nX, D⟩]
  | k + 1 => [⟨nFst, []⟩, ⟨nY, fmtB (entW D k)⟩]
def nmW : Nat → ByteArray
  | 0 => nX
  | k + 1 => ⟨#[121, 33]⟩ ++ nmW k
theorem nmW_size (k : Nat) : (nmW k).size = 2 * k + 1 := by
  induction k with
  | zero => rfl
  | succ k ih => rw [nmW, ByteArray.size_append, ih]; show 2 + (2 * k + 1) = _; omega
theorem entW_len (hD : D.length ≤ 15) (k : Nat) : ((fmtB (entW D k)).length : Int) ≤ 26 + 21 * k := by
  induction k with
  | zero =>
    have h := (fmtB_len (entW D 0)).2
    have e : szE (entW D 0) = 5 + (1 : Int) + D.length + 0 := rfl
    omega
  | succ k ih =>
    have h := (fmtB_len (entW D (k + 1))).2
    have e : szE (entW D (k + 1)) = 5 + (5 : Int) + 0 + (5 + 1 + ((fmtB (entW D k)).length : Int) + 0) := rfl
    omega
theorem entW_val (hD : D.length ≤ 15) (k : Nat) (hk : k ≤ 3) : valS (entW D k) = 0 := by
  unfold valS
  cases k with
  | zero =>
    have e : sumE (entW D 0) = (D.length : Int) + 0 := rfl
    rw [if_neg (by rw [e]; show ¬ (64 < 1 ∨ _); omega), if_neg (by show ¬ (nmB nX && true) = false; decide), if_neg (by show ¬ ¬ [nX].Nodup; decide)]
  | succ k =>
    have hl := entW_len hD k
    have e : sumE (entW D (k + 1)) = 0 + (((fmtB (entW D k)).length : Int) + 0) := rfl
    rw [if_neg (by rw [e]; show ¬ (64 < 2 ∨ _); omega), if_neg (by show ¬ (nmB nFst && (nmB nY && true)) = false; decide), if_neg (by show ¬ ¬ [nFst, nY].Nodup; decide)]
theorem entW_small (hD : D.length ≤ 15) (k : Nat) (hk : k ≤ 3) : (entW D k).length ≤ 1000 ∧ ∀ x ∈ entW D k, x.nm.size ≤ 1000000000 ∧ x.dat.length ≤ 1000000000 := by
  obtain ⟨h1, h2, h3, h4⟩ := valS_ok (entW_val hD k hk)
  exact ⟨by omega, fun x hx => by have := h4 x hx; omega⟩
theorem parS_inner (x : List Int) : (parS ([105, 110, 110, 101, 114, 32] ++ x)).2 = false := by
  unfold parS
  rw [if_neg]
  rw [(tk_ok (by omega) (by simp; omega)).2.1]
  show ¬ bsI [105, 110, 110, 101] = _
  decide
def outW (D : List Int) : Nat → Nat → ByteArray → List Ent
  | _, 0, f => [⟨f ++ nX, D⟩]
  | d, k + 1, f => ⟨f ++ nFst, []⟩ :: ⟨f ++ nY, fmtB (entW D k)⟩ :: (if 1 < d then outW D (d - 1) k (f ++ nY ++ bang) else [])
theorem wkS_leaf {d : Nat} {front : ByteArray} {out l : List Ent} {size : Int} {e : Ent} (h1 : size + e.dat.length ≤ 65536) (h2 : out.length + 1 ≤ 2000) (h : ¬ (1 < d ∧ (parS e.dat).2 = true)) : wkS d (e :: l) front out size = wkS d l front (out ++ [⟨front ++ e.nm, e.dat⟩]) (size + e.dat.length) := by
  rw [wkS_cons d front out size rfl, if_neg (by omega), if_neg h]
theorem wkS_node {d : Nat} {front : ByteArray} {out l l2 o : List Ent} {size s : Int} {e : Ent} (h1 : size + e.dat.length ≤ 65536) (h2 : out.length + 1 ≤ 2000) (hd : 1 < d) (h : parS e.dat = (l2, true)) (hr : wkS (d - 1) l2 (front ++ e.nm ++ bang) (out ++ [⟨front ++ e.nm, e.dat⟩]) (size + e.dat.length) = (o, s, true)) : wkS d (e :: l) front out size = wkS d l front o s := by
  rw [wkS_cons d front out size rfl, if_neg (by omega), if_pos ⟨hd, by rw [h]⟩, h, hr, if_pos rfl]
theorem wk_entW (hD : D.length ≤ 15) (hp : (parS D).2 = false) : ∀ (k d : Nat) (f : ByteArray) (out : List Ent) (size : Int), k ≤ 3 → out.length + 2 * k + 2 ≤ 2000 → 0 ≤ size → size + 1000 * (k + 1) ≤ 65536 → ∃ s, wkS d (entW D k) f out size = (out ++ outW D d k f, s, true) := by
  intro k
  induction k with
  | zero =>
    intro d f out size h0 h1 h2 h3
    rw [entW, wkS_leaf (by show size + (D.length : Int) ≤ _; omega) (by omega) (by show ¬ (_ ∧ (parS D).2 = true); rw [hp]; simp), wkS_nil]
    exact ⟨_, rfl⟩
  | succ k ih =>
    intro d f out size h0 h1 h2 h3
    have hl := entW_len hD k
    have hp0 : (parS []).2 = false := parS_short (by simp)
    rw [entW, wkS_leaf (by show size + (0 : Int) ≤ _; omega) (by omega) (by show ¬ (_ ∧ (parS []).2 = true); rw [hp0]; simp)]
    by_cases hd : 1 < d
    · obtain ⟨s, hs⟩ := ih (d - 1) (f ++ nY ++ bang) (out ++ [⟨f ++ nFst, []⟩] ++ [⟨f ++ nY, fmtB (entW D k)⟩]) (size + (([] : List Int).length : Int) + (fmtB (entW D k)).length) (by omega) (by simp; omega) (by simp; omega) (by simp; omega)
      rw [wkS_node (by simp; omega) (by simp; omega) hd (parS_fmt (entW_val hD k (by omega))) hs, wkS_nil]
      refine ⟨_, Prod.ext ?_ (Prod.ext rfl rfl)⟩
      rw [outW, if_pos hd]
      simp
    · rw [wkS_leaf (by simp; omega) (by simp; omega) (fun h => hd h.1), wkS_nil]
      refine ⟨_, Prod.ext ?_ (Prod.ext rfl rfl)⟩
      rw [outW, if_neg hd]
      simp
theorem wlk_entW (hD : D.length ≤ 15) (hp : (parS D).2 = false) (k : Nat) (hk : k ≤ 3) : wlkL (fmtB (entW D k)) = outW D 3 k ⟨#[]⟩ ∧ wlkE (fmtB (entW D k)) = 0 := by
  have hl := entW_len hD k
  have hv := parS_fmt (entW_val hD k hk)
  have e1 : parL (fmtB (entW D k)) = entW D k := by unfold parL; rw [if_neg (by omega), hv]; rfl
  have e2 : parE (fmtB (entW D k)) = 0 := by unfold parE; rw [if_neg (by omega), hv]; rfl
  obtain ⟨s, hs⟩ := wk_entW hD hp k 3 ⟨#[]⟩ [] 0 hk (by simp; omega) (by omega) (by omega)
  unfold wlkL wlkE wlkR
  rw [e1, e2, hs, if_pos rfl, if_pos rfl, if_pos rfl]
  exact ⟨rfl, rfl⟩
def fndW (D : List Int) (n : ByteArray) (x : Ent) : Bool := decide (x.nm = n) && decide (bsI x.dat = bsI D)
theorem any_outW (k : Nat) (hk : k ≤ 3) : (outW D 3 k ⟨#[]⟩).any (fndW D (nmW k)) = decide (k ≤ 2) := by
  have t : ∀ (n m : ByteArray) (d : List Int), decide (n = m) = false → fndW D m ⟨n, d⟩ = false := fun n m d h => by unfold fndW; rw [h]; rfl
  have u : ∀ (n m : ByteArray), decide (n = m) = true → fndW D m ⟨n, D⟩ = true := fun n m h => by unfold fndW; rw [h]; simp
  match k, hk with
  | 0, _ =>
    show (fndW D _ _ || false) = true
    rw [u _ _ (by decide)]; rfl
  | 1, _ =>
    show (fndW D _ _ || (fndW D _ _ || (fndW D _ _ || false))) = true
    rw [u _ _ (by decide)]; simp
  | 2, _ =>
    show (fndW D _ _ || (fndW D _ _ || (fndW D _ _ || (fndW D _ _ || (fndW D _ _ || false))))) = true
    rw [u _ _ (by decide)]; simp
  | 3, _ =>
    show (fndW D _ _ || (fndW D _ _ || (fndW D _ _ || (fndW D _ _ || (fndW D _ _ || (fndW D _ _ || false)))))) = false
    rw [t _ _ _ (by decide), t _ _ _ (by decide), t _ _ _ (by decide), t _ _ _ (by decide), t _ _ _ (by decide), t _ _ _ (by decide)]; rfl
theorem and3 (x : Int) : 0 ≤ bits .and .i64 x 3 ∧ bits .and .i64 x 3 ≤ 3 := by
  have h0 : bits .and .i64 x 3 = IntKind.i64.wrap ((BitVec.ofInt 64 x &&& BitVec.ofInt 64 3).toNat : Int) := rfl
  have h1 : (BitVec.ofInt 64 x &&& BitVec.ofInt 64 3).toNat ≤ 3 := by
    rw [BitVec.toNat_and]
    exact Nat.le_trans Nat.and_le_right (by decide)
  rw [h0, Go.IntWalk.i64_in _ (by omega)]
  omega
end
theorem walks_il (tape : List Int) (deep : Int) : ILt 12 [lv tape, iv deep] := (lawWalks_V tape deep).2 (by
  have ha := and3 deep
  (delta lawWalks_V; dsimp only [mkV])
  generalize bits BinOp.and IntKind.i64 deep 3 = c at *
  (repeat' (first | with_reducible refine brn_nd (fun h => ?_) (fun h => ?_) | with_reducible refine brn_d (fun h => ?_) (fun h => ?_) | with_reducible refine brn_nn (fun h => ?_) (fun h => ?_) | with_reducible refine brn_nb (fun h => ?_) (fun h => ?_) | with_reducible refine Brn.mk (fun h => ?_) (fun h => ?_) | with_reducible refine Chk.mk ?_ ?_ | with_reducible refine Bth.mk ?_ ?_ | with_reducible refine Fct.mk (fun hf => ?_)))
  · omega
  intro n hn
  (repeat' (first | with_reducible refine brn_nd (fun h => ?_) (fun h => ?_) | with_reducible refine brn_d (fun h => ?_) (fun h => ?_) | with_reducible refine brn_nn (fun h => ?_) (fun h => ?_) | with_reducible refine brn_nb (fun h => ?_) (fun h => ?_) | with_reducible refine Brn.mk (fun h => ?_) (fun h => ?_) | with_reducible refine Chk.mk ?_ ?_ | with_reducible refine Bth.mk ?_ ?_ | with_reducible refine Fct.mk (fun hf => ?_)))
  · omega
  rintro z ⟨z1, z2⟩
  have hp := parS_inner z
  have hD : ([105, 110, 110, 101, 114, 32] ++ z).length ≤ 15 := by simp; omega
  generalize hDd : [105, 110, 110, 101, 114, 32] ++ z = D at *
  have hS : ∀ k, k ≤ 3 → fmtS (entW D k) = fmtB (entW D k) := fun k hk => by unfold fmtS; rw [if_pos (entW_val hD k hk)]
  (repeat' (first | with_reducible refine brn_nd (fun h => ?_) (fun h => ?_) | with_reducible refine brn_d (fun h => ?_) (fun h => ?_) | with_reducible refine brn_nn (fun h => ?_) (fun h => ?_) | with_reducible refine brn_nb (fun h => ?_) (fun h => ?_) | with_reducible refine Brn.mk (fun h => ?_) (fun h => ?_) | with_reducible refine Chk.mk ?_ ?_ | with_reducible refine Bth.mk ?_ ?_ | with_reducible refine Fct.mk (fun hf => ?_)))
  · have : ([105, 110, 110, 101, 114, 32] ++ z).length = [105, 110, 110, 101, 114, 32].length + z.length := List.length_append
    rw [hDd] at this; omega
  · unfold InI; omega
  · exact entW_small hD 0 (by omega)
  refine ⟨fun x1 x2 x3 x4 => ∃ k : Nat, k ≤ 3 ∧ x4 = (k : Int) + 1 ∧ x4 ≤ 1 + c ∧ x1 = nmW k ∧ x2 = fmtB (entW D k) ∧ x3 = 0, fun _ _ _ x4 => (1 + c - x4).toNat, ⟨0, by omega, rfl, by omega, rfl, hS 0 (by omega), entW_val hD 0 (by omega)⟩, ?_⟩
  rintro x1 x2 x3 x4 ⟨k, k1, k2, k3, rfl, rfl, rfl⟩
  have hks := nmW_size k
  obtain ⟨w1, w2⟩ := wlk_entW hD hp k k1
  have hany := any_outW (D := D) k k1
  have hlen := entW_len hD k
  rw [w1, w2]
  generalize outW D 3 k ⟨#[]⟩ = L at *
  (repeat' (first | with_reducible refine brn_nd (fun h => ?_) (fun h => ?_) | with_reducible refine brn_d (fun h => ?_) (fun h => ?_) | with_reducible refine brn_nn (fun h => ?_) (fun h => ?_) | with_reducible refine brn_nb (fun h => ?_) (fun h => ?_) | with_reducible refine Brn.mk (fun h => ?_) (fun h => ?_) | with_reducible refine Chk.mk ?_ ?_ | with_reducible refine Bth.mk ?_ ?_ | with_reducible refine Fct.mk (fun hf => ?_)))
  · exact absurd rfl ‹¬ (0 : Int) = 0›
  · have : ByteArray.size ⟨#[121, 33]⟩ = 2 := rfl
    omega
  · exact entW_small hD (k + 1) (by omega)
  · unfold InI; omega
  · exact ⟨⟨k + 1, by omega, by omega, by omega, rfl, hS (k + 1) (by omega), entW_val hD (k + 1) (by omega)⟩, by show (1 + c - (x4 + 1)).toNat < (1 + c - x4).toNat; omega⟩
  · omega
  · exact absurd rfl ‹¬ (0 : Int) = 0›
  · exact absurd rfl ‹¬ (0 : Int) = 0›
  refine ⟨fun b i => 0 ≤ i ∧ i ≤ L.length ∧ b = (L.take i.toNat).any (fndW D (nmW k)), fun _ i => (L.length - i).toNat, ⟨by omega, by omega, rfl⟩, ?_⟩
  rintro b i ⟨i1, i2, i3⟩
  have hsn : i < L.length → (L.take (i + 1).toNat).any (fndW D (nmW k)) = (b || fndW D (nmW k) (gt L i)) := fun h => by
    obtain ⟨m, rfl⟩ := Int.eq_ofNat_of_zero_le i1
    rw [show ((m : Int) + 1).toNat = m + 1 from rfl, take_snoc (by omega), List.any_append, i3]
    simp
  (repeat' (first | with_reducible refine brn_nd (fun h => ?_) (fun h => ?_) | with_reducible refine brn_d (fun h => ?_) (fun h => ?_) | with_reducible refine brn_nn (fun h => ?_) (fun h => ?_) | with_reducible refine brn_nb (fun h => ?_) (fun h => ?_) | with_reducible refine Brn.mk (fun h => ?_) (fun h => ?_) | with_reducible refine Chk.mk ?_ ?_ | with_reducible refine Bth.mk ?_ ?_ | with_reducible refine Fct.mk (fun hf => ?_)))
  all_goals (try first | omega | (unfold InI; omega))
  · have hi : i < L.length := by assumption
    have hb : b = true := by assumption
    exact ⟨⟨by omega, by omega, by rw [hsn hi, hb]; rfl⟩, by show ((L.length : Int) - (i + 1)).toNat < (L.length - i).toNat; omega⟩
  · have hi : i < L.length := by assumption
    have hb : b = false := by assumption
    have hn : (gt L i).nm = nmW k := by assumption
    exact ⟨⟨by omega, by omega, by rw [hsn hi, hb, fndW, decide_eq_true hn, Bool.false_or, Bool.true_and]⟩, by show ((L.length : Int) - (i + 1)).toNat < (L.length - i).toNat; omega⟩
  · have hi : i < L.length := by assumption
    have hb : b = false := by assumption
    have hn : ¬ (gt L i).nm = nmW k := by assumption
    exact ⟨⟨by omega, by omega, by rw [hsn hi, hb, fndW, decide_eq_false hn, Bool.false_or, Bool.false_and]⟩, by show ((L.length : Int) - (i + 1)).toNat < (L.length - i).toNat; omega⟩
  · rfl
  · exfalso
    have hnx : ¬ i < L.length := by assumption
    have hb : (b == decide (1 + c ≤ 3)) = false := by assumption
    rw [i3, show i.toNat = L.length by omega, List.take_length, hany, show decide (k ≤ 2) = decide (1 + c ≤ 3) from decide_eq_decide.2 (by omega)] at hb
    simp at hb)
end Go.Proofs.Ytbnmcdnkeipdhaa
