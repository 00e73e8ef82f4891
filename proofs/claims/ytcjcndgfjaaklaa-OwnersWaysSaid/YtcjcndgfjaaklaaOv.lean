/- Ways, as paths. -/
import Derived.Test.YtcjcndgfjaaklaaOp
set_option linter.all false
set_option maxRecDepth 20000
set_option maxHeartbeats 4000000
namespace Go.Proofs.Ytcjcndgfjaaklaa
open Go.RowKit Go.Shelf
/-- tl goes on from q, behind acc. -/
def Path (s : List Stw) (t : Int) : List Int → Int → List Int → Prop
  | [], q, acc => q = -1 ∨ q ∈ acc
  | x :: tl, q, acc => x = q ∧ ¬ q = -1 ∧ q ∉ acc ∧ Path s t tl (ofS s q t) (acc ++ [q])
theorem way_path {d : Dir} {s : List Stw} {p0 t : Int} (hk : knB d s p0 = true) : ∀ (n : Nat) (acc : List Int) (q : Int), WayJ d s p0 t acc q → n + acc.length = d.kinds.length + 1 → ∃ tl, wayN s t n acc q = acc ++ tl ∧ Path s t tl q acc := by
  intro n
  induction n with
  | zero => intro acc q hj hn; have := hj.len; omega
  | succ n ih =>
    intro acc q hj hn
    by_cases hs : q = -1 ∨ q ∈ acc
    · exact ⟨[], by simp [wayN, hs], hs⟩
    · have hs' := not_or.1 hs
      obtain ⟨tl, h1, h2⟩ := ih (acc ++ [q]) (ofS s q t) (hj.go (knB_iff.1 hk).1 hs'.1 hs'.2) (by simp; omega)
      exact ⟨q :: tl, by simp only [wayN, if_neg hs]; rw [h1]; simp, rfl, hs'.1, hs'.2, h2⟩
theorem path_way {s : List Stw} {t : Int} : ∀ (tl : List Int) (q : Int) (acc : List Int) (n : Nat), Path s t tl q acc → tl.length < n → wayN s t n acc q = acc ++ tl := by
  intro tl
  induction tl with
  | nil =>
    intro q acc n hp hn
    obtain ⟨m, rfl⟩ : ∃ m, n = m + 1 := ⟨n - 1, by omega⟩
    simp only [wayN]
    rw [if_pos (show q = -1 ∨ q ∈ acc from hp)]; simp
  | cons x tl ih =>
    intro q acc n hp hn
    obtain ⟨m, rfl⟩ : ∃ m, n = m + 1 := ⟨n - 1, by omega⟩
    obtain ⟨rfl, h1, h2, h3⟩ := hp
    simp only [wayN]
    rw [if_neg (by rintro (h | h); exact h1 h; exact h2 h), ih _ _ _ h3 (by simpa using hn)]
    simp
theorem path_of {d : Dir} {s : List Stw} {p t : Int} (hk : knB d s p = true) : Path s t (wayS d s p t) p [] := by
  obtain ⟨tl, h1, h2⟩ := way_path (t := t) hk (d.kinds.length + 1) [] p (WayJ.start hk) (by simp)
  unfold wayS
  rw [if_pos hk, h1]
  simpa using h2
/-- Where a path ends. -/
def lastQ (s : List Stw) (t : Int) : List Int → Int → Int
  | [], q => q
  | _ :: tl, q => lastQ s t tl (ofS s q t)
theorem path_less {s : List Stw} {t : Int} : ∀ (tl : List Int) (q a : Int) (acc : List Int), Path s t tl q (a :: acc) → lastQ s t tl q = -1 → Path s t tl q acc := by
  intro tl
  induction tl with
  | nil => intro q a acc _ h; exact .inl h
  | cons x tl ih =>
    rintro q a acc ⟨h1, h2, h3, h4⟩ hl
    exact ⟨h1, h2, fun h => h3 (by simp [h]), ih _ _ _ h4 hl⟩
theorem path_end {s : List Stw} {t : Int} : ∀ (tl : List Int) (q : Int) (acc : List Int), Path s t tl q acc → lastQ s t tl q = -1 ∨ lastQ s t tl q ∈ acc ++ tl := by
  intro tl
  induction tl with
  | nil => intro q acc h; have h : q = -1 ∨ q ∈ acc := h; simpa [lastQ] using h
  | cons x tl ih =>
    rintro q acc ⟨rfl, h2, h3, h4⟩
    have := ih _ _ h4
    simpa [lastQ] using this
theorem path_at {s : List Stw} {t : Int} : ∀ (tl : List Int) (q : Int) (acc : List Int), Path s t tl q acc → (∀ i : Nat, i + 1 < tl.length → ofS s (gt tl (i : Int)) t = gt tl ((i : Int) + 1)) ∧ (∀ i : Nat, i < tl.length → gt tl (i : Int) ∉ acc ++ tl.take i) ∧ (0 < tl.length → gt tl 0 = q ∧ ofS s (gt tl ((tl.length : Int) - 1)) t = lastQ s t tl q) := by
  intro tl
  induction tl with
  | nil => intro q acc _; simp
  | cons x tl ih =>
    rintro q acc ⟨rfl, h2, h3, h4⟩
    obtain ⟨a1, a2, a3⟩ := ih _ _ h4
    have g0 : gt (x :: tl) 0 = x := rfl
    have gs : ∀ i : Nat, gt (x :: tl) ((i : Int) + 1) = gt tl (i : Int) := fun i => by
      unfold gt
      have : ((i : Int) + 1).toNat = i + 1 := by omega
      rw [this]; simp
    refine ⟨fun i hi => ?_, fun i hi => ?_, fun _ => ⟨g0, ?_⟩⟩
    · cases i with
      | zero =>
        have := (a3 (by simpa using hi)).1
        have e := gs 0
        simp only [Int.natCast_zero] at e this ⊢
        rw [g0, e]; exact this.symm
      | succ i =>
        have := a1 i (by simpa using hi)
        have e2 := gs (i + 1)
        have e1 := gs i
        have c : ((i + 1 : Nat) : Int) = (i : Int) + 1 := by omega
        rw [e2, c, e1]; exact this
    · cases i with
      | zero => simpa [g0] using h3
      | succ i =>
        have := a2 i (by simpa using hi)
        have c : ((i + 1 : Nat) : Int) = (i : Int) + 1 := by omega
        rw [c, gs]
        simpa using this
    · by_cases ht : tl = []
      · subst ht; simp [lastQ, g0]
      · have hl : 0 < tl.length := List.length_pos_iff.2 ht
        have := (a3 hl).2
        have c : ((x :: tl).length : Int) - 1 = ((tl.length - 1 : Nat) : Int) + 1 := by simp; omega
        rw [c, gs]
        have c2 : ((tl.length - 1 : Nat) : Int) = (tl.length : Int) - 1 := by omega
        rw [c2]; exact this
theorem way_tail {d : Dir} {s : List Stw} {p t : Int} (hk : knB d s p = true) (hl : lastQ s t (wayS d s p t) p = -1) (h1 : 1 < (wayS d s p t).length) : wayS d s (gt (wayS d s p t) 1) t = (wayS d s p t).tail ∧ gt (wayS d s p t) 0 = p := by
  have hp := path_of (t := t) hk
  have hlen := wayN_len (d := d) (l := s) (p := p) (t := t)
  obtain ⟨W, hW⟩ : ∃ W, W = wayS d s p t := ⟨_, rfl⟩
  rw [← hW] at hp hl h1 hlen ⊢
  have hex : ∀ q ∈ W, d.ex q = true := fun q hq => way_ex (by rw [hW] at hq; exact hq)
  match W, hp, hl, h1, hlen, hex with
  | x :: y :: tl, hp, hl, h1, hlen, hex =>
    obtain ⟨rfl, h2, h3, h4⟩ := hp
    have h5 := path_less _ _ _ _ h4 hl
    have hy : y = ofS s x t := h4.1
    have hky : knB d s y = true := knB_iff.2 ⟨(knB_iff.1 hk).1, hex y (by simp)⟩
    have : gt (x :: y :: tl) 1 = y := rfl
    rw [this]
    refine ⟨?_, rfl⟩
    unfold wayS
    rw [if_pos hky]
    have := path_way (y :: tl) y [] (d.kinds.length + 1) (by rw [hy]; rw [hy] at h5; exact h5) (by simp at hlen ⊢; omega)
    simpa using this
end Go.Proofs.Ytcjcndgfjaaklaa
