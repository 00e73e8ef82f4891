/- Plain mathematics of the fingerprint: Mix is one to one, and what follows for short texts. -/
namespace Go.Proofs.Ytbfjfcengmkgmaa
namespace Fp

def mixB (x : BitVec 64) : BitVec 64 :=
  let a := (x ^^^ (x >>> 30)) * 13787848793156543929#64
  let b := (a ^^^ (a >>> 27)) * 10723151780598845931#64
  b ^^^ (b >>> 31)

theorem xs_inj (s : Nat) (hs : 0 < s) (x y : BitVec 64) (h : x ^^^ (x >>> s) = y ^^^ (y >>> s)) : x = y := by
  have hd : (x ^^^ y) = (x ^^^ y) >>> s := by
    rw [BitVec.ushiftRight_xor_distrib]
    have h2 : x ^^^ (x >>> s) ^^^ (y ^^^ (x >>> s)) = y ^^^ (y >>> s) ^^^ (y ^^^ (x >>> s)) := by rw [h]
    have e1 : x ^^^ (x >>> s) ^^^ (y ^^^ (x >>> s)) = x ^^^ y := by
      rw [BitVec.xor_comm y, ← BitVec.xor_assoc, BitVec.xor_assoc x, BitVec.xor_self, BitVec.xor_zero]
    have e2 : y ^^^ (y >>> s) ^^^ (y ^^^ (x >>> s)) = (x >>> s) ^^^ (y >>> s) := by
      rw [BitVec.xor_comm y (y >>> s), BitVec.xor_assoc, ← BitVec.xor_assoc y y, BitVec.xor_self, BitVec.zero_xor, BitVec.xor_comm]
    rw [e1, e2] at h2; exact h2
  generalize hg : x ^^^ y = d at hd
  have hz : d = 0#64 := by
    have h1 := congrArg BitVec.toNat hd
    rw [BitVec.toNat_ushiftRight, Nat.shiftRight_eq_div_pow] at h1
    have h3 : d.toNat = 0 := by
      by_cases hp : d.toNat = 0
      · exact hp
      · exfalso
        have : d.toNat / 2 ^ s < d.toNat := Nat.div_lt_self (by omega) (Nat.one_lt_two_pow (by omega))
        omega
    exact BitVec.eq_of_toNat_eq h3
  rw [hz] at hg
  have : x ^^^ y ^^^ y = 0#64 ^^^ y := by rw [hg]
  rwa [BitVec.xor_assoc, BitVec.xor_self, BitVec.xor_zero, BitVec.zero_xor] at this

theorem mul_inj (c d : BitVec 64) (hcd : c * d = 1#64) (x y : BitVec 64) (h : x * c = y * c) : x = y := by
  have : x * c * d = y * c * d := by rw [h]
  rwa [BitVec.mul_assoc, BitVec.mul_assoc, hcd, BitVec.mul_one, BitVec.mul_one] at this

theorem mixB_inj (x y : BitVec 64) (h : mixB x = mixB y) : x = y := by
  have h1 := xs_inj 31 (by omega) _ _ h
  have h2 := mul_inj _ 3573116690164977347#64 (by decide) _ _ h1
  have h3 := xs_inj 27 (by omega) _ _ h2
  have h4 := mul_inj _ 10871156337175269513#64 (by decide) _ _ h3
  exact xs_inj 30 (by omega) _ _ h4

theorem xor_inj (c x y : BitVec 64) (h : x ^^^ c = y ^^^ c) : x = y := by
  have : x ^^^ c ^^^ c = y ^^^ c ^^^ c := by rw [h]
  rwa [BitVec.xor_assoc, BitVec.xor_assoc, BitVec.xor_self, BitVec.xor_zero, BitVec.xor_zero] at this

/-- The number that the first j of eight bytes make. -/
def wordN (l : List UInt8) : Nat → BitVec 64
  | 0 => 0
  | j + 1 => wordN l j ||| (BitVec.ofNat 64 (l.getD j 0).toNat <<< (8 * j))

def word (l : List UInt8) : BitVec 64 := wordN l l.length

def step (h w : BitVec 64) : BitVec 64 := mixB (h ^^^ w) + 11400714819323198485#64

/-- What k parts of eight bytes make of h. -/
def absN (h : BitVec 64) (l : List UInt8) : Nat → BitVec 64
  | 0 => h
  | k + 1 => step (absN h l k) (word ((l.drop (8 * k)).take 8))

def start (key kind : BitVec 64) (n : Nat) : BitVec 64 := mixB (mixB (mixB key ^^^ kind) ^^^ BitVec.ofNat 64 n)

/-- The fingerprint of at most 65536 bytes. -/
def ofB (key kind : BitVec 64) (l : List UInt8) : BitVec 64 := absN (start key kind l.length) l ((l.length + 7) / 8)

theorem step_inj (h g w : BitVec 64) (e : step h w = step g w) : h = g := by
  unfold step at e
  have e1 : mixB (h ^^^ w) = mixB (g ^^^ w) := by
    have := congrArg (· - 11400714819323198485#64) e
    simpa [BitVec.add_sub_cancel] using this
  exact xor_inj w _ _ (mixB_inj _ _ e1)

theorem step_inj_w (h v w : BitVec 64) (e : step h v = step h w) : v = w := by
  unfold step at e
  have e1 : mixB (h ^^^ v) = mixB (h ^^^ w) := by
    have := congrArg (· - 11400714819323198485#64) e
    simpa [BitVec.add_sub_cancel] using this
  have := mixB_inj _ _ e1
  rw [BitVec.xor_comm h v, BitVec.xor_comm h w] at this
  exact xor_inj h _ _ this

theorem absN_inj (l : List UInt8) (k : Nat) : ∀ h g, absN h l k = absN g l k → h = g := by
  induction k with
  | zero => intro h g e; exact e
  | succ k ih => intro h g e; exact ih _ _ (step_inj _ _ _ e)

theorem start_inj_key (k1 k2 kind : BitVec 64) (n : Nat) (h : start k1 kind n = start k2 kind n) : k1 = k2 :=
  mixB_inj _ _ (xor_inj _ _ _ (mixB_inj _ _ (xor_inj _ _ _ (mixB_inj _ _ h))))

theorem start_inj_kind (key a b : BitVec 64) (n : Nat) (h : start key a n = start key b n) : a = b := by
  have := mixB_inj _ _ (xor_inj _ _ _ (mixB_inj _ _ h))
  rw [BitVec.xor_comm _ a, BitVec.xor_comm _ b] at this
  exact xor_inj _ _ _ this

theorem ofB_key (k1 k2 kind : BitVec 64) (l : List UInt8) : ofB k1 kind l = ofB k2 kind l ↔ k1 = k2 :=
  ⟨fun h => start_inj_key _ _ _ _ (absN_inj _ _ _ _ h), fun h => by rw [h]⟩

theorem ofB_kind (key a b : BitVec 64) (l : List UInt8) : ofB key a l = ofB key b l ↔ a = b :=
  ⟨fun h => start_inj_kind _ _ _ _ (absN_inj _ _ _ _ h), fun h => by rw [h]⟩

theorem wordN_bit (l : List UInt8) (j i b : Nat) (hj : j ≤ 8) (hi : i < 8) (hb : b < 8) :
    (wordN l j).getLsbD (8 * i + b) = (decide (i < j) && (l.getD i 0).toNat.testBit b) := by
  induction j with
  | zero => simp [wordN]
  | succ j ih =>
    have ih := ih (by omega)
    rw [wordN, BitVec.getLsbD_or, ih, BitVec.getLsbD_shiftLeft, BitVec.getLsbD_ofNat]
    have hlt : 8 * i + b < 64 := by omega
    rcases Nat.lt_trichotomy i j with h | h | h
    · have h1 : 8 * i + b < 8 * j := by omega
      have h2 : i < j + 1 := by omega
      simp [h1, h, h2]
    · subst h
      have h1 : ¬ (8 * i + b < 8 * i) := by omega
      have h2 : 8 * i + b - 8 * i = b := by omega
      have h3 : b < 64 := by omega
      simp [h1, h2, h3, hlt]
    · have h1 : ¬ (8 * i + b < 8 * j) := by omega
      have h2 : ¬ i < j := by omega
      have h4 : ¬ i < j + 1 := by omega
      have h5 : (l.getD j 0).toNat.testBit (8 * i + b - 8 * j) = false := by
        apply Nat.testBit_lt_two_pow
        have := (l.getD j 0).toNat_lt
        calc (l.getD j 0).toNat < 2 ^ 8 := this
          _ ≤ 2 ^ (8 * i + b - 8 * j) := Nat.pow_le_pow_right (by omega) (by omega)
      simp only [h5]
      simp [h2, h4]

theorem word_inj (l m : List UInt8) (hl : l.length = m.length) (h8 : l.length ≤ 8) (h : word l = word m) : l = m := by
  apply List.ext_getElem hl
  intro i h1 h2
  apply UInt8.toNat.inj
  apply Nat.eq_of_testBit_eq
  intro b
  by_cases hb : b < 8
  · have e1 := wordN_bit l l.length i b h8 (by omega) hb
    have e2 := wordN_bit m m.length i b (by omega) (by omega) hb
    unfold word at h
    rw [h] at e1
    rw [e1] at e2
    simpa [h1, h2] using e2
  · have g : ∀ u : UInt8, u.toNat.testBit b = false := fun u => by
      apply Nat.testBit_lt_two_pow
      calc u.toNat < 2 ^ 8 := u.toNat_lt
        _ ≤ 2 ^ b := Nat.pow_le_pow_right (by omega) (by omega)
    rw [g, g]

theorem ofB_short (key kind : BitVec 64) (l m : List UInt8) (hl : l.length = m.length) (h1 : 1 ≤ l.length) (h8 : l.length ≤ 8) :
    ofB key kind l = ofB key kind m ↔ l = m := by
  constructor
  · intro h
    unfold ofB at h
    have e : (l.length + 7) / 8 = 1 := by omega
    rw [← hl, e] at h
    simp only [absN, Nat.mul_zero, List.drop_zero] at h
    have := step_inj_w _ _ _ h
    rw [List.take_of_length_le (by omega), List.take_of_length_le (by omega)] at this
    exact word_inj l m hl h8 this
  · intro h; rw [h]

end Fp
end Go.Proofs.Ytbfjfcengmkgmaa
