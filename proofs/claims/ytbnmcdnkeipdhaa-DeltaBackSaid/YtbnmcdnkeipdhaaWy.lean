/- Loops that count up; what is known of a state. -/
import Derived.Test.YtbnmcdnkeipdhaaWz
set_option linter.all false
set_option maxRecDepth 20000
namespace Go.Proofs.Ytbnmcdnkeipdhaa
open Go.RowKit Go.Shelf
/-- Of the state s what a loop that counts in the slot idx keeps. -/
def rst (live lh : List Nat) (idx : Nat) (i : Int) (s : St) : St := ⟨(idx, .one (.d (.int .i64 i))) :: live.map (fun x => (x, getF s.F x)), lh.map fun r => (r, getH s.H r)⟩
theorem c_rng {k : Wk} {w0 : Org} {s : St} {Q : Exit → St → Prop} {c : Code} (n : Nat) (live lh : List Nat) (idx : Nat) (p : Nat → Prop) (hp : p 0) (h0 : Fits [] s (rst live lh idx 0 s))
    (round : ∀ i, i ≤ n → p i → wk k w0 c (kRound Q (fun s' => ∃ i', (i' ≤ n ∧ p i') ∧ n - i' < n - i ∧ ∃ vs', Fits vs' s' (rst live lh idx i' s))) (rst live lh idx i s)) : wk k w0 (.loop c) Q s :=
  c_loop (ι := Nat) (fun i => rst live lh idx i s) (fun i => i ≤ n ∧ p i) (fun i => n - i) [] 0 ⟨Nat.zero_le _, hp⟩ h0 fun i hi => round i hi.1 hi.2
/-- Likewise, with slots and lists that grow. -/
def rsta (live lh : List Nat) (idx : Nat) (i : Int) (F : List (Nat × SV)) (H : List (Nat × VH)) (s : St) : St := ⟨(idx, .one (.d (.int .i64 i))) :: (F ++ live.map (fun x => (x, getF s.F x))), H ++ lh.map fun r => (r, getH s.H r)⟩
theorem c_rngA {k : Wk} {w0 : Org} {s : St} {Q : Exit → St → Prop} {c : Code} (n : Nat) (live lh : List Nat) (idx : Nat) (p : Nat → Prop) (hp : p 0) (F : Nat → List (Nat × SV)) (H : Nat → List (Nat × VH)) (vs : List Nat) (h0 : Fits vs s (rsta live lh idx 0 (F 0) (H 0) s))
    (round : ∀ i, i ≤ n → p i → wk k w0 c (kRound Q (fun s' => ∃ i', (i' ≤ n ∧ p i') ∧ n - i' < n - i ∧ ∃ vs', Fits vs' s' (rsta live lh idx i' (F i') (H i') s))) (rsta live lh idx i (F i) (H i) s)) : wk k w0 (.loop c) Q s :=
  c_loop (ι := Nat) (fun i => rsta live lh idx i (F i) (H i) s) (fun i => i ≤ n ∧ p i) (fun i => n - i) vs 0 ⟨Nat.zero_le _, hp⟩ h0 fun i hi => round i hi.1 hi.2
/-- A loop that counts down. -/
theorem c_dn {k : Wk} {w0 : Org} {s : St} {Q : Exit → St → Prop} {c : Code} (m0 : Nat) (live lh : List Nat) (idx : Nat) (p : Nat → Prop) (hp : p m0) (h0 : Fits [] s (rst live lh idx m0 s))
    (round : ∀ m, p m → wk k w0 c (kRound Q (fun s' => ∃ m', p m' ∧ m' < m ∧ ∃ vs', Fits vs' s' (rst live lh idx m' s))) (rst live lh idx m s)) : wk k w0 (.loop c) Q s :=
  c_loop (ι := Nat) (fun i => rst live lh idx i s) p (fun i => i) [] m0 hp h0 round
/-- Forget. -/
theorem c_cut {k : Wk} {w0 : Org} {s : St} {Q : Exit → St → Prop} {c : Code} (s' : St) (h : Fits [] s s') (hq : wk k w0 c Q s') : wk k w0 c Q s := c_fits [] h hq
end Go.Proofs.Ytbnmcdnkeipdhaa
