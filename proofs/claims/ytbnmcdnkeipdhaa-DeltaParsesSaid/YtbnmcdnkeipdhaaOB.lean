/- Apply and awake, as contracts. -/
import Derived.Test.YtbnmcdnkeipdhaaOA
import Derived.Test.YtbnmcdnkeipdhaaDc0
set_option linter.all false
set_option maxRecDepth 20000
set_option maxHeartbeats 2000000
namespace Go.Proofs.Ytbnmcdnkeipdhaa
open Go.RowKit Go.Shelf
def u8 (z : Int) : UInt8 := UInt8.ofNat z.toNat
def InB (l : List Int) : Prop := ∀ z ∈ l, 0 ≤ z ∧ z ≤ 255
theorem awake_ic : ICt 19 [] (fun v => v = bv true) := by
  refine ⟨enters_of Try.func19 rfl rfl, fun g w vals hβ hgi hsz hrep => ?_⟩
  have hv : vals = #[] := Array.eq_empty_of_size_eq_zero (by simpa using hsz)
  subst hv
  refine (Old.awake_any w).mono ?_
  rintro e w' ⟨rfl, hB⟩
  have hcell : ∀ b o, g.Rd b o → w'.cell? ⟨b, o, none⟩ = w.cell? ⟨b, o, none⟩ := fun b o hr => by
    obtain ⟨h1, _⟩ := hgi.rd b o hr
    exact hB.cell (p := ⟨b, o, none⟩) (by simpa using h1)
  refine ⟨_, bv true, g, rfl, rfl, rfl, .one (.d (.bool true)), ⟨fun _ _ h => h, fun _ _ h => .inl h, Keep.below hB fun k hk => .inr hk, fun tb htb => ?_⟩⟩
  obtain ⟨h1, h2⟩ := hgi.tape tb htb
  exact h2.keep ⟨fun _ _ h => h, hcell⟩ ((Keep.below hB (S := fun k => w.heap.size ≤ k) fun _ h => h).block tb (by omega))
end Go.Proofs.Ytbnmcdnkeipdhaa
