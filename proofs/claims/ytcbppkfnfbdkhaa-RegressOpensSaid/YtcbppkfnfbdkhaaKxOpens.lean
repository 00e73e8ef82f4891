/- Regress: the law RegressOpens, shown. -/
import Derived.Test.YtcbppkfnfbdkhaaKvOpens
set_option linter.all false
set_option maxRecDepth 20000
set_option maxHeartbeats 4000000
namespace Go.Proofs.Ytcbppkfnfbdkhaa
open Go.RowKit Go.Shelf
theorem opens_il (tape : List Int) : ILt 4 [lv tape] := (lawOpens_V tape).2 (by
  (delta lawOpens_V; dsimp only [mkV])
  intro kinds hk
  refine Chk.mk (by omega) ?_
  intro n1 hn1
  refine Chk.mk (by omega) ?_
  intro l hl f hf
  have rl := hl.2.ok (by omega)
  obtain ⟨f1, f2⟩ := hf.2.ok hf.1
  have p2 : FndP (opnS l kinds f) := opnS_p hf.2.p
  have len2 := opnS_len l kinds f
  have f3 := p2.ok
  have f4 := p2.a (by omega)
  refine Chk.mk ⟨rl, f1, f2⟩ (Chk.mk ⟨rl, f3, f4⟩ (Chk.mk ⟨(opnS_again l kinds f).symm, f4.1, fun x hx => ⟨(f4.2 x hx).1, fun s hs => (f3.1 x hx).2.1 s hs⟩⟩ (Chk.mk ⟨f3, f4⟩ (Fct.mk fun _ => brn_d (fun _ => rfl) fun h1 => Chk.mk (by omega) (Fct.mk fun _ => brn_d (fun _ => rfl) fun h2 => ?_)))))
  have h3 : 0 < (f.length : Int) := by omega
  have hm : gt f 0 ∈ f := gt_mem (by omega) h3
  have hw := (hf.2.1 _ hm).1
  have hs := (hf.2.1 _ hm).2.2.2 (gt (gt f 0).wh 0) (gt_mem (by omega) (by omega))
  have hkd := (hf.2.2.1 0 (by omega)).1
  have hkk : (0 ≤ (gt f 0).kd ∧ (gt f 0).kd < kinds.length) := ⟨hkd, by omega⟩
  have hq := (hk.2 _ (gt_mem hkk.1 hkk.2)).1
  have hR : RulOk [xR ⟨#[101, 120, 97, 99, 116]⟩ (gt kinds (gt f 0).kd).nm (gt (gt f 0).wh 0).pl.pa (gt f 0).pr] := xR_ok (by decide) (by show (5 : Nat) ≤ _; omega) hq hs.2.2
  have hho : rho kinds (gt f 0) (gt (gt f 0).wh 0) (xR ⟨#[101, 120, 97, 99, 116]⟩ (gt kinds (gt f 0).kd).nm (gt (gt f 0).wh 0).pl.pa (gt f 0).pr) = true := xR_holds hq hs.2.2 hkk rfl rfl rfl
  obtain ⟨j1, j2⟩ := xR_judge hho
  refine Chk.mk ⟨f1, ⟨by omega, h3⟩, ⟨by omega, by omega⟩, hkk, hR⟩ (Chk.mk ⟨hR, by omega, by omega, fun s hs => ((hf.2.1 _ hm).2.2.2 s hs).2.1⟩ (brn_d (fun _ => brn_d (fun _ => rfl) fun h => absurd j1 h) fun h => absurd j2 h)))
end Go.Proofs.Ytcbppkfnfbdkhaa
