/- slices.Compact of this program. -/
import Derived.Test.YtoflahjlnbligaaLb3
import Derived.Shelf.Slices.CompactI
set_option linter.all false
set_option maxRecDepth 100000
set_option maxHeartbeats 4000000
namespace Go.Proofs.Ytoflahjlnbligaa
open Go.RowKit Go.Shelf
section
variable {P : Program} {T : TypeId} {N : Nat} {w0 : Org} {g g' : Gh} {s : St} {a : Act} {w w' : World} {o : Oper} {τ : List TyI}
theorem Sim.turn (h : Sim P T N w0 g s a w) {r b : Nat} {vh : VH} (hl : live s.H r) (hb : g.β r = some b) (hk : Keep (fun k => k = b) w w') (hsz : w'.heap.size = w.heap.size) (hvh : Fut g.Rd g.Rd w w' → HeapOK P g w' r vh) : Sim P T N w0 g (s.hput r vh) a w' := by
  obtain ⟨b1, b2, b3⟩ := h.gi.bd r b hl hb
  have blk : ∀ k, k ≠ b → w'.heap[k]? = w.heap[k]? := fun k e => hk.block k e
  have hH : ∀ q, getH (s.hput r vh).H q = if r = q then vh else getH s.H q := fun q => hget_put _ _ _ _
  have lv : ∀ q, live (s.hput r vh).H q → live s.H q := fun q hq => by
    unfold live at hq ⊢
    rw [hH] at hq
    by_cases e : r = q
    · subst e; exact hl
    · rwa [if_neg e] at hq
  have hf : Fut g.Rd g.Rd w w' := ⟨fun _ _ h => h, fun b' o hb' => hk.cell (p := ⟨b', o, none⟩) fun e => (h.gi.rd b' o hb').2.2 r hl (by rw [hb]; exact congrArg some e.symm)⟩
  refine ⟨⟨fun r r' b h1 h2 h3 h4 => h.gi.inj r r' b (lv _ h1) (lv _ h2) h3 h4, fun q b' h1 h2 => by rw [hsz]; exact h.gi.bd q b' (lv _ h1) h2, fun b' o hr => ?_, ?_, fun tb htb => ?_, h.gi.org, h.gi.exs (fun _ _ h => h) fun c hc => ⟨blk c fun e => hc.2.2.2.2 r hl (by rw [hb, e]), hc.2.2.1, hc.2.2.2.1, fun q hq => hc.2.2.2.2 q (lv _ hq)⟩⟩, h.dn, h.nt, fun x => (h.hF x).move hf (fun _ h => h) fun _ _ => ⟨rfl, rfl⟩, fun q => ?_⟩
  · obtain ⟨a1, a2, a3⟩ := h.gi.rd b' o hr
    exact ⟨by rw [hsz]; exact a1, a2, fun q hq => a3 q (lv _ hq)⟩
  · exact h.gi.keep.trans (hk.mono fun k e => .inr (by rw [e]; exact b1))
  · obtain ⟨a1, a2⟩ := h.gi.tape tb htb
    exact ⟨by rw [hsz]; exact a1, a2.keep hf (blk tb fun e => b3 (by rw [← e]; exact htb))⟩
  · show HeapOK P g w' q (getH (s.hput r vh).H q)
    rw [hH]
    by_cases e : r = q
    · subst e; rw [if_pos rfl]; exact hvh hf
    · rw [if_neg e]
      refine (h.hH q).move hf (fun _ h => h) (fun _ _ => ⟨rfl, rfl⟩) (fun b' hl' hb' => blk b' fun e' => e ?_) fun _ _ h => h
      subst e'
      exact h.gi.inj r q _ hl hl' hb hb'
end
section
variable {k : Wk} {w0 : Org} {ops : Array Oper} {l : List Oper} {Q : St → Prop} {F : List (Nat × SV)} {H : List (Nat × VH)} {d t : Nat} {p : String} {af : Array Edge}
end
end Go.Proofs.Ytoflahjlnbligaa
