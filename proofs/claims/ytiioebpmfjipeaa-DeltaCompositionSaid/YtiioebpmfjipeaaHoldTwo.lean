/- A region that draws its order, where two operations may come up next. -/
import Derived.Test.YtiioebpmfjipeaaHold
namespace Go.Proofs.Ytiioebpmfjipeaa

section
variable {P : Program} {ops : Array Oper} {Q : Exit → Act → World → Prop} {md : Region.Mode} {S : World → Prop} {z : Nat}
/-- Either may come up next, ahead of z. -/
theorem AtS.two {i j : Nat} {oi oj : Oper} {f : Nat} {listed : Array Bool} {a : Act} {w : World} (hi : ops[i]? = some oi) (hj : ops[j]? = some oj) (hr : Region.ready md ops listed = [i, j]) (hwi : Region.wanted oi (yielded ops a.tmps) = true) (hwj : Region.wanted oj (yielded ops a.tmps) = true)
    (h1 : ∀ K : Act → World → Prop, (∀ a' w', S w' → AtS P md ops Q S z f (listed.setIfInBounds i true) a' w' → K a' w') → Oper.wp P oi a w K Q)
    (h2 : ∀ K : Act → World → Prop, (∀ a' w', S w' → AtS P md ops Q S z f (listed.setIfInBounds j true) a' w' → K a' w') → Oper.wp P oj a w K Q) : AtS P md ops Q S z (f + 1) listed a w := fun hcl hk => by
  refine ⟨fun h0 => (by rw [hr] at h0; cases h0), fun k hk' => ?_⟩
  have hk2 := hk'
  rw [hr] at hk'
  rcases List.mem_cons.1 hk' with rfl | hk'
  · refine wpOp_step hi fun K hK => ?_
    rw [if_pos hwi]
    exact h1 K fun a' w' hS h' => hK a' w' ⟨.inr hS, h' (hcl.set hk2) (.inr hS)⟩
  · obtain rfl : k = j := by simpa using hk'
    refine wpOp_step hj fun K hK => ?_
    rw [if_pos hwj]
    exact h2 K fun a' w' hS h' => hK a' w' ⟨.inr hS, h' (hcl.set hk2) (.inr hS)⟩
end
theorem of_if {c : Prop} [Decidable c] {X : Prop} (hc : c) (h : if c then X else False) : X := by rw [if_pos hc] at h; exact h
end Go.Proofs.Ytiioebpmfjipeaa
