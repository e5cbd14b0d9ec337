/- Arguments opened: strings, numbers, deltas. -/
import Derived.Test.YtiioebpmfjipeaaRows
import Derived.Test.YtiioebpmfjipeaaDeSame
import Derived.ProofKit
import Derived.OpenShut
import Derived.ShutString
import Derived.ChangeOld
import Derived.Below
import Derived.SliceStrings
import Derived.Deep.Slices
import Derived.Deep.Fields
import Derived.ChangeSame
namespace Go.Proofs.Ytiioebpmfjipeaa
open Go.ChangeShapes Go.WideShapes Go.ChangeAt Go.RowKit Go.Deep
open Go.ChangeMaps (open_string shut_string)

theorem rowOwn : ownKnob Try.prog.godebug = none := by kernel_rfl
theorem rowLaidOut : laidOutB Try.prog = true := by kernel_rfl
/-- Elements gathered from what stands at each of them. -/
theorem elems_gather {α : Type} {sz : Nat} {R : List Value → α → Prop} {w : World} {a : Addr} : ∀ (n : Nat),
    (∀ i, i < n → ∃ us x, R us x ∧ us.length = sz ∧ ∀ j u, us[j]? = some u → w.cell? (a.add (i * sz + j)) = some u) →
    ∃ (xs : List α) (vs : List Value), xs.length = n ∧ Elems sz R xs vs ∧ ∀ j u, vs[j]? = some u → w.cell? (a.add j) = some u
  | 0, _ => ⟨[], [], rfl, rfl, fun j u h => by simp at h⟩
  | n + 1, h => by
    obtain ⟨xs, vs, h1, h2, h3⟩ := elems_gather n (fun i hi => h i (by omega))
    obtain ⟨us, x, g1, g2, g3⟩ := h n (by omega)
    refine ⟨xs ++ [x], vs ++ us, by simp [h1], h2.append (Elems.one g1 g2), fun j u hu => ?_⟩
    have hl := h2.length
    rw [h1] at hl
    by_cases hj : j < vs.length
    · rw [List.getElem?_append_left hj] at hu
      exact h3 j u hu
    · rw [List.getElem?_append_right (by omega)] at hu
      have := g3 _ _ hu
      rwa [show n * sz + (j - vs.length) = j by omega] at this

theorem wf64 {z : Int} (h : (Lit.int .i64 z).wf = true) : -9223372036854775808 ≤ z ∧ z ≤ 9223372036854775807 := by
  simp only [Lit.wf, Bool.and_eq_true, decide_eq_true_eq] at h
  exact h
theorem wf8 {z : Int} (h : (Lit.int .u8 z).wf = true) : 0 ≤ z ∧ z ≤ 255 := by
  simp only [Lit.wf, Bool.and_eq_true, decide_eq_true_eq] at h
  exact h
end Go.Proofs.Ytiioebpmfjipeaa
