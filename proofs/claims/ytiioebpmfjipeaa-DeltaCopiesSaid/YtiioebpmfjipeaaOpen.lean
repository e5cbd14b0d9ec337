/- Arguments opened: strings, numbers, deltas. -/
import Derived.Test.YtiioebpmfjipeaaRows
import Derived.Test.YtiioebpmfjipeaaDeCheck
import Derived.ProofKit
import Derived.OpenShut
import Derived.ShutString
import Derived.ChangeOld
import Derived.Below
import Derived.SliceStrings
import Derived.Deep.Slices
import Derived.Deep.Fields
import Derived.ChangeSame
namespace Go.Proofs.Ytiioebpmfjipeaa
open Go.ChangeShapes Go.WideShapes Go.ChangeAt Go.RowKit Go.Deep
open Go.ChangeMaps (open_string shut_string)

theorem rowOwn : ownKnob Try.prog.godebug = none := by kernel_rfl
theorem rowLaidOut : laidOutB Try.prog = true := by kernel_rfl
/-- Elements gathered from what stands at each of them. -/
theorem elems_gather {α : Type} {sz : Nat} {R : List Value → α → Prop} {w : World} {a : Addr} : ∀ (n : Nat),
    (∀ i, i < n → ∃ us x, R us x ∧ us.length = sz ∧ ∀ j u, us[j]? = some u → w.cell? (a.add (i * sz + j)) = some u) →
    ∃ (xs : List α) (vs : List Value), xs.length = n ∧ Elems sz R xs vs ∧ ∀ j u, vs[j]? = some u → w.cell? (a.add j) = some u
  | 0, _ => ⟨[], [], rfl, rfl, fun j u h => by simp at h⟩
  | n + 1, h => by
    obtain ⟨xs, vs, h1, h2, h3⟩ := elems_gather n (fun i hi => h i (by omega))
    obtain ⟨us, x, g1, g2, g3⟩ := h n (by omega)
    refine ⟨xs ++ [x], vs ++ us, by simp [h1], h2.append (Elems.one g1 g2), fun j u hu => ?_⟩
    have hl := h2.length
    rw [h1] at hl
    by_cases hj : j < vs.length
    · rw [List.getElem?_append_left hj] at hu
      exact h3 j u hu
    · rw [List.getElem?_append_right (by omega)] at hu
      have := g3 _ _ hu
      rwa [show n * sz + (j - vs.length) = j by omega] at this

theorem wf64 {z : Int} (h : (Lit.int .i64 z).wf = true) : -9223372036854775808 ≤ z ∧ z ≤ 9223372036854775807 := by
  simp only [Lit.wf, Bool.and_eq_true, decide_eq_true_eq] at h
  exact h
theorem wf8 {z : Int} (h : (Lit.int .u8 z).wf = true) : 0 ≤ z ∧ z ≤ 255 := by
  simp only [Lit.wf, Bool.and_eq_true, decide_eq_true_eq] at h
  exact h
set_option maxRecDepth 100000 in
theorem dls_of_trod {H : Type} {enc : TypeId × Value → H} {W : World} {base : Nat} {spare : Nat → Bool} {held : Bool} {v : Value} {d : DataW H} {p : List MemPlace}
    (hv : Value.okWide Try.prog W .any base 24 v) (h : DataW.Trod enc Try.prog W 0 spare held 24 v d p) : ∃ L, Dls W v L ∧ ∀ x ∈ L, Int64 x.off ∧ Int64 x.len := by
  obtain ⟨a0, len0, cap0, rfl⟩ := okWide_slice Try.underlying24 hv
  obtain ⟨fuel, hf⟩ := h
  rcases open_slice Try.underlying24 hf with ⟨hcs, _⟩ | ⟨a, len, cap, m, n, D, Pl, hcs, _, hl, hm, hmm, _, hi⟩
  · simp [Value.cells] at hcs
    obtain ⟨rfl, rfl, rfl⟩ := hcs
    exact ⟨[], Sl.nil _ _ _, fun x hx => by simp at hx⟩
  · simp [Value.cells] at hcs
    obtain ⟨rfl, rfl, rfl⟩ := hcs
    have hle : len0 ≤ m := by rw [hmm]; split <;> omega
    have hC : Try.prog.cellsOf 28 = 3 := by kernel_rfl
    have key : ∀ i, i < len0 → ∃ (us : List Value) (x : DOp), (us = dC x ∧ Int64 x.off ∧ Int64 x.len) ∧ us.length = 3 ∧ ∀ j u, us[j]? = some u → W.cell? (a.add (i * 3 + j)) = some u := by
      intro i hil
      obtain ⟨cs', hc, ht'⟩ := hi i (by omega)
      rw [hC] at hc
      obtain ⟨ys, n', hn', hy, hlen, hyl, hg⟩ := DataW.trod_struct Try.underlying28 ht'
      obtain ⟨_, hcl, hat⟩ := World.cells?_some hc
      match cs', hcl with
      | [c0, c1, c2], _ =>
        have f0 := hg 0 _ rfl
        have f1 := hg 1 _ rfl
        have f2 := hg 2 _ rfl
        have k0 : Try.prog.cellsOf 3 = 1 := by kernel_rfl
        have k1 : Try.prog.cellsOf 9 = 1 := by kernel_rfl
        have l0 : 0 < ys.length := by rw [hyl]; decide
        have y0 : ys[0]? = some ys[0] := List.getElem?_eq_getElem l0
        have l1 : 1 < ys.length := by rw [hyl]; decide
        have y1 : ys[1]? = some ys[1] := List.getElem?_eq_getElem l1
        have l2 : 2 < ys.length := by rw [hyl]; decide
        have y2 : ys[2]? = some ys[2] := List.getElem?_eq_getElem l2
        have e0 : DataW.trod enc Try.prog W 0 spare held n' 3 [c0] = some ys[0] := by simpa [k0, k1] using f0.trans y0
        have e1 : DataW.trod enc Try.prog W 0 spare held n' 3 [c1] = some ys[1] := by simpa [k0, k1] using f1.trans y1
        have e2 : DataW.trod enc Try.prog W 0 spare held n' 9 [c2] = some ys[2] := by simpa [k0, k1] using f2.trans y2
        obtain ⟨z0, hz0, _, w0⟩ := DataW.trod_int Try.underlying3 e0
        obtain ⟨z1, hz1, _, w1⟩ := DataW.trod_int Try.underlying3 e1
        obtain ⟨z2, hz2, _, _⟩ := DataW.trod_string Try.underlying9 e2
        simp only [List.cons.injEq, and_true] at hz0 hz1 hz2
        subst hz0
        subst hz1
        subst hz2
        refine ⟨[.int .i64 z0, .int .i64 z1, .string z2], ⟨z0, z1, z2.data.toList⟩, ⟨by simp [dC, strB_of], wf64 w0, wf64 w1⟩, rfl, fun j u hu => ?_⟩
        have hj : j < 3 := (List.getElem?_eq_some_iff.1 hu).1
        rw [← Go.Deep.add_add, hat j hj]
        exact hu
    obtain ⟨hs, vs, h1, h2, h3⟩ := elems_gather len0 key
    subst h1
    refine ⟨hs, ⟨some a, cap0, vs, rfl, hl, hm, CellsAt.of_kit h3, h2.mono fun us x h => h.1⟩, fun x hx => ?_⟩
    obtain ⟨i, hi⟩ := List.mem_iff_getElem?.1 hx
    obtain ⟨us, hr, _⟩ := h2.get hi
    exact hr.2
end Go.Proofs.Ytiioebpmfjipeaa
