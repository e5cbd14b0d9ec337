/- Arguments opened: lists of operations, lists of strings. -/
import Derived.Test.YtpihapkclnhklaaDkOpen
import Derived.Test.YtpihapkclnhklaaDkActs
namespace Go.Proofs.Ytpihapkclnhklaa
open Go.ChangeShapes Go.WideShapes Go.ChangeAt Go.RowKit Go.Deep

section
variable {H : Type} {enc : TypeId × Value → H} {W : World} {base : Nat} {spare : Nat → Bool} {held : Bool}
theorem acts_of_trod {v : Value} {d : DataW H} {p : List MemPlace}
    (hv : Value.okWide Try.prog W .any base 47 v) (h : DataW.Trod enc Try.prog W 0 spare held 47 v d p) : ∃ x, Acts W v x := by
  obtain ⟨a0, len0, cap0, rfl⟩ := okWide_slice Try.underlying47 hv
  obtain ⟨fuel, hf⟩ := h
  rcases open_slice Try.underlying47 hf with ⟨hcs, _⟩ | ⟨a, len, cap, m, n', D, Pl, hcs, _, hl, hm, hmm, _, hi⟩
  · simp [Value.cells] at hcs
    obtain ⟨rfl, rfl, rfl⟩ := hcs
    exact ⟨[], Sl.nil _ _ _⟩
  · simp [Value.cells] at hcs
    obtain ⟨rfl, rfl, rfl⟩ := hcs
    have hle : len0 ≤ m := by rw [hmm]; split <;> omega
    have hC : Try.prog.cellsOf 50 = 3 := by kernel_rfl
    have key : ∀ i, i < len0 → ∃ us x, ActR us x ∧ us.length = 3 ∧ ∀ j u, us[j]? = some u → W.cell? (a.add (i * 3 + j)) = some u := by
      intro i hil
      obtain ⟨cs', hc, ht'⟩ := hi i (by omega)
      rw [hC] at hc
      obtain ⟨ys, n', hn', hy, hlen, hyl, hg⟩ := DataW.trod_struct Try.underlying50 ht'
      obtain ⟨_, hcl, hat⟩ := World.cells?_some hc
      match cs', hcl with
      | [c0, c1, c2], _ =>
        have f0 := hg 0 _ rfl
        have f1 := hg 1 _ rfl
        have f2 := hg 2 _ rfl
        have k0 : Try.prog.cellsOf 4 = 1 := by kernel_rfl
        have k1 : Try.prog.cellsOf 3 = 1 := by kernel_rfl
        have k2 : Try.prog.cellsOf 9 = 1 := by kernel_rfl
        have l0 : 0 < ys.length := by rw [hyl]; decide
        have y0 : ys[0]? = some ys[0] := List.getElem?_eq_getElem l0
        have l1 : 1 < ys.length := by rw [hyl]; decide
        have y1 : ys[1]? = some ys[1] := List.getElem?_eq_getElem l1
        have l2 : 2 < ys.length := by rw [hyl]; decide
        have y2 : ys[2]? = some ys[2] := List.getElem?_eq_getElem l2
        have e0 : DataW.trod enc Try.prog W 0 spare held n' 4 [c0] = some ys[0] := by simpa [k0, k1, k2] using f0.trans y0
        have e1 : DataW.trod enc Try.prog W 0 spare held n' 3 [c1] = some ys[1] := by simpa [k0, k1, k2] using f1.trans y1
        have e2 : DataW.trod enc Try.prog W 0 spare held n' 9 [c2] = some ys[2] := by simpa [k0, k1, k2] using f2.trans y2
        obtain ⟨sy, hb, _⟩ := DataW.trod_bool Try.underlying4 e0
        obtain ⟨z, hz, _, hwf⟩ := DataW.trod_int Try.underlying3 e1
        obtain ⟨s, hs, _⟩ := DataW.trod_string Try.underlying9 e2
        simp only [List.cons.injEq, and_true] at hb hz hs
        subst hb hz hs
        refine ⟨[.bool sy, .int .i64 z, .string s], (sy, z, s), ⟨rfl, (wf64 hwf).1, (wf64 hwf).2⟩, rfl, fun j u hu => ?_⟩
        have hj : j < 3 := (List.getElem?_eq_some_iff.1 hu).1
        rw [← Go.Deep.add_add, hat j hj]
        exact hu
    obtain ⟨hs, vs, h1, h2, h3⟩ := elems_gather len0 key
    subst h1
    exact ⟨hs, some a, cap0, vs, rfl, hl, hm, CellsAt.of_kit h3, h2⟩
end
end Go.Proofs.Ytpihapkclnhklaa
