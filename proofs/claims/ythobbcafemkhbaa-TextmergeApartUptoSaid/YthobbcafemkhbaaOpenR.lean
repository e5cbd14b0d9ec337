/- An argument opened: a list of regions. -/
import Derived.Test.YthobbcafemkhbaaOpen
import Derived.Test.YthobbcafemkhbaaTmMem
import Derived.Deep.Slices
import Derived.Deep.Fields
import Derived.ChangeSame
namespace Go.Proofs.Ythobbcafemkhbaa
open Go.ChangeShapes Go.WideShapes Go.ChangeAt Go.RowKit Go.Deep

theorem strs_of_trod1 {H : Type} {enc : TypeId × Value → H} {W : World} {base n : Nat} {spare : Nat → Bool} {held : Bool} {v : Value} {y : DataW H × List MemPlace}
    (hf : DataW.trod enc Try.prog W base spare held n 36 [v] = some y) : ∃ xs, Strs W v xs := by
  rcases open_strings Try.underlying36 Try.underlying9 (by kernel_rfl) hf with ⟨hcs, _⟩ | ⟨a, len, cap, ss, hcs, _, hl, hm, hz, _, hcell, _⟩
  · simp at hcs
    subst hcs
    exact ⟨[], Sl.nil _ _ _⟩
  · simp at hcs
    subst hcs
    have hle : len ≤ ss.length := by rw [hz]; split <;> omega
    refine ⟨ss.take len, some a, cap, (ss.take len).map .string, ?_, ?_, hm, CellsAt.of_kit ?_, elems_map _ _ (fun _ => rfl) _⟩
    · rw [List.length_take, Nat.min_eq_left hle]
    · rw [List.length_take, Nat.min_eq_left hle]; exact hl
    · intro j u hu
      rw [List.getElem?_map] at hu
      obtain ⟨x, hx, rfl⟩ := Option.map_eq_some_iff.1 hu
      rw [List.getElem?_take] at hx
      split at hx
      · have hlt := (List.getElem?_eq_some_iff.1 hx).1
        rw [hcell j hlt, List.getD_eq_getElem?_getD, hx]
        rfl
      · cases hx

/-- Elements gathered from what stands at each of them. -/
theorem elems_gather {α : Type} {sz : Nat} {R : List Value → α → Prop} {w : World} {a : Addr} : ∀ (n : Nat),
    (∀ i, i < n → ∃ us x, R us x ∧ us.length = sz ∧ ∀ j u, us[j]? = some u → w.cell? (a.add (i * sz + j)) = some u) →
    ∃ (xs : List α) (vs : List Value), xs.length = n ∧ Elems sz R xs vs ∧ ∀ j u, vs[j]? = some u → w.cell? (a.add j) = some u
  | 0, _ => ⟨[], [], rfl, rfl, fun j u h => by simp at h⟩
  | n + 1, h => by
    obtain ⟨xs, vs, h1, h2, h3⟩ := elems_gather n (fun i hi => h i (by omega))
    obtain ⟨us, x, g1, g2, g3⟩ := h n (by omega)
    refine ⟨xs ++ [x], vs ++ us, by simp [h1], h2.append (Elems.one g1 g2), fun j u hu => ?_⟩
    have hl := h2.length
    rw [h1] at hl
    by_cases hj : j < vs.length
    · rw [List.getElem?_append_left hj] at hu
      exact h3 j u hu
    · rw [List.getElem?_append_right (by omega)] at hu
      have := g3 _ _ hu
      rwa [show n * sz + (j - vs.length) = j by omega] at this

theorem wf64 {z : Int} (h : (Lit.int .i64 z).wf = true) : -9223372036854775808 ≤ z ∧ z ≤ 9223372036854775807 := by
  simp only [Lit.wf, Bool.and_eq_true, decide_eq_true_eq] at h
  exact h
set_option maxRecDepth 100000 in
theorem rgs_of_trod {H : Type} {enc : TypeId × Value → H} {W : World} {base : Nat} {spare : Nat → Bool} {held : Bool} {v : Value} {d : DataW H} {p : List MemPlace}
    (hv : Value.okWide Try.prog W .any base 24 v) (h : DataW.Trod enc Try.prog W 0 spare held 24 v d p) : ∃ L, Rgs W v L := by
  obtain ⟨a0, len0, cap0, rfl⟩ := okWide_slice Try.underlying24 hv
  obtain ⟨fuel, hf⟩ := h
  rcases open_slice Try.underlying24 hf with ⟨hcs, _⟩ | ⟨a, len, cap, m, n, D, Pl, hcs, _, hl, hm, hmm, _, hi⟩
  · simp [Value.cells] at hcs
    obtain ⟨rfl, rfl, rfl⟩ := hcs
    exact ⟨[], Sl.nil _ _ _⟩
  · simp [Value.cells] at hcs
    obtain ⟨rfl, rfl, rfl⟩ := hcs
    have hle : len0 ≤ m := by rw [hmm]; split <;> omega
    have hC : Try.prog.cellsOf 58 = 4 := by kernel_rfl
    have key : ∀ i, i < len0 → ∃ us x, RgR W us x ∧ us.length = 4 ∧ ∀ j u, us[j]? = some u → W.cell? (a.add (i * 4 + j)) = some u := by
      intro i hil
      obtain ⟨cs', hc, ht'⟩ := hi i (by omega)
      rw [hC] at hc
      obtain ⟨ys, n', hn', hy, hlen, hyl, hg⟩ := DataW.trod_struct Try.underlying58 ht'
      obtain ⟨_, hcl, hat⟩ := World.cells?_some hc
      match cs', hcl with
      | [c0, c1, c2, c3], _ =>
        have f0 := hg 0 _ rfl
        have f1 := hg 1 _ rfl
        have f2 := hg 2 _ rfl
        have f3 := hg 3 _ rfl
        have k0 : Try.prog.cellsOf 4 = 1 := by kernel_rfl
        have k1 : Try.prog.cellsOf 36 = 1 := by kernel_rfl
        have l0 : 0 < ys.length := by rw [hyl]; decide
        have y0 : ys[0]? = some ys[0] := List.getElem?_eq_getElem l0
        have l1 : 1 < ys.length := by rw [hyl]; decide
        have y1 : ys[1]? = some ys[1] := List.getElem?_eq_getElem l1
        have l2 : 2 < ys.length := by rw [hyl]; decide
        have y2 : ys[2]? = some ys[2] := List.getElem?_eq_getElem l2
        have l3 : 3 < ys.length := by rw [hyl]; decide
        have y3 : ys[3]? = some ys[3] := List.getElem?_eq_getElem l3
        have e0 : DataW.trod enc Try.prog W 0 spare held n' 4 [c0] = some ys[0] := by simpa [k0, k1] using f0.trans y0
        have e1 : DataW.trod enc Try.prog W 0 spare held n' 36 [c1] = some ys[1] := by simpa [k0, k1] using f1.trans y1
        have e2 : DataW.trod enc Try.prog W 0 spare held n' 36 [c2] = some ys[2] := by simpa [k0, k1] using f2.trans y2
        have e3 : DataW.trod enc Try.prog W 0 spare held n' 36 [c3] = some ys[3] := by simpa [k0, k1] using f3.trans y3
        obtain ⟨z, hz, _⟩ := DataW.trod_bool Try.underlying4 e0
        obtain ⟨xs, hxs⟩ := strs_of_trod1 e1
        obtain ⟨zs, hzs⟩ := strs_of_trod1 e2
        obtain ⟨rs, hrs⟩ := strs_of_trod1 e3
        simp only [List.cons.injEq, and_true] at hz
        subst hz
        refine ⟨[.bool z, c1, c2, c3], (z, xs, zs, rs), ⟨c1, c2, c3, rfl, hxs, hzs, hrs⟩, rfl, fun j u hu => ?_⟩
        have hj : j < 4 := (List.getElem?_eq_some_iff.1 hu).1
        rw [← Go.Deep.add_add, hat j hj]
        exact hu
    obtain ⟨hs, vs, h1, h2, h3⟩ := elems_gather len0 key
    subst h1
    exact ⟨hs, some a, cap0, vs, rfl, hl, hm, CellsAt.of_kit h3, h2⟩
end Go.Proofs.Ythobbcafemkhbaa
