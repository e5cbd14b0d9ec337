/- Arguments opened: numbers, strings, disks, lists of numbers. -/
import Derived.Test.YtpihapkclnhklaaOpen
import Derived.Test.YtpihapkclnhklaaDkRef5
import Derived.Deep.Slices
import Derived.Deep.Fields
import Derived.ChangeSame
import Derived.Lib.SmallJoins
namespace Go.Proofs.Ytpihapkclnhklaa
open Go.ChangeShapes Go.WideShapes Go.ChangeAt Go.RowKit Go.Deep

theorem wf64 {z : Int} (h : (Lit.int .i64 z).wf = true) : -9223372036854775808 ≤ z ∧ z ≤ 9223372036854775807 := by
  simp only [Lit.wf, Bool.and_eq_true, decide_eq_true_eq] at h
  exact h
theorem wf8 {z : Int} (h : (Lit.int .u8 z).wf = true) : 0 ≤ z ∧ z ≤ 255 := by
  simp only [Lit.wf, Bool.and_eq_true, decide_eq_true_eq] at h
  exact h

section
variable {H : Type} {enc : TypeId × Value → H} {W : World} {base : Nat} {spare : Nat → Bool} {held : Bool}
theorem strs_of_trod1 {n : Nat} {v : Value} {y : DataW H × List MemPlace}
    (hf : DataW.trod enc Try.prog W base spare held n 23 [v] = some y) : ∃ xs, Strs W v xs := by
  rcases open_strings Try.underlying23 Try.underlying9 (by kernel_rfl) hf with ⟨hcs, _⟩ | ⟨a, len, cap, ss, hcs, _, hl, hm, hz, _, hcell, _⟩
  · simp at hcs
    subst hcs
    exact ⟨[], Sl.nil _ _ _⟩
  · simp at hcs
    subst hcs
    have hle : len ≤ ss.length := by rw [hz]; split <;> omega
    refine ⟨ss.take len, some a, cap, (ss.take len).map .string, ?_, ?_, hm, CellsAt.of_kit ?_, elems_map _ _ (fun _ => rfl) _⟩
    · rw [List.length_take, Nat.min_eq_left hle]
    · rw [List.length_take, Nat.min_eq_left hle]; exact hl
    · intro j u hu
      rw [List.getElem?_map] at hu
      obtain ⟨x, hx, rfl⟩ := Option.map_eq_some_iff.1 hu
      rw [List.getElem?_take] at hx
      split at hx
      · have hlt := (List.getElem?_eq_some_iff.1 hx).1
        rw [hcell j hlt, List.getD_eq_getElem?_getD, hx]
        rfl
      · cases hx

/-- Elements gathered from what stands at each of them. -/
theorem elems_gather {α : Type} {sz : Nat} {R : List Value → α → Prop} {w : World} {a : Addr} : ∀ (n : Nat),
    (∀ i, i < n → ∃ us x, R us x ∧ us.length = sz ∧ ∀ j u, us[j]? = some u → w.cell? (a.add (i * sz + j)) = some u) →
    ∃ (xs : List α) (vs : List Value), xs.length = n ∧ Elems sz R xs vs ∧ ∀ j u, vs[j]? = some u → w.cell? (a.add j) = some u
  | 0, _ => ⟨[], [], rfl, rfl, fun j u h => by simp at h⟩
  | n + 1, h => by
    obtain ⟨xs, vs, h1, h2, h3⟩ := elems_gather n (fun i hi => h i (by omega))
    obtain ⟨us, x, g1, g2, g3⟩ := h n (by omega)
    refine ⟨xs ++ [x], vs ++ us, by simp [h1], h2.append (Elems.one g1 g2), fun j u hu => ?_⟩
    have hl := h2.length
    rw [h1] at hl
    by_cases hj : j < vs.length
    · rw [List.getElem?_append_left hj] at hu
      exact h3 j u hu
    · rw [List.getElem?_append_right (by omega)] at hu
      have := g3 _ _ hu
      rwa [show n * sz + (j - vs.length) = j by omega] at this

theorem wrs_of_trod1 {n : Nat} {v : Value} {y : DataW H × List MemPlace}
    (hf : DataW.trod enc Try.prog W base spare held n 24 [v] = some y) : ∃ xs, Wrs W v xs := by
  rcases open_slice Try.underlying24 hf with ⟨hcs, _⟩ | ⟨a, len, cap, m, n', D, Pl, hcs, _, hl, hm, hmm, _, hi⟩
  · simp at hcs
    subst hcs
    exact ⟨[], Sl.nil _ _ _⟩
  · simp at hcs
    subst hcs
    have hle : len ≤ m := by rw [hmm]; split <;> omega
    have hC : Try.prog.cellsOf 45 = 2 := by kernel_rfl
    have key : ∀ i, i < len → ∃ us x, WrR us x ∧ us.length = 2 ∧ ∀ j u, us[j]? = some u → W.cell? (a.add (i * 2 + j)) = some u := by
      intro i hil
      obtain ⟨cs', hc, ht'⟩ := hi i (by omega)
      rw [hC] at hc
      obtain ⟨ys, n', hn', hy, hlen, hyl, hg⟩ := DataW.trod_struct Try.underlying45 ht'
      obtain ⟨_, hcl, hat⟩ := World.cells?_some hc
      match cs', hcl with
      | [c0, c1], _ =>
        have f0 := hg 0 _ rfl
        have f1 := hg 1 _ rfl
        have k0 : Try.prog.cellsOf 3 = 1 := by kernel_rfl
        have k1 : Try.prog.cellsOf 9 = 1 := by kernel_rfl
        have l0 : 0 < ys.length := by rw [hyl]; decide
        have y0 : ys[0]? = some ys[0] := List.getElem?_eq_getElem l0
        have l1 : 1 < ys.length := by rw [hyl]; decide
        have y1 : ys[1]? = some ys[1] := List.getElem?_eq_getElem l1
        have e0 : DataW.trod enc Try.prog W base spare held n' 3 [c0] = some ys[0] := by simpa [k0, k1] using f0.trans y0
        have e1 : DataW.trod enc Try.prog W base spare held n' 9 [c1] = some ys[1] := by simpa [k0, k1] using f1.trans y1
        obtain ⟨z, hz, _, hwf⟩ := DataW.trod_int Try.underlying3 e0
        obtain ⟨s, hs, _⟩ := DataW.trod_string Try.underlying9 e1
        simp only [List.cons.injEq, and_true] at hz hs
        subst hz hs
        refine ⟨[.int .i64 z, .string s], (z, s), ⟨rfl, (wf64 hwf).1, (wf64 hwf).2⟩, rfl, fun j u hu => ?_⟩
        have hj : j < 2 := (List.getElem?_eq_some_iff.1 hu).1
        rw [← Go.Deep.add_add, hat j hj]
        exact hu
    obtain ⟨hs, vs, h1, h2, h3⟩ := elems_gather len key
    subst h1
    exact ⟨hs, some a, cap, vs, rfl, hl, hm, CellsAt.of_kit h3, h2⟩

theorem dsk_of_trod {v : Value} {d : DataW H} {p : List MemPlace}
    (hv : Value.okWide Try.prog W .any base 26 v) (h : DataW.Trod enc Try.prog W 0 spare held 26 v d p) : ∃ x, Dsk W v x := by
  obtain ⟨v0, v1, v2, v3, y0, y1, y2, y3, n, rfl, _, _, e0, e1, e2, e3⟩ := Joins.open_agg4 Try.underlying26 (by kernel_rfl) (by kernel_rfl) hv h
  obtain ⟨z, hz, _, hwf⟩ := DataW.trod_int Try.underlying3 e0
  obtain ⟨xs, hxs⟩ := strs_of_trod1 e1
  obtain ⟨ws, hws⟩ := wrs_of_trod1 e2
  obtain ⟨l, hl, _, hwl⟩ := DataW.trod_int Try.underlying3 e3
  simp only [List.cons.injEq, and_true] at hz hl
  subst hz hl
  exact ⟨⟨z, xs, ws, l⟩, v1, v2, rfl, hxs, hws, (wf64 hwf).1, (wf64 hwf).2, (wf64 hwl).1, (wf64 hwl).2⟩

theorem ints_of_trod {v : Value} {d : DataW H} {p : List MemPlace}
    (hv : Value.okWide Try.prog W .any base 32 v) (h : DataW.Trod enc Try.prog W 0 spare held 32 v d p) : ∃ x, Ints W v x := by
  obtain ⟨a0, len0, cap0, rfl⟩ := okWide_slice Try.underlying32 hv
  obtain ⟨fuel, hf⟩ := h
  rcases open_slice Try.underlying32 hf with ⟨hcs, _⟩ | ⟨a, len, cap, m, n', D, Pl, hcs, _, hl, hm, hmm, _, hi⟩
  · simp [Value.cells] at hcs
    obtain ⟨rfl, rfl, rfl⟩ := hcs
    exact ⟨[], Sl.nil _ _ _⟩
  · simp [Value.cells] at hcs
    obtain ⟨rfl, rfl, rfl⟩ := hcs
    have hle : len0 ≤ m := by rw [hmm]; split <;> omega
    have hC : Try.prog.cellsOf 3 = 1 := by kernel_rfl
    have key : ∀ i, i < len0 → ∃ us x, IntR us x ∧ us.length = 1 ∧ ∀ j u, us[j]? = some u → W.cell? (a.add (i * 1 + j)) = some u := by
      intro i hil
      obtain ⟨cs', hc, ht'⟩ := hi i (by omega)
      rw [hC] at hc
      obtain ⟨z, hz, _, hwf⟩ := DataW.trod_int Try.underlying3 ht'
      obtain ⟨_, hcl, hat⟩ := World.cells?_some hc
      subst hz
      refine ⟨[.int .i64 z], z, ⟨rfl, (wf64 hwf).1, (wf64 hwf).2⟩, rfl, fun j u hu => ?_⟩
      have hj : j < 1 := (List.getElem?_eq_some_iff.1 hu).1
      rw [← Go.Deep.add_add, hat j hj]
      exact hu
    obtain ⟨hs, vs, h1, h2, h3⟩ := elems_gather len0 key
    subst h1
    exact ⟨hs, some a, cap0, vs, rfl, hl, hm, CellsAt.of_kit h3, h2⟩
end
end Go.Proofs.Ytpihapkclnhklaa
