/- Arguments opened: lists of strings. Arguments opened: numbers, strings, disks, lists of numbers. Arguments opened: lists of texts, numbers, acts, runs. -/
import Derived.Test.YtockmhhiomdlkaaRows
import Derived.Test.YtockmhhiomdlkaaBase
import Derived.ProofKit
import Derived.OpenShut
import Derived.ShutString
import Derived.ChangeOld
import Derived.Below
import Derived.SliceStrings
import Derived.Test.YtockmhhiomdlkaaDkA
import Derived.Deep.Slices
import Derived.Deep.Fields
import Derived.ChangeSame
import Derived.Lib.SmallJoins
import Derived.Test.YtockmhhiomdlkaaJw
namespace Go.Proofs.Ytockmhhiomdlkaa
set_option linter.unusedSimpArgs false
set_option linter.unusedVariables false
open Go.ChangeShapes Go.WideShapes Go.ChangeAt Go.RowKit
open Go.ChangeMaps (open_string shut_string)

theorem rowOwn : ownKnob Try.prog.godebug = none := by kernel_rfl
theorem rowLaidOut : laidOutB Try.prog = true := by kernel_rfl

theorem elems_map {α : Type} (f : α → Value) (R : List Value → α → Prop) (h : ∀ x, R [f x] x) : ∀ (xs : List α), Elems 1 R xs (xs.map f)
  | [] => rfl
  | x :: xs => ⟨[f x], _, rfl, rfl, h x, elems_map f R h xs⟩

set_option maxRecDepth 100000 in
theorem strs_of_trod {H : Type} {enc : TypeId × Value → H} {W : World} {base : Nat} {spare : Nat → Bool} {held : Bool} {v : Value} {d : DataW H} {p : List MemPlace}
    (hv : Value.okWide Try.prog W .any base 22 v) (h : DataW.Trod enc Try.prog W 0 spare held 22 v d p) : ∃ xs, Strs W v xs := by
  obtain ⟨a0, len0, cap0, rfl⟩ := okWide_slice Try.underlying22 hv
  obtain ⟨fuel, hf⟩ := h
  rcases open_strings Try.underlying22 Try.underlying9 (by kernel_rfl) hf with ⟨hcs, _⟩ | ⟨a, len, cap, ss, hcs, _, hl, hm, hz, _, hcell, _⟩
  · simp [Value.cells] at hcs
    obtain ⟨rfl, rfl, rfl⟩ := hcs
    exact ⟨[], Sl.nil _ _ _⟩
  · simp [Value.cells] at hcs
    obtain ⟨rfl, rfl, rfl⟩ := hcs
    have hle : len0 ≤ ss.length := by rw [hz]; split <;> omega
    refine ⟨ss.take len0, some a, cap0, (ss.take len0).map .string, ?_, ?_, hm, CellsAt.of_kit ?_, elems_map _ _ (fun _ => rfl) _⟩
    · rw [List.length_take, Nat.min_eq_left hle]
    · rw [List.length_take, Nat.min_eq_left hle]; exact hl
    · intro j u hu
      rw [List.getElem?_map] at hu
      obtain ⟨x, hx, rfl⟩ := Option.map_eq_some_iff.1 hu
      rw [List.getElem?_take] at hx
      split at hx
      · have hlt := (List.getElem?_eq_some_iff.1 hx).1
        rw [hcell j hlt, List.getD_eq_getElem?_getD, hx]
        rfl
      · cases hx
end Go.Proofs.Ytockmhhiomdlkaa

namespace Go.Proofs.Ytockmhhiomdlkaa
set_option linter.unusedSimpArgs false
set_option linter.unusedVariables false
open Go.ChangeShapes Go.WideShapes Go.ChangeAt Go.RowKit Go.Deep

theorem wf64 {z : Int} (h : (Lit.int .i64 z).wf = true) : -9223372036854775808 ≤ z ∧ z ≤ 9223372036854775807 := by
  simp only [Lit.wf, Bool.and_eq_true, decide_eq_true_eq] at h
  exact h
theorem wf8 {z : Int} (h : (Lit.int .u8 z).wf = true) : 0 ≤ z ∧ z ≤ 255 := by
  simp only [Lit.wf, Bool.and_eq_true, decide_eq_true_eq] at h
  exact h

section
variable {H : Type} {enc : TypeId × Value → H} {W : World} {base : Nat} {spare : Nat → Bool} {held : Bool}
set_option maxRecDepth 100000 in
theorem strs_of_trod1 {n : Nat} {v : Value} {y : DataW H × List MemPlace}
    (hf : DataW.trod enc Try.prog W base spare held n 22 [v] = some y) : ∃ xs, Strs W v xs := by
  rcases open_strings Try.underlying22 Try.underlying9 (by kernel_rfl) hf with ⟨hcs, _⟩ | ⟨a, len, cap, ss, hcs, _, hl, hm, hz, _, hcell, _⟩
  · simp at hcs
    subst hcs
    exact ⟨[], Sl.nil _ _ _⟩
  · simp at hcs
    subst hcs
    have hle : len ≤ ss.length := by rw [hz]; split <;> omega
    refine ⟨ss.take len, some a, cap, (ss.take len).map .string, ?_, ?_, hm, CellsAt.of_kit ?_, elems_map _ _ (fun _ => rfl) _⟩
    · rw [List.length_take, Nat.min_eq_left hle]
    · rw [List.length_take, Nat.min_eq_left hle]; exact hl
    · intro j u hu
      rw [List.getElem?_map] at hu
      obtain ⟨x, hx, rfl⟩ := Option.map_eq_some_iff.1 hu
      rw [List.getElem?_take] at hx
      split at hx
      · have hlt := (List.getElem?_eq_some_iff.1 hx).1
        rw [hcell j hlt, List.getD_eq_getElem?_getD, hx]
        rfl
      · cases hx

/-- Elements gathered from what stands at each of them. -/
theorem elems_gather {α : Type} {sz : Nat} {R : List Value → α → Prop} {w : World} {a : Addr} : ∀ (n : Nat),
    (∀ i, i < n → ∃ us x, R us x ∧ us.length = sz ∧ ∀ j u, us[j]? = some u → w.cell? (a.add (i * sz + j)) = some u) →
    ∃ (xs : List α) (vs : List Value), xs.length = n ∧ Elems sz R xs vs ∧ ∀ j u, vs[j]? = some u → w.cell? (a.add j) = some u
  | 0, _ => ⟨[], [], rfl, rfl, fun j u h => by simp at h⟩
  | n + 1, h => by
    obtain ⟨xs, vs, h1, h2, h3⟩ := elems_gather n (fun i hi => h i (by omega))
    obtain ⟨us, x, g1, g2, g3⟩ := h n (by omega)
    refine ⟨xs ++ [x], vs ++ us, by simp [h1], h2.append (Elems.one g1 g2), fun j u hu => ?_⟩
    have hl := h2.length
    rw [h1] at hl
    by_cases hj : j < vs.length
    · rw [List.getElem?_append_left hj] at hu
      exact h3 j u hu
    · rw [List.getElem?_append_right (by omega)] at hu
      have := g3 _ _ hu
      rwa [show n * sz + (j - vs.length) = j by omega] at this

set_option maxRecDepth 100000 in
theorem wrs_of_trod1 {n : Nat} {v : Value} {y : DataW H × List MemPlace}
    (hf : DataW.trod enc Try.prog W base spare held n 23 [v] = some y) : ∃ xs, Wrs W v xs := by
  rcases open_slice Try.underlying23 hf with ⟨hcs, _⟩ | ⟨a, len, cap, m, n', D, Pl, hcs, _, hl, hm, hmm, _, hi⟩
  · simp at hcs
    subst hcs
    exact ⟨[], Sl.nil _ _ _⟩
  · simp at hcs
    subst hcs
    have hle : len ≤ m := by rw [hmm]; split <;> omega
    have hC : Try.prog.cellsOf 78 = 2 := by kernel_rfl
    have key : ∀ i, i < len → ∃ us x, WrR us x ∧ us.length = 2 ∧ ∀ j u, us[j]? = some u → W.cell? (a.add (i * 2 + j)) = some u := by
      intro i hil
      obtain ⟨cs', hc, ht'⟩ := hi i (by omega)
      rw [hC] at hc
      obtain ⟨ys, n', hn', hy, hlen, hyl, hg⟩ := DataW.trod_struct Try.underlying78 ht'
      obtain ⟨_, hcl, hat⟩ := World.cells?_some hc
      match cs', hcl with
      | [c0, c1], _ =>
        have f0 := hg 0 _ rfl
        have f1 := hg 1 _ rfl
        have k0 : Try.prog.cellsOf 3 = 1 := by kernel_rfl
        have k1 : Try.prog.cellsOf 9 = 1 := by kernel_rfl
        have l0 : 0 < ys.length := by rw [hyl]; decide
        have y0 : ys[0]? = some ys[0] := List.getElem?_eq_getElem l0
        have l1 : 1 < ys.length := by rw [hyl]; decide
        have y1 : ys[1]? = some ys[1] := List.getElem?_eq_getElem l1
        have e0 : DataW.trod enc Try.prog W base spare held n' 3 [c0] = some ys[0] := by simpa [k0, k1] using f0.trans y0
        have e1 : DataW.trod enc Try.prog W base spare held n' 9 [c1] = some ys[1] := by simpa [k0, k1] using f1.trans y1
        obtain ⟨z, hz, _, hwf⟩ := DataW.trod_int Try.underlying3 e0
        obtain ⟨s, hs, _⟩ := DataW.trod_string Try.underlying9 e1
        simp only [List.cons.injEq, and_true] at hz hs
        subst hz hs
        refine ⟨[.int .i64 z, .string s], (z, s), ⟨rfl, (wf64 hwf).1, (wf64 hwf).2⟩, rfl, fun j u hu => ?_⟩
        have hj : j < 2 := (List.getElem?_eq_some_iff.1 hu).1
        rw [← Go.Deep.add_add, hat j hj]
        exact hu
    obtain ⟨hs, vs, h1, h2, h3⟩ := elems_gather len key
    subst h1
    exact ⟨hs, some a, cap, vs, rfl, hl, hm, CellsAt.of_kit h3, h2⟩

set_option maxRecDepth 100000 in
theorem dsk_of_trod {v : Value} {d : DataW H} {p : List MemPlace}
    (hv : Value.okWide Try.prog W .any base 25 v) (h : DataW.Trod enc Try.prog W 0 spare held 25 v d p) : ∃ x, Dsk W v x := by
  obtain ⟨v0, v1, v2, v3, y0, y1, y2, y3, n, rfl, _, _, e0, e1, e2, e3⟩ := Joins.open_agg4 Try.underlying25 (by kernel_rfl) (by kernel_rfl) hv h
  obtain ⟨z, hz, _, hwf⟩ := DataW.trod_int Try.underlying3 e0
  obtain ⟨xs, hxs⟩ := strs_of_trod1 e1
  obtain ⟨ws, hws⟩ := wrs_of_trod1 e2
  obtain ⟨l, hl, _, hwl⟩ := DataW.trod_int Try.underlying3 e3
  simp only [List.cons.injEq, and_true] at hz hl
  subst hz hl
  exact ⟨⟨z, xs, ws, l⟩, v1, v2, rfl, hxs, hws, (wf64 hwf).1, (wf64 hwf).2, (wf64 hwl).1, (wf64 hwl).2⟩

set_option maxRecDepth 100000 in
theorem ints_of_trod {v : Value} {d : DataW H} {p : List MemPlace}
    (hv : Value.okWide Try.prog W .any base 47 v) (h : DataW.Trod enc Try.prog W 0 spare held 47 v d p) : ∃ x, Ints W v x := by
  obtain ⟨a0, len0, cap0, rfl⟩ := okWide_slice Try.underlying47 hv
  obtain ⟨fuel, hf⟩ := h
  rcases open_slice Try.underlying47 hf with ⟨hcs, _⟩ | ⟨a, len, cap, m, n', D, Pl, hcs, _, hl, hm, hmm, _, hi⟩
  · simp [Value.cells] at hcs
    obtain ⟨rfl, rfl, rfl⟩ := hcs
    exact ⟨[], Sl.nil _ _ _⟩
  · simp [Value.cells] at hcs
    obtain ⟨rfl, rfl, rfl⟩ := hcs
    have hle : len0 ≤ m := by rw [hmm]; split <;> omega
    have hC : Try.prog.cellsOf 3 = 1 := by kernel_rfl
    have key : ∀ i, i < len0 → ∃ us x, IntR us x ∧ us.length = 1 ∧ ∀ j u, us[j]? = some u → W.cell? (a.add (i * 1 + j)) = some u := by
      intro i hil
      obtain ⟨cs', hc, ht'⟩ := hi i (by omega)
      rw [hC] at hc
      obtain ⟨z, hz, _, hwf⟩ := DataW.trod_int Try.underlying3 ht'
      obtain ⟨_, hcl, hat⟩ := World.cells?_some hc
      subst hz
      refine ⟨[.int .i64 z], z, ⟨rfl, (wf64 hwf).1, (wf64 hwf).2⟩, rfl, fun j u hu => ?_⟩
      have hj : j < 1 := (List.getElem?_eq_some_iff.1 hu).1
      rw [← Go.Deep.add_add, hat j hj]
      exact hu
    obtain ⟨hs, vs, h1, h2, h3⟩ := elems_gather len0 key
    subst h1
    exact ⟨hs, some a, cap0, vs, rfl, hl, hm, CellsAt.of_kit h3, h2⟩
end
end Go.Proofs.Ytockmhhiomdlkaa

namespace Go.Proofs.Ytockmhhiomdlkaa
set_option linter.unusedSimpArgs false
set_option linter.unusedVariables false
open Go.ChangeShapes Go.WideShapes Go.ChangeAt Go.RowKit Go.Deep

section
variable {H : Type} {enc : TypeId × Value → H} {W : World} {base : Nat} {spare : Nat → Bool} {held : Bool}
set_option maxRecDepth 100000 in
theorem txs_of_trod {v : Value} {d : DataW H} {p : List MemPlace}
    (hv : Value.okWide Try.prog W .any base 22 v) (h : DataW.Trod enc Try.prog W 0 spare held 22 v d p) : ∃ x, Txs W v x := by
  obtain ⟨xs, hx⟩ := strs_of_trod hv h
  exact ⟨_, txs_of_strs hx⟩
set_option maxRecDepth 100000 in
theorem ints_of_trod1 {n : Nat} {v : Value} {y : DataW H × List MemPlace}
    (hf : DataW.trod enc Try.prog W base spare held n 47 [v] = some y) : ∃ x, Ints W v x := by
  rcases open_slice Try.underlying47 hf with ⟨hcs, _⟩ | ⟨a, len, cap, m, n', D, Pl, hcs, _, hl, hm, hmm, _, hi⟩
  · simp at hcs
    subst hcs
    exact ⟨[], Sl.nil _ _ _⟩
  · simp at hcs
    subst hcs
    have hle : len ≤ m := by rw [hmm]; split <;> omega
    have hC : Try.prog.cellsOf 3 = 1 := by kernel_rfl
    have key : ∀ i, i < len → ∃ us x, IntR us x ∧ us.length = 1 ∧ ∀ j u, us[j]? = some u → W.cell? (a.add (i * 1 + j)) = some u := by
      intro i hil
      obtain ⟨cs', hc, ht'⟩ := hi i (by omega)
      rw [hC] at hc
      obtain ⟨z, hz, _, hwf⟩ := DataW.trod_int Try.underlying3 ht'
      obtain ⟨_, hcl, hat⟩ := World.cells?_some hc
      subst hz
      refine ⟨[.int .i64 z], z, ⟨rfl, (wf64 hwf).1, (wf64 hwf).2⟩, rfl, fun j u hu => ?_⟩
      have hj : j < 1 := (List.getElem?_eq_some_iff.1 hu).1
      rw [← Go.Deep.add_add, hat j hj]
      exact hu
    obtain ⟨hs, vs, h1, h2, h3⟩ := elems_gather len key
    subst h1
    exact ⟨hs, some a, cap, vs, rfl, hl, hm, CellsAt.of_kit h3, h2⟩
set_option maxRecDepth 100000 in
theorem act_of_fields {n0 n1 n2 n3 : Nat} {c0 c1 c2 c3 : Value} {y0 y1 y2 y3 : DataW H × List MemPlace}
    (e0 : DataW.trod enc Try.prog W base spare held n0 3 [c0] = some y0) (e1 : DataW.trod enc Try.prog W base spare held n1 22 [c1] = some y1) (e2 : DataW.trod enc Try.prog W base spare held n2 3 [c2] = some y2) (e3 : DataW.trod enc Try.prog W base spare held n3 47 [c3] = some y3) :
    ∃ x, ActR W [c0, c1, c2, c3] x := by
  obtain ⟨z, hz, _, hwf⟩ := DataW.trod_int Try.underlying3 e0
  obtain ⟨xs, hxs⟩ := strs_of_trod1 e1
  obtain ⟨z2, hz2, _, hwf2⟩ := DataW.trod_int Try.underlying3 e2
  obtain ⟨is, his⟩ := ints_of_trod1 e3
  simp only [List.cons.injEq, and_true] at hz hz2
  subst hz hz2
  exact ⟨⟨z, xs.map bts, z2, is⟩, c1, c3, rfl, txs_of_strs hxs, his, wf64 hwf, wf64 hwf2⟩
set_option maxRecDepth 100000 in
theorem acts_of_trod1 {n : Nat} {v : Value} {y : DataW H × List MemPlace}
    (hf : DataW.trod enc Try.prog W base spare held n 40 [v] = some y) : ∃ x, Acts W v x := by
  rcases open_slice Try.underlying40 hf with ⟨hcs, _⟩ | ⟨a, len, cap, m, n', D, Pl, hcs, _, hl, hm, hmm, _, hi⟩
  · simp at hcs
    subst hcs
    exact ⟨[], Sl.nil _ _ _⟩
  · simp at hcs
    subst hcs
    have hle : len ≤ m := by rw [hmm]; split <;> omega
    have hC : Try.prog.cellsOf 49 = 4 := by kernel_rfl
    have key : ∀ i, i < len → ∃ us x, ActR W us x ∧ us.length = 4 ∧ ∀ j u, us[j]? = some u → W.cell? (a.add (i * 4 + j)) = some u := by
      intro i hil
      obtain ⟨cs', hc, ht'⟩ := hi i (by omega)
      rw [hC] at hc
      obtain ⟨ys, n', hn', hy, hlen, hyl, hg⟩ := DataW.trod_struct Try.underlying49 ht'
      obtain ⟨_, hcl, hat⟩ := World.cells?_some hc
      match cs', hcl with
      | [c0, c1, c2, c3], _ =>
        have f0 := hg 0 _ rfl
        have f1 := hg 1 _ rfl
        have f2 := hg 2 _ rfl
        have f3 := hg 3 _ rfl
        have k0 : Try.prog.cellsOf 3 = 1 := by kernel_rfl
        have k1 : Try.prog.cellsOf 22 = 1 := by kernel_rfl
        have k2 : Try.prog.cellsOf 47 = 1 := by kernel_rfl
        have l0 : 0 < ys.length := by rw [hyl]; decide
        have y0 : ys[0]? = some ys[0] := List.getElem?_eq_getElem l0
        have l1 : 1 < ys.length := by rw [hyl]; decide
        have y1 : ys[1]? = some ys[1] := List.getElem?_eq_getElem l1
        have l2 : 2 < ys.length := by rw [hyl]; decide
        have y2 : ys[2]? = some ys[2] := List.getElem?_eq_getElem l2
        have l3 : 3 < ys.length := by rw [hyl]; decide
        have y3 : ys[3]? = some ys[3] := List.getElem?_eq_getElem l3
        have e0 : DataW.trod enc Try.prog W base spare held n' 3 [c0] = some ys[0] := by simpa [k0, k1, k2] using f0.trans y0
        have e1 : DataW.trod enc Try.prog W base spare held n' 22 [c1] = some ys[1] := by simpa [k0, k1, k2] using f1.trans y1
        have e2 : DataW.trod enc Try.prog W base spare held n' 3 [c2] = some ys[2] := by simpa [k0, k1, k2] using f2.trans y2
        have e3 : DataW.trod enc Try.prog W base spare held n' 47 [c3] = some ys[3] := by simpa [k0, k1, k2] using f3.trans y3
        obtain ⟨x, hx⟩ := act_of_fields e0 e1 e2 e3
        refine ⟨[c0, c1, c2, c3], x, hx, rfl, fun j u hu => ?_⟩
        have hj : j < 4 := (List.getElem?_eq_some_iff.1 hu).1
        rw [← Go.Deep.add_add, hat j hj]
        exact hu
    obtain ⟨hs, vs, h1, h2, h3⟩ := elems_gather len key
    subst h1
    exact ⟨hs, some a, cap, vs, rfl, hl, hm, CellsAt.of_kit h3, h2⟩
/-- A run in memory: its sizes, its acts. -/
def RunP (W : World) (v : Value) (x : Int × Int × List ActJ) : Prop := ∃ B lc, v = .agg #[.int .i64 x.1, .int .i64 x.2.1, .slice B x.2.2.length lc] ∧ Acts W (.slice B x.2.2.length lc) x.2.2 ∧ (-9223372036854775808 ≤ x.1 ∧ x.1 ≤ 9223372036854775807) ∧ (-9223372036854775808 ≤ x.2.1 ∧ x.2.1 ≤ 9223372036854775807)
set_option maxRecDepth 100000 in
theorem run_of_trod {v : Value} {d : DataW H} {p : List MemPlace}
    (hv : Value.okWide Try.prog W .any base 42 v) (h : DataW.Trod enc Try.prog W 0 spare held 42 v d p) : ∃ x, RunP W v x := by
  obtain ⟨v0, v1, v2, y0, y1, y2, n, rfl, _, _, e0, e1, e2⟩ := Joins.open_agg3 Try.underlying42 (by kernel_rfl) (by kernel_rfl) hv h
  obtain ⟨z, hz, _, hwf⟩ := DataW.trod_int Try.underlying3 e0
  obtain ⟨z2, hz2, _, hwf2⟩ := DataW.trod_int Try.underlying3 e1
  obtain ⟨l, hl⟩ := acts_of_trod1 e2
  simp only [List.cons.injEq, and_true] at hz hz2
  subst hz hz2
  obtain ⟨B, lc, rfl, _, _⟩ := hl.form
  exact ⟨(z, z2, l), B, lc, rfl, hl, wf64 hwf, wf64 hwf2⟩
def ActQ (W : World) (v : Value) (a : ActJ) : Prop := ∃ rA rc iA ic, v = .agg #[.int .i64 a.kind, .slice rA a.recs.length rc, .int .i64 a.left, .slice iA a.ps.length ic] ∧ ActP W rA rc iA ic a
set_option maxRecDepth 100000 in
theorem act_of_trod {v : Value} {d : DataW H} {p : List MemPlace}
    (hv : Value.okWide Try.prog W .any base 49 v) (h : DataW.Trod enc Try.prog W 0 spare held 49 v d p) : ∃ x, ActQ W v x := by
  obtain ⟨v0, v1, v2, v3, y0, y1, y2, y3, n, rfl, _, _, e0, e1, e2, e3⟩ := Joins.open_agg4 Try.underlying49 (by kernel_rfl) (by kernel_rfl) hv h
  obtain ⟨x, vr, vp, e, h1, h2, h3, h4⟩ := act_of_fields e0 e1 e2 e3
  simp only [List.cons.injEq, and_true] at e
  obtain ⟨rfl, rfl, rfl, rfl⟩ := e
  obtain ⟨rA, rc, rfl, _, _⟩ := Txs.form h1
  obtain ⟨iA, ic, rfl, _, _⟩ := h2.form
  exact ⟨x, rA, rc, iA, ic, rfl, h1, h2, h3.1, h3.2, h4.1, h4.2⟩
end
end Go.Proofs.Ytockmhhiomdlkaa
