/- Arguments opened: lists of strings. -/
import Derived.Test.YthobbcafemkhbaaRows
import Derived.Test.YthobbcafemkhbaaBase
import Derived.ProofKit
import Derived.OpenShut
import Derived.ShutString
import Derived.ChangeOld
import Derived.Below
import Derived.SliceStrings
namespace Go.Proofs.Ythobbcafemkhbaa
open Go.ChangeShapes Go.WideShapes Go.ChangeAt Go.RowKit
open Go.ChangeMaps (open_string shut_string)

theorem rowOwn : ownKnob Try.prog.godebug = none := by kernel_rfl
theorem rowLaidOut : laidOutB Try.prog = true := by kernel_rfl

theorem elems_map {α : Type} (f : α → Value) (R : List Value → α → Prop) (h : ∀ x, R [f x] x) : ∀ (xs : List α), Elems 1 R xs (xs.map f)
  | [] => rfl
  | x :: xs => ⟨[f x], _, rfl, rfl, h x, elems_map f R h xs⟩

set_option maxRecDepth 100000 in
theorem strs_of_trod {H : Type} {enc : TypeId × Value → H} {W : World} {base : Nat} {spare : Nat → Bool} {held : Bool} {v : Value} {d : DataW H} {p : List MemPlace}
    (hv : Value.okWide Try.prog W .any base 36 v) (h : DataW.Trod enc Try.prog W 0 spare held 36 v d p) : ∃ xs, Strs W v xs := by
  obtain ⟨a0, len0, cap0, rfl⟩ := okWide_slice Try.underlying36 hv
  obtain ⟨fuel, hf⟩ := h
  rcases open_strings Try.underlying36 Try.underlying9 (by kernel_rfl) hf with ⟨hcs, _⟩ | ⟨a, len, cap, ss, hcs, _, hl, hm, hz, _, hcell, _⟩
  · simp [Value.cells] at hcs
    obtain ⟨rfl, rfl, rfl⟩ := hcs
    exact ⟨[], Sl.nil _ _ _⟩
  · simp [Value.cells] at hcs
    obtain ⟨rfl, rfl, rfl⟩ := hcs
    have hle : len0 ≤ ss.length := by rw [hz]; split <;> omega
    refine ⟨ss.take len0, some a, cap0, (ss.take len0).map .string, ?_, ?_, hm, CellsAt.of_kit ?_, elems_map _ _ (fun _ => rfl) _⟩
    · rw [List.length_take, Nat.min_eq_left hle]
    · rw [List.length_take, Nat.min_eq_left hle]; exact hl
    · intro j u hu
      rw [List.getElem?_map] at hu
      obtain ⟨x, hx, rfl⟩ := Option.map_eq_some_iff.1 hu
      rw [List.getElem?_take] at hx
      split at hx
      · have hlt := (List.getElem?_eq_some_iff.1 hx).1
        rw [hcell j hlt, List.getD_eq_getElem?_getD, hx]
        rfl
      · cases hx
end Go.Proofs.Ythobbcafemkhbaa
