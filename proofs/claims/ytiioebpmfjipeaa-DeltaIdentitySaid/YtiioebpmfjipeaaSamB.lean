/- Plain: how many edges there are. -/
import Derived.Test.YtiioebpmfjipeaaSam
namespace Go.Proofs.Ytiioebpmfjipeaa

theorem inj_bound : ∀ (m n : Nat) (f : Nat → Nat), (∀ i, i < n → f i < m) → (∀ i j, i < n → j < n → f i = f j → i = j) → n ≤ m
  | 0, n, f, h, _ => by
    rcases Nat.eq_zero_or_pos n with h1 | h1
    · omega
    · have := h 0 h1; omega
  | m + 1, n, f, h, hi => by
    by_cases hx : ∃ i0, i0 < n ∧ f i0 = m
    · obtain ⟨i0, h0, he⟩ := hx
      have := inj_bound m (n - 1) (fun j => if j < i0 then f j else f (j + 1)) (fun i h1 => by
        show (if i < i0 then f i else f (i + 1)) < m
        split
        · rename_i h2
          have h3 := h i (by omega)
          have h4 : f i ≠ m := fun e => by have := hi i i0 (by omega) h0 (e.trans he.symm); omega
          omega
        · rename_i h2
          have h3 := h (i + 1) (by omega)
          have h4 : f (i + 1) ≠ m := fun e => by have := hi (i + 1) i0 (by omega) h0 (e.trans he.symm); omega
          omega) (fun i j h1 h2 e => by
        have e : (if i < i0 then f i else f (i + 1)) = (if j < i0 then f j else f (j + 1)) := e
        split at e <;> split at e
        · exact hi i j (by omega) (by omega) e
        · have := hi i (j + 1) (by omega) (by omega) e; omega
        · have := hi (i + 1) j (by omega) (by omega) e; omega
        · have := hi (i + 1) (j + 1) (by omega) (by omega) e; omega)
      omega
    · have := inj_bound m n f (fun i h1 => by
        have h2 := h i h1
        have h3 : f i ≠ m := fun e => hx ⟨i, h1, e⟩
        omega) hi
      omega
theorem Rep.few {ns : List Nd} {es : List Ed} {own : Nat → Nat} {A : Aut} (h : Rep ns es own A) : es.length ≤ ns.length * 256 := by
  refine inj_bound _ _ (fun e => own e * 256 + ((es[e]?.map fun x => x.letter.toNat).getD 0)) (fun e he => ?_) (fun e e' he he' hh => ?_)
  · have hx := List.getElem?_eq_getElem he
    have h1 := (h.next e _ hx).1
    have h2 : (es[e]).letter.toNat < 256 := (es[e]).letter.toNat_lt
    simp only [hx, Option.map_some, Option.getD_some]
    omega
  · have hx := List.getElem?_eq_getElem he
    have hx' := List.getElem?_eq_getElem he'
    have h2 : (es[e]).letter.toNat < 256 := (es[e]).letter.toNat_lt
    have h3 : (es[e']).letter.toNat < 256 := (es[e']).letter.toNat_lt
    simp only [hx, hx', Option.map_some, Option.getD_some] at hh
    exact h.one e e' _ _ hx hx' (by omega) (UInt8.toNat_inj.1 (by omega))
end Go.Proofs.Ytiioebpmfjipeaa
