/- More functions that only read lists of lines and hunks. -/
import Derived.Test.YthobbcafemkhbaaRead
import Derived.Test.YthobbcafemkhbaaPlain
namespace Go.Proofs.Ythobbcafemkhbaa
open Go.RowKit

def greatB (xs : List ByteArray) : Bool := decide (12 < xs.length ∨ ∃ s ∈ xs, 40 < s.size)
theorem greatB_len {xs : List ByteArray} (h : 12 < xs.length) : greatB xs = true := decide_eq_true (.inl h)
theorem greatB_at {xs : List ByteArray} {k : Nat} (hk : k < xs.length) (h : 40 < xs[k].size) : greatB xs = true := decide_eq_true (.inr ⟨_, List.getElem_mem hk, h⟩)
theorem greatB_no {xs : List ByteArray} (h : xs.length ≤ 12) (k : Nat) (hk : ¬ k < xs.length) (ha : ∀ i, i < k → ∀ (hi : i < xs.length), xs[i].size ≤ 40) : greatB xs = false :=
  decide_eq_false (by
    rintro (h1 | ⟨s, hs, h2⟩)
    · omega
    · obtain ⟨i, hi, rfl⟩ := List.getElem_of_mem hs
      have := ha i (by omega) hi
      omega)
theorem greatB_false {xs : List ByteArray} (h : greatB xs = false) : xs.length ≤ 12 ∧ ∀ s ∈ xs, s.size ≤ 40 := by
  have h := of_decide_eq_false h
  refine ⟨?_, fun s hs => ?_⟩
  · apply Nat.le_of_not_lt; intro h1; exact h (.inl h1)
  · apply Nat.le_of_not_lt; intro h1; exact h (.inr ⟨s, hs, h1⟩)

def greatHB (hs : List Hk) : Bool := decide (8 < hs.length ∨ ∃ h ∈ hs, greatB h.2.1 = true ∨ greatB h.2.2 = true)
theorem greatHB_len {xs : List Hk} (h : 8 < xs.length) : greatHB xs = true := decide_eq_true (.inl h)
theorem greatHB_at {xs : List Hk} {k : Nat} (hk : k < xs.length) (h : greatB xs[k].2.1 = true ∨ greatB xs[k].2.2 = true) : greatHB xs = true := decide_eq_true (.inr ⟨_, List.getElem_mem hk, h⟩)
theorem greatHB_no {xs : List Hk} (h : xs.length ≤ 8) (k : Nat) (hk : ¬ k < xs.length) (ha : ∀ i, i < k → ∀ (hi : i < xs.length), greatB xs[i].2.1 = false ∧ greatB xs[i].2.2 = false) : greatHB xs = false :=
  decide_eq_false (by
    rintro (h1 | ⟨s, hs, h2⟩)
    · omega
    · obtain ⟨i, hi, rfl⟩ := List.getElem_of_mem hs
      have := ha i (by omega) hi
      rw [this.1, this.2] at h2
      rcases h2 with h2 | h2 <;> cases h2)
theorem greatHB_false {xs : List Hk} (h : greatHB xs = false) : xs.length ≤ 8 ∧ ∀ h ∈ xs, greatB h.2.1 = false ∧ greatB h.2.2 = false := by
  have h := of_decide_eq_false h
  refine ⟨?_, fun s hs => ⟨?_, ?_⟩⟩
  · apply Nat.le_of_not_lt; intro h1; exact h (.inl h1)
  · cases h1 : greatB s.2.1
    · rfl
    · exact (h (.inr ⟨s, hs, .inl h1⟩)).elim
  · cases h1 : greatB s.2.2
    · rfl
    · exact (h (.inr ⟨s, hs, .inr h1⟩)).elim

theorem sizeH_succ {hs : List Hk} {k : Nat} (hk : k < hs.length) : sizeH (hs.take (k + 1)) = sizeH (hs.take k) + (hs[k].2.1.length + hs[k].2.2.length) := by
  unfold sizeH
  rw [List.take_succ_eq_append_getElem hk, List.map_append, List.sum_append]
  simp
theorem sizeH_bd {hs : List Hk} {N : Nat} (h : ∀ x ∈ hs, x.2.1.length + x.2.2.length ≤ N) : ∀ k, sizeH (hs.take k) ≤ k * N
  | 0 => by simp [sizeH]
  | k + 1 => by
    by_cases hk : k < hs.length
    · rw [sizeH_succ hk, Nat.add_mul, Nat.one_mul]
      have := sizeH_bd h k
      have := h _ (List.getElem_mem hk)
      omega
    · have := sizeH_bd h k
      rw [List.take_of_length_le (by omega)] at this ⊢
      rw [Nat.add_mul]; omega

end Go.Proofs.Ythobbcafemkhbaa
