/- The lines of a text: plain laws. -/
import Derived.Lib.IndexLaws
namespace Go.Proofs.Ythobbcafemkhbaa

/-- The lines of what follows, 'cur' being the line under way. -/
def linesF (cur : List UInt8) : List UInt8 → List (List UInt8)
  | [] => if cur = [] then [] else [cur]
  | c :: s => if c = 10 then (cur ++ [10]) :: linesF [] s else linesF (cur ++ [c]) s
def lines (s : List UInt8) : List (List UInt8) := linesF [] s

theorem linesF_none : ∀ (s cur : List UInt8), (∀ k : Nat, s[k]? ≠ some 10) → linesF cur s = if cur ++ s = [] then [] else [cur ++ s]
  | [], cur, _ => by simp [linesF]
  | c :: s, cur, h => by
    have hc : c ≠ 10 := fun e => h 0 (by simp [e])
    rw [linesF, if_neg hc, linesF_none s _ (fun k => by have := h (k + 1); simpa using this)]
    simp
theorem linesF_some : ∀ (s cur : List UInt8) (o : Nat), s[o]? = some 10 → (∀ k, k < o → s[k]? ≠ some 10) → linesF cur s = (cur ++ s.take (o + 1)) :: linesF [] (s.drop (o + 1))
  | [], cur, o, h, _ => by simp at h
  | c :: s, cur, 0, h, _ => by
    simp at h; subst h
    simp [linesF]
  | c :: s, cur, o + 1, h, hn => by
    have hc : c ≠ 10 := fun e => hn 0 (by omega) (by simp [e])
    rw [linesF, if_neg hc, linesF_some s _ o (by simpa using h) (fun k hk => by have := hn (k + 1) (by omega); simpa using this)]
    simp

/-- How long the first line is. -/
def firstLen (s : List UInt8) : Nat := if Lib.indexByte s 10 = -1 then s.length else (Lib.indexByte s 10 + 1).toNat
theorem indexByte_lt : ∀ {s : List UInt8} {o : Nat}, Lib.indexByte s 10 = o → o < s.length := by
  intro s o h
  exact (List.getElem?_eq_some_iff.1 (Lib.indexByte_some h).1).1
theorem index_cases (s : List UInt8) : Lib.indexByte s 10 = -1 ∨ ∃ o : Nat, Lib.indexByte s 10 = o ∧ o < s.length := by
  have h := Lib.indexByte_ge s 10
  by_cases h1 : Lib.indexByte s 10 = -1
  · exact .inl h1
  · have h2 : Lib.indexByte s 10 = ((Lib.indexByte s 10).toNat : Int) := by omega
    exact .inr ⟨_, h2, indexByte_lt h2⟩
theorem lines_step {s : List UInt8} (hs : s ≠ []) : lines s = s.take (firstLen s) :: lines (s.drop (firstLen s)) := by
  unfold lines firstLen
  rcases index_cases s with h | ⟨o, h, hlt⟩
  · rw [if_pos h, linesF_none s [] (Lib.indexByte_none h)]
    simp [hs, linesF]
  · rw [if_neg (by omega), h, show ((o : Int) + 1).toNat = o + 1 by omega]
    obtain ⟨h1, h2⟩ := Lib.indexByte_some h
    rw [linesF_some s [] o h1 h2, List.nil_append]
theorem firstLen_le (s : List UInt8) : firstLen s ≤ s.length := by
  unfold firstLen
  rcases index_cases s with h | ⟨o, h, hlt⟩
  · rw [if_pos h]; omega
  · rw [if_neg (by omega), h]; omega
theorem firstLen_pos {s : List UInt8} (hs : s ≠ []) : 0 < firstLen s := by
  unfold firstLen
  have : 0 < s.length := List.length_pos_iff.2 hs
  rcases index_cases s with h | ⟨o, h, hlt⟩
  · rw [if_pos h]; omega
  · rw [if_neg (by omega), h]; omega
theorem lines_nil : lines [] = [] := rfl
end Go.Proofs.Ythobbcafemkhbaa
