/- Plain: what differences are made of. -/
import Derived.Test.YtiioebpmfjipeaaDeDiff
namespace Go.Proofs.Ytiioebpmfjipeaa
set_option linter.unusedVariables false
set_option linter.unusedSimpArgs false

/-- Copies have at least four bytes. -/
def C4 (x : DOp) : Prop := 0 < x.len → 4 ≤ x.len
theorem diffF_c4 (a b : List UInt8) : ∀ f k, ∀ x ∈ diffF a b f k, C4 x
  | 0, k, x, hx => by simp [diffF] at hx
  | f + 1, k, x, hx => by
    by_cases hk : k < b.length
    · by_cases h4 : 4 ≤ (pick a (b.drop k)).2
      · rw [diffF_copy hk h4] at hx
        rcases List.mem_cons.1 hx with rfl | hx
        · intro _; simp only; omega
        · exact diffF_c4 a b f _ x hx
      · rw [diffF_ins hk h4] at hx
        rcases List.mem_cons.1 hx with rfl | hx
        · intro h; simp at h
        · exact diffF_c4 a b f _ x hx
    · rw [diffF_end hk] at hx; simp at hx
theorem flush_c4 {l : List DOp} {t : List UInt8} (h : ∀ y ∈ l, C4 y) : ∀ y ∈ flushD (l, t), C4 y := by
  by_cases ht : t = []
  · subst ht; rw [flushD_none]; exact h
  · rw [flushD_some ht]
    intro y hy
    rcases List.mem_append.1 hy with hy | hy
    · exact h y hy
    · obtain rfl : y = ⟨0, 0, t⟩ := by simpa using hy
      intro h; simp at h
theorem step_c4 {s : List DOp × List UInt8} {x : DOp} (h : ∀ y ∈ s.1, C4 y) (hx : C4 x) (h0 : 0 ≤ x.len) : ∀ y ∈ (joinStep s x).1, C4 y := by
  obtain ⟨l, t⟩ := s
  by_cases hi : x.ins
  · have e : joinStep (l, t) x = (l, t ++ x.data) := if_pos hi
    rw [e]; exact h
  · have e : joinStep (l, t) x = (pushD (flushD (l, t)) x, []) := if_neg hi
    rw [e]
    have hf := flush_c4 (t := t) h
    generalize flushD (l, t) = m at *
    rcases List.eq_nil_or_concat m with rfl | ⟨m', y, rfl⟩
    · rw [pushD_nil]
      intro y hy
      obtain rfl : y = x := by simpa using hy
      exact hx
    · rw [List.concat_eq_append] at hf ⊢
      rw [pushD_snoc]
      split
      · rename_i hc
        intro z hz
        rcases List.mem_append.1 hz with hz | hz
        · exact hf z (by simp [hz])
        · obtain rfl : z = { y with len := y.len + x.len } := by simpa using hz
          have := hf y (by simp) hc.1.1
          intro _
          simp only
          omega
      · intro z hz
        rcases List.mem_append.1 hz with hz | hz
        · exact hf z hz
        · obtain rfl : z = x := by simpa using hz
          exact hx
theorem fold_c4 : ∀ (xs : List DOp) (s : List DOp × List UInt8), (∀ y ∈ s.1, C4 y) → (∀ x ∈ xs, C4 x ∧ 0 ≤ x.len) → ∀ y ∈ (xs.foldl joinStep s).1, C4 y
  | [], s, h, _ => h
  | x :: xs, s, h, hx => fold_c4 xs (joinStep s x) (step_c4 h (hx x (by simp)).1 (hx x (by simp)).2) fun z hz => hx z (by simp [hz])
theorem diffF_len0 {a b : List UInt8} {f k : Nat} {x : DOp} (hx : x ∈ diffF a b f k) : 0 ≤ x.len := by
  rcases diffF_ok a b f k x hx with h | h
  · have := h.1; omega
  · rw [h.1]; exact Int.le_refl _
theorem diffD_c4 (a b : List UInt8) : ∀ y ∈ diffD a b, C4 y := by
  unfold diffD joinD
  have := fold_c4 (diffF a b (b.length + 1) 0) ([], []) (fun y hy => by simp at hy) fun x hx => ⟨diffF_c4 a b _ _ x hx, diffF_len0 hx⟩
  generalize (diffF a b (b.length + 1) 0).foldl joinStep ([], []) = s at *
  obtain ⟨l, t⟩ := s
  exact flush_c4 this
theorem cpl_self : ∀ a : List UInt8, cpl a a = a.length
  | [] => rfl
  | x :: a => by
    show (if x = x then cpl a a + 1 else 0) = _
    rw [if_pos rfl, cpl_self a]; rfl
theorem pick_self {a : List UInt8} (h : 0 < a.length) : pick a a = (0, a.length) := by
  obtain ⟨h1, h2, h3⟩ := bestF_spec a a a.length
  have e1 : (pick a a).2 = a.length := by
    have h4 := h1 0 h
    rw [List.drop_zero, cpl_self] at h4
    have := (pick_le a a).2
    have h5 : (bestF a a a.length).2 = (pick a a).2 := rfl
    omega
  have e2 : (pick a a).1 = 0 := by
    obtain ⟨_, _, h6⟩ := h3 (by show 0 < (pick a a).2; omega)
    rcases Nat.eq_zero_or_pos (pick a a).1 with h7 | h7
    · exact h7
    · have := h6 0 h7
      rw [List.drop_zero, cpl_self] at this
      have h5 : (bestF a a a.length).2 = (pick a a).2 := rfl
      omega
  exact Prod.ext e2 e1
theorem diffD_self {a : List UInt8} (h : 4 ≤ a.length) : diffD a a = [⟨0, a.length, []⟩] := by
  have hp : pick a (a.drop 0) = (0, a.length) := by rw [List.drop_zero]; exact pick_self (by omega)
  unfold diffD
  rw [diffF_copy (by omega) (by rw [hp]; exact h), hp, diffF_end (by simp)]
  unfold joinD
  have hn : ¬ (⟨0, (a.length : Int), []⟩ : DOp).ins := fun e => e.2.2 rfl
  have : joinStep ([], []) ⟨0, (a.length : Int), []⟩ = ([⟨0, (a.length : Int), []⟩], []) := if_neg hn
  simp only [List.foldl_cons, List.foldl_nil]
  show flushD (joinStep ([], []) ⟨((0 : Nat) : Int), (a.length : Int), []⟩) = _
  rw [show ((0 : Nat) : Int) = 0 from rfl, this, flushD_none]
theorem pick_nil (s : List UInt8) : pick [] s = (0, 0) := rfl
theorem diffF_nil (b : List UInt8) : ∀ (f k : Nat), k ≤ b.length → b.length - k < f → (diffF [] b f k).foldl joinStep ([], b.take k) = ([], b)
  | 0, k, h1, h2 => by omega
  | f + 1, k, h1, h2 => by
    by_cases hk : k < b.length
    · rw [diffF_ins hk (by rw [pick_nil]; simp), List.foldl_cons]
      have hd : (b.drop k).take 1 = [b[k]] := by rw [List.drop_eq_getElem_cons hk]; rfl
      have hi : (⟨0, 0, (b.drop k).take 1⟩ : DOp).ins := ⟨rfl, rfl, by rw [hd]; simp⟩
      have : joinStep ([], b.take k) ⟨0, 0, (b.drop k).take 1⟩ = ([], b.take k ++ (b.drop k).take 1) := if_pos hi
      rw [this, hd, ← List.take_succ_eq_append_getElem hk]
      exact diffF_nil b f (k + 1) (by omega) (by omega)
    · rw [diffF_end hk, List.foldl_nil, List.take_of_length_le (by omega)]
theorem diffD_empty {b : List UInt8} (h : b ≠ []) : diffD [] b = [⟨0, 0, b⟩] := by
  unfold diffD joinD
  have := diffF_nil b (b.length + 1) 0 (Nat.zero_le _) (by omega)
  rw [List.take_zero] at this
  rw [this, flushD_some h]
  rfl
theorem diffD_none (a : List UInt8) : diffD a [] = [] := by
  unfold diffD
  rw [diffF_end (by simp)]
  rfl
end Go.Proofs.Ytiioebpmfjipeaa
