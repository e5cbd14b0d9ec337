/- Plain: the longest match and its first place, by trial and by the automaton. -/
import Derived.Test.YtiioebpmfjipeaaAut
namespace Go.Proofs.Ytiioebpmfjipeaa

/-- The length of the common beginning. -/
def cpl : List UInt8 → List UInt8 → Nat
  | a :: x, b :: y => if a = b then cpl x y + 1 else 0
  | [], _ => 0
  | _ :: _, [] => 0
theorem cpl_take : ∀ (x y : List UInt8) (n : Nat), n ≤ cpl x y ↔ n ≤ x.length ∧ n ≤ y.length ∧ x.take n = y.take n
  | [], y, n => by
    simp only [cpl, List.length_nil]
    constructor
    · intro h
      have : n = 0 := by omega
      subst this; simp
    · rintro ⟨h, _⟩; exact h
  | a :: x, [], n => by
    simp only [cpl, List.length_nil]
    constructor
    · intro h
      have : n = 0 := by omega
      subst this; simp
    · rintro ⟨_, h, _⟩; exact h
  | a :: x, b :: y, 0 => by simp
  | a :: x, b :: y, n + 1 => by
    by_cases e : a = b
    · subst e
      have := cpl_take x y n
      simp only [cpl, if_true, List.length_cons, List.take_succ_cons, List.cons.injEq, true_and, Nat.add_le_add_iff_right]
      exact this
    · have : cpl (a :: x) (b :: y) = 0 := if_neg e
      rw [this]
      simp only [List.length_cons, List.take_succ_cons, List.cons.injEq, e, false_and, and_false, iff_false]
      omega
theorem cpl_le_left (x y : List UInt8) : cpl x y ≤ x.length := ((cpl_take x y _).1 (Nat.le_refl _)).1
theorem cpl_le_right (x y : List UInt8) : cpl x y ≤ y.length := ((cpl_take x y _).1 (Nat.le_refl _)).2.1

/-- The best place among the first k ones. -/
def bestF (a s : List UInt8) : Nat → Nat × Nat
  | 0 => (0, 0)
  | i + 1 => if (bestF a s i).2 < cpl (a.drop i) s then (i, cpl (a.drop i) s) else bestF a s i
theorem bestF_spec (a s : List UInt8) : ∀ k, (∀ i, i < k → cpl (a.drop i) s ≤ (bestF a s k).2) ∧ ((bestF a s k).2 = 0 → (bestF a s k).1 = 0) ∧ (0 < (bestF a s k).2 → (bestF a s k).1 < k ∧ cpl (a.drop (bestF a s k).1) s = (bestF a s k).2 ∧ ∀ i, i < (bestF a s k).1 → cpl (a.drop i) s < (bestF a s k).2)
  | 0 => ⟨fun i hi => by omega, fun _ => rfl, fun h => by simp [bestF] at h⟩
  | k + 1 => by
    obtain ⟨h1, h2, h3⟩ := bestF_spec a s k
    unfold bestF
    split
    · rename_i hlt
      refine ⟨fun i hi => ?_, fun h => ?_, fun _ => ⟨by omega, rfl, fun i hi => ?_⟩⟩
      · rcases Nat.lt_or_ge i k with h4 | h4
        · have := h1 i h4
          simp only; omega
        · have : i = k := by omega
          subst this; exact Nat.le_refl _
      · simp only at h; omega
      · have := h1 i hi
        simp only; omega
    · rename_i hge
      refine ⟨fun i hi => ?_, h2, fun h => ?_⟩
      · rcases Nat.lt_or_ge i k with h4 | h4
        · exact h1 i h4
        · have : i = k := by omega
          subst this; omega
      · obtain ⟨h4, h5, h6⟩ := h3 h
        exact ⟨by omega, h5, h6⟩
def pick (a s : List UInt8) : Nat × Nat := bestF a s a.length
theorem suf_take {a w : List UInt8} {e : Nat} (he : e ≤ a.length) : w <:+ a.take e ↔ w.length ≤ e ∧ (a.drop (e - w.length)).take w.length = w := by
  constructor
  · intro h
    have hl := h.length_le
    rw [List.length_take] at hl
    have hw : w.length ≤ e := by omega
    refine ⟨hw, ?_⟩
    obtain ⟨p, hp⟩ := h
    have hpl : p.length = e - w.length := by
      have := congrArg List.length hp
      rw [List.length_append, List.length_take] at this
      omega
    have ha : a = p ++ w ++ a.drop e := by rw [hp, List.take_append_drop]
    rw [← hpl]
    conv => lhs; rw [ha]
    rw [List.append_assoc, List.drop_append_of_le_length (Nat.le_refl _), List.drop_length, List.nil_append, List.take_append_of_le_length (Nat.le_refl _), List.take_length]
  · rintro ⟨h1, h2⟩
    refine ⟨a.take (e - w.length), ?_⟩
    conv => lhs; arg 2; rw [← h2]
    have := List.take_add (l := a) (i := e - w.length) (j := w.length)
    rw [show e - w.length + w.length = e by omega] at this
    rw [this]
theorem pick_of_aut {A : Aut} {L : Nat → List UInt8} {a s : List UInt8} {last v m : Nat} (h : A.Inv L a last) (hm : m ≤ s.length) (hv : A.Cls L v (s.take m)) (hs : ∀ c, s[m]? = some c → A.go v c = none) :
    (pick a s).2 = m ∧ (0 < m → (pick a s).1 = A.fin v - m) ∧ m ≤ A.fin v ∧ A.fin v ≤ a.length := by
  obtain ⟨h1, h2, h3⟩ := bestF_spec a s a.length
  have hl : (s.take m).length = m := by rw [List.length_take]; omega
  obtain ⟨f1, f2, f3⟩ := h.fin v _ hv
  have f4 := (suf_take f1).1 f2
  rw [hl] at f4
  obtain ⟨f4, f5⟩ := f4
  -- at the automaton's place
  have c1 : m ≤ cpl (a.drop (A.fin v - m)) s := (cpl_take _ _ _).2 ⟨by rw [List.length_drop]; omega, hm, f5⟩
  -- nowhere longer
  have c2 : ∀ i, cpl (a.drop i) s ≤ m := fun i => by
    rcases Nat.lt_or_ge m (cpl (a.drop i) s) with hh | hh
    · exfalso
      obtain ⟨k1, k2, k3⟩ := (cpl_take (a.drop i) s (m + 1)).1 hh
      rw [List.length_drop] at k1
      have hc : s[m]? = some (s[m]'(by omega)) := List.getElem?_eq_getElem (by omega)
      have hw : s.take (m + 1) = s.take m ++ [s[m]'(by omega)] := List.take_succ_eq_append_getElem (by omega)
      have ho : Occ a (s.take m ++ [s[m]'(by omega)]) := by
        refine ⟨i + (m + 1), by omega, ?_⟩
        rw [← hw, suf_take (by omega)]
        rw [show (s.take (m + 1)).length = m + 1 by rw [List.length_take]; omega]
        exact ⟨by omega, by rw [show i + (m + 1) - (m + 1) = i by omega]; exact k3⟩
      obtain ⟨u, hu⟩ := h.all v _ _ hv ho
      rw [hs _ hc] at hu
      cases hu
    · exact hh
  have hmost : (pick a s).2 = m := by
    apply Nat.le_antisymm
    · rcases Nat.eq_zero_or_pos (pick a s).2 with h4 | h4
      · omega
      · have := c2 (bestF a s a.length).1
        rw [(h3 h4).2.1] at this
        exact this
    · rcases Nat.eq_zero_or_pos m with h4 | h4
      · omega
      · have : A.fin v - m < a.length := by omega
        exact Nat.le_trans c1 (h1 _ this)
  refine ⟨hmost, fun hp => ?_, f4, f1⟩
  have h4 : 0 < (bestF a s a.length).2 := by rw [show (bestF a s a.length).2 = m from hmost]; exact hp
  obtain ⟨k1, k2, k3⟩ := h3 h4
  show (bestF a s a.length).1 = _
  have hmost' : (bestF a s a.length).2 = m := hmost
  rw [hmost'] at k2 k3
  rcases Nat.lt_trichotomy (bestF a s a.length).1 (A.fin v - m) with k4 | k4 | k4
  · exfalso
    obtain ⟨q1, q2, q3⟩ := (cpl_take (a.drop (bestF a s a.length).1) s m).1 (by omega)
    rw [List.length_drop] at q1
    refine f3 ((bestF a s a.length).1 + m) (by omega) ?_
    rw [suf_take (by omega), hl]
    exact ⟨by omega, by rw [Nat.add_sub_cancel]; exact q3⟩
  · exact k4
  · have := k3 _ k4
    omega
end Go.Proofs.Ytiioebpmfjipeaa
