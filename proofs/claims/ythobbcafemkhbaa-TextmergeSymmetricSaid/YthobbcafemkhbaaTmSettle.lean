/- Plain settling of conflicts. -/
import Derived.Test.YthobbcafemkhbaaTmLaws
namespace Go.Proofs.Ythobbcafemkhbaa

section
variable {α : Type}

/-- The lines of a conflict by a side: 0 left, 1 base, else right. -/
def side3 (s : Nat) (c : List α × List α × List α) : List α := if s = 0 then c.2.1 else if s = 1 then c.1 else c.2.2
/-- Settling, as both programs do it: n conflicts have been met. -/
def stlF (i s : Nat) : Nat → List (RgA α) → List (RgA α) → List (RgA α)
  | _, [], out => out
  | n, (false, _, l, _) :: rs, out => stlF i s n rs (addL out l)
  | n, (true, c) :: rs, out => stlF i s (n + 1) rs (if n = i then addL out (side3 s c) else out ++ [(true, c)])
/-- Regions as what lies before each conflict, and behind the last one. -/
def sgF : List α → List (RgA α) → List (List α × List α × List α × List α) × List α
  | acc, [] => ([], acc)
  | acc, (false, _, l, _) :: rs => sgF (acc ++ l) rs
  | acc, (true, c) :: rs => ((acc, c) :: (sgF [] rs).1, (sgF [] rs).2)
def plR (p : List α) : List (RgA α) := if p = [] then [] else [(false, [], p, [])]
def emitF : List (List α × List α × List α × List α) → List α → List (RgA α)
  | [], tl => plR tl
  | (p, c) :: xs, tl => plR p ++ (true, c) :: emitF xs tl
def prepS (q : List α) : List (List α × List α × List α × List α) × List α → List (List α × List α × List α × List α) × List α
  | ([], tl) => ([], q ++ tl)
  | ((p, c) :: xs, tl) => ((q ++ p, c) :: xs, tl)
def replS (s : Nat) : Nat → List (List α × List α × List α × List α) → List α → List (List α × List α × List α × List α) × List α
  | _, [], tl => ([], tl)
  | 0, (p, c) :: xs, tl => prepS (p ++ side3 s c) (xs, tl)
  | i + 1, (p, c) :: xs, tl => ((p, c) :: (replS s i xs tl).1, (replS s i xs tl).2)

theorem plR_nil : plR ([] : List α) = [] := if_pos rfl
theorem addL_plR (X : List (RgA α)) (hX : X = [] ∨ ∃ Y c, X = Y ++ [(true, c)]) (p l : List α) : addL (X ++ plR p) l = X ++ plR (p ++ l) := by
  by_cases hl : l = []
  · subst hl; rw [addL_nil, List.append_nil]
  by_cases hp : p = []
  · subst hp
    rw [plR_nil, List.append_nil, List.nil_append]
    have hpl : plR l = [(false, [], l, [])] := if_neg hl
    rw [hpl]
    rcases hX with rfl | ⟨Y, ⟨b, l', r⟩, rfl⟩
    · exact addL_empty hl
    · exact addL_conf Y b l' r hl
  · have h1 : plR p = [(false, [], p, [])] := if_neg hp
    have h2 : plR (p ++ l) = [(false, [], p ++ l, [])] := if_neg (fun e => hp (List.append_eq_nil_iff.1 e).1)
    rw [h1, h2]
    exact addL_plain X [] p [] hl
theorem sgF_prep : ∀ (L : List (RgA α)) (q acc : List α), sgF (q ++ acc) L = prepS q (sgF acc L)
  | [], q, acc => rfl
  | (false, _, l, _) :: rs, q, acc => by
    show sgF (q ++ acc ++ l) rs = prepS q (sgF (acc ++ l) rs)
    rw [List.append_assoc]; exact sgF_prep rs q (acc ++ l)
  | (true, c) :: rs, q, acc => rfl
/-- Settling from n on, where the i-th is still to come or has been settled. -/
theorem stl_emit (i s : Nat) : ∀ (L : List (RgA α)) (n : Nat) (X : List (RgA α)) (acc : List α), (X = [] ∨ ∃ Y c, X = Y ++ [(true, c)]) →
    stlF i s n L (X ++ plR acc) = X ++ (if n ≤ i then emitF (replS s (i - n) (sgF acc L).1 (sgF acc L).2).1 (replS s (i - n) (sgF acc L).1 (sgF acc L).2).2 else emitF (sgF acc L).1 (sgF acc L).2)
  | [], n, X, acc, _ => by
    show X ++ plR acc = _
    congr 1
    split
    · cases i - n <;> rfl
    · rfl
  | (false, b, l, r) :: rs, n, X, acc, hX => by
    show stlF i s n rs (addL (X ++ plR acc) l) = _
    rw [addL_plR X hX, stl_emit i s rs n X (acc ++ l) hX]
    rfl
  | (true, c) :: rs, n, X, acc, hX => by
    show stlF i s (n + 1) rs (if n = i then addL (X ++ plR acc) (side3 s c) else X ++ plR acc ++ [(true, c)]) = _
    by_cases hn : n = i
    · subst hn
      rw [if_pos rfl, addL_plR X hX, stl_emit n s rs (n + 1) X _ hX, if_neg (by omega), if_pos (Nat.le_refl _), Nat.sub_self]
      congr 1
      have e : sgF (acc ++ side3 s c) rs = prepS (acc ++ side3 s c) (sgF [] rs) := by
        have := sgF_prep rs (acc ++ side3 s c) []
        rwa [List.append_nil] at this
      rw [e]
      rfl
    · have h0 := stl_emit i s rs (n + 1) (X ++ plR acc ++ [(true, c)]) [] (.inr ⟨_, c, rfl⟩)
      rw [plR_nil, List.append_nil] at h0
      rw [if_neg hn, h0]
      by_cases hle : n ≤ i
      · rw [if_pos (by omega), if_pos hle, show i - n = (i - (n + 1)) + 1 by omega, List.append_assoc, List.append_assoc]
        rfl
      · rw [if_neg (by omega), if_neg hle, List.append_assoc, List.append_assoc]
        rfl
theorem stl_eq (i s : Nat) (L : List (RgA α)) : stlF i s 0 L [] = emitF (replS s i (sgF [] L).1 (sgF [] L).2).1 (replS s i (sgF [] L).1 (sgF [] L).2).2 := by
  have := stl_emit i s L 0 [] [] (.inl rfl)
  rw [plR_nil, List.append_nil, if_pos (Nat.zero_le _), Nat.sub_zero, List.nil_append] at this
  exact this
theorem sgF_plR (p acc : List α) (L : List (RgA α)) : sgF acc (plR p ++ L) = sgF (acc ++ p) L := by
  by_cases h : p = []
  · subst h; rw [plR_nil, List.append_nil]; rfl
  · rw [show plR p = [(false, [], p, [])] from if_neg h]; rfl
theorem sg_emit : ∀ (xs : List (List α × List α × List α × List α)) (tl : List α), sgF [] (emitF xs tl) = (xs, tl)
  | [], tl => by
    have := sgF_plR tl [] ([] : List (RgA α))
    rw [List.append_nil] at this
    exact this
  | (p, c) :: xs, tl => by
    show sgF [] (plR p ++ (true, c) :: emitF xs tl) = _
    rw [sgF_plR]
    show (([] ++ p, c) :: (sgF [] (emitF xs tl)).1, (sgF [] (emitF xs tl)).2) = _
    rw [sg_emit xs tl]; rfl
theorem prepS_prep (q p : List α) (X : List (List α × List α × List α × List α) × List α) : prepS q (prepS p X) = prepS (q ++ p) X := by
  obtain ⟨xs, tl⟩ := X
  cases xs with
  | nil => show ([], q ++ (p ++ tl)) = ([], q ++ p ++ tl); rw [List.append_assoc]
  | cons x xs => obtain ⟨a, c⟩ := x; show ((q ++ (p ++ a), c) :: xs, tl) = ((q ++ p ++ a, c) :: xs, tl); rw [List.append_assoc]
theorem replS_prep (t b : Nat) (q : List α) (xs : List (List α × List α × List α × List α)) (tl : List α) (h : b < xs.length) : replS t b (prepS q (xs, tl)).1 (prepS q (xs, tl)).2 = prepS q (replS t b xs tl) := by
  cases xs with
  | nil => cases h
  | cons x xs =>
    obtain ⟨p, c⟩ := x
    cases b with
    | zero =>
      show prepS (q ++ p ++ side3 t c) (xs, tl) = prepS q (prepS (p ++ side3 t c) (xs, tl))
      rw [prepS_prep, List.append_assoc]
    | succ b => rfl
theorem replS_comm (s t : Nat) : ∀ (a b : Nat) (xs : List (List α × List α × List α × List α)) (tl : List α), a < b → b < xs.length →
    replS t (b - 1) (replS s a xs tl).1 (replS s a xs tl).2 = replS s a (replS t b xs tl).1 (replS t b xs tl).2
  | _, _, [], _, _, h => by cases h
  | 0, 0, _, _, h, _ => by cases h
  | 0, b + 1, (p, c) :: xs, tl, _, h => by
    have hb : b < xs.length := by simpa using h
    show replS t b (prepS (p ++ side3 s c) (xs, tl)).1 (prepS (p ++ side3 s c) (xs, tl)).2 = prepS (p ++ side3 s c) (replS t b xs tl)
    exact replS_prep t b _ xs tl hb
  | a + 1, 0, _, _, h, _ => by cases h
  | a + 1, 1, _, _, h, _ => by omega
  | a + 1, b + 2, (p, c) :: xs, tl, h, hb => by
    have ih := replS_comm s t a (b + 1) xs tl (by omega) (by rw [List.length_cons] at hb; omega)
    have ih' : replS t b (replS s a xs tl).1 (replS s a xs tl).2 = replS s a (replS t (b + 1) xs tl).1 (replS t (b + 1) xs tl).2 := ih
    show ((p, c) :: (replS t b (replS s a xs tl).1 (replS s a xs tl).2).1, (replS t b (replS s a xs tl).1 (replS s a xs tl).2).2) = ((p, c) :: (replS s a (replS t (b + 1) xs tl).1 (replS t (b + 1) xs tl).2).1, (replS s a (replS t (b + 1) xs tl).1 (replS t (b + 1) xs tl).2).2)
    rw [ih']
/-- Two conflicts are settled in either order. -/
theorem stl_comm (s t a b : Nat) (L : List (RgA α)) (h : a < b) (hb : b < (sgF [] L).1.length) : stlF (b - 1) t 0 (stlF a s 0 L []) [] = stlF a s 0 (stlF b t 0 L []) [] := by
  rw [stl_eq a s L, stl_eq b t L, stl_eq, stl_eq, sg_emit, sg_emit]
  show emitF (replS t (b - 1) (replS s a _ _).1 (replS s a _ _).2).1 _ = _
  rw [replS_comm s t a b _ _ h hb]
end
end Go.Proofs.Ythobbcafemkhbaa
