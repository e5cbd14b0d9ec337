/- Plain laws on differences of lists: the distance, the application, the inversion. No program in sight. -/
import Derived.Test.YthobbcafemkhbaaPlain
namespace Go.Proofs.Ythobbcafemkhbaa

section
variable {α : Type} [DecidableEq α]

open List
/-- A common sublist gives a bound. -/
theorem dist_le_of_sub : ∀ (p q l : List α), l <+ p → l <+ q → dist p q + 2 * l.length ≤ p.length + q.length
  | [], q, l, h1, h2 => by
    have : l = [] := by simpa using h1
    subst this; simp [dist_nil]
  | a :: p, [], l, h1, h2 => by
    have : l = [] := by simpa using h2
    subst this; simp [dist_cons_nil]
  | a :: p, b :: q, l, h1, h2 => by
    rw [dist_cons]
    split
    · rename_i e
      subst e
      -- drop the head of l
      cases l with
      | nil =>
        have := dist_le_of_sub p q [] (by simp) (by simp)
        simp at *; omega
      | cons c l =>
        have k1 : l <+ p := by
          cases h1 with
          | cons _ h => exact (List.sublist_cons_self c l).trans h
          | cons_cons _ h => exact h
        have k2 : l <+ q := by
          cases h2 with
          | cons _ h => exact (List.sublist_cons_self c l).trans h
          | cons_cons _ h => exact h
        have := dist_le_of_sub p q l k1 k2
        simp at *; omega
    · rename_i e
      have key : l <+ p ∨ l <+ q := by
        cases h1 with
        | cons _ h => exact .inl h
        | cons_cons _ h =>
          cases h2 with
          | cons _ h' => exact .inr h'
          | cons_cons _ h' => exact absurd rfl e
      rcases key with k | k
      · have := dist_le_of_sub p (b :: q) l k h2
        simp at *; omega
      · have := dist_le_of_sub (a :: p) q l h1 k
        simp at *; omega

theorem exists_sub : ∀ (p q : List α), ∃ l, l <+ p ∧ l <+ q ∧ dist p q + 2 * l.length = p.length + q.length
  | [], q => ⟨[], by simp, by simp, by simp [dist_nil]⟩
  | a :: p, [] => ⟨[], by simp, by simp, by simp [dist_cons_nil]⟩
  | a :: p, b :: q => by
    rw [dist_cons]
    split
    · rename_i e
      subst e
      obtain ⟨l, h1, h2, h3⟩ := exists_sub p q
      exact ⟨a :: l, h1.cons_cons a, h2.cons_cons a, by simp; omega⟩
    · obtain ⟨l, h1, h2, h3⟩ := exists_sub p (b :: q)
      obtain ⟨m, g1, g2, g3⟩ := exists_sub (a :: p) q
      by_cases h : dist p (b :: q) ≤ dist (a :: p) q
      · rw [Nat.min_eq_left h]
        exact ⟨l, h1.cons a, h2, by simp at *; omega⟩
      · rw [Nat.min_eq_right (by omega)]
        exact ⟨m, g1, g2.cons b, by simp at *; omega⟩

theorem dist_comm (p q : List α) : dist p q = dist q p := by
  obtain ⟨l, h1, h2, h3⟩ := exists_sub p q
  obtain ⟨m, g1, g2, g3⟩ := exists_sub q p
  have a1 := dist_le_of_sub q p l h2 h1
  have a2 := dist_le_of_sub p q m g2 g1
  omega

omit [DecidableEq α] in
/-- Two sublists of one list have a long common one. -/
theorem common_sub : ∀ (b l m : List α), l <+ b → m <+ b → ∃ k, k <+ l ∧ k <+ m ∧ l.length + m.length ≤ b.length + k.length
  | [], l, m, h1, h2 => by
    have e1 : l = [] := by simpa using h1
    have e2 : m = [] := by simpa using h2
    subst e1 e2
    exact ⟨[], by simp, by simp, by simp⟩
  | x :: b, l, m, h1, h2 => by
    cases h1 with
    | cons _ h1 =>
      cases h2 with
      | cons _ h2 =>
        obtain ⟨k, a1, a2, a3⟩ := common_sub b l m h1 h2
        exact ⟨k, a1, a2, by simp; omega⟩
      | cons_cons _ h2 =>
        rename_i m
        obtain ⟨k, a1, a2, a3⟩ := common_sub b l m h1 h2
        exact ⟨k, a1, a2.cons x, by simp; omega⟩
    | cons_cons _ h1 =>
      rename_i l
      cases h2 with
      | cons _ h2 =>
        obtain ⟨k, a1, a2, a3⟩ := common_sub b l m h1 h2
        exact ⟨k, a1.cons x, a2, by simp; omega⟩
      | cons_cons _ h2 =>
        rename_i m
        obtain ⟨k, a1, a2, a3⟩ := common_sub b l m h1 h2
        exact ⟨x :: k, a1.cons_cons x, a2.cons_cons x, by simp; omega⟩

theorem dist_tri (a b c : List α) : dist a c ≤ dist a b + dist b c := by
  obtain ⟨l, h1, h2, h3⟩ := exists_sub a b
  obtain ⟨m, g1, g2, g3⟩ := exists_sub b c
  obtain ⟨k, k1, k2, k3⟩ := common_sub b l m h2 g1
  have := dist_le_of_sub a c k (k1.trans h1) (k2.trans g2)
  omega
theorem dist_zero (a b : List α) : dist a b = 0 ↔ a = b := by
  constructor
  · intro h
    obtain ⟨l, h1, h2, h3⟩ := exists_sub a b
    have e1 := h1.length_le
    have e2 := h2.length_le
    rw [← h1.eq_of_length (by omega), h2.eq_of_length (by omega)]
  · rintro rfl
    have := dist_le_of_sub a a a (List.Sublist.refl _) (List.Sublist.refl _)
    omega
theorem dist_app (s p q : List α) : dist (s ++ p) (s ++ q) = dist p q := by
  induction s with
  | nil => rfl
  | cons x s ih => rw [List.cons_append, List.cons_append, dist_cons, if_pos rfl, ih]
theorem dist_rev (p q : List α) : dist p.reverse q.reverse = dist p q := by
  have key : ∀ p q : List α, dist p.reverse q.reverse ≤ dist p q := fun p q => by
    obtain ⟨l, h1, h2, h3⟩ := exists_sub p q
    have := dist_le_of_sub p.reverse q.reverse l.reverse (List.reverse_sublist.2 h1) (List.reverse_sublist.2 h2)
    simp at this; omega
  have a := key p q
  have b := key p.reverse q.reverse
  simp at b; omega
theorem dist_app_r (s p q : List α) : dist (p ++ s) (q ++ s) = dist p q := by
  rw [← dist_rev, List.reverse_append, List.reverse_append, dist_app, dist_rev]
theorem dist_len (a b : List α) : a.length ≤ b.length + dist a b ∧ b.length ≤ a.length + dist a b ∧ dist a b ≤ a.length + b.length := by
  obtain ⟨l, h1, h2, h3⟩ := exists_sub a b
  have e1 := h1.length_le
  have e2 := h2.length_le
  omega

/-! ### the middle parts -/
theorem mid_eq (a b : List α) : ∃ s t, a = s ++ midL a b ++ t ∧ b = s ++ midR a b ++ t ∧ s.length = cpre a b := by
  have h1 := cpre_le a b
  have h2 := cpre_le (a.drop (cpre a b)).reverse (b.drop (cpre a b)).reverse
  have h3 := csuf_le a b
  have hc : cpre (a.drop (cpre a b)).reverse (b.drop (cpre a b)).reverse = csuf a b := rfl
  rw [hc] at h2
  have key : ∀ (l : List α), cpre a b + csuf a b ≤ l.length → l = l.take (cpre a b) ++ (l.drop (cpre a b)).take (l.length - csuf a b - cpre a b) ++ ((l.drop (cpre a b)).reverse.take (csuf a b)).reverse := by
    intro l hl
    rw [List.take_reverse, List.reverse_reverse, List.append_assoc, show (l.drop (cpre a b)).length - csuf a b = l.length - csuf a b - cpre a b by simp; omega, List.take_append_drop, List.take_append_drop]
  refine ⟨a.take (cpre a b), ((a.drop (cpre a b)).reverse.take (csuf a b)).reverse, ?_, ?_, ?_⟩
  · exact key a h3.1
  · rw [h1.2.2, h2.2.2]; exact key b h3.2
  · rw [List.length_take]; omega

theorem dist_mid (a b : List α) : dist (midL a b) (midR a b) = dist a b := by
  obtain ⟨s, t, h1, h2, _⟩ := mid_eq a b
  generalize midL a b = p at *
  generalize midR a b = q at *
  subst h1 h2
  rw [dist_app_r, dist_app]

theorem size_diffL_dist (a b : List α) : sizeH (diffL a b) = dist a b := by rw [size_diffL, dist_mid]

/-! ### the elements of a script -/
section
omit [DecidableEq α]
def src : List (Nat × α) → List α
  | [] => []
  | (0, x) :: s => x :: src s
  | (1, x) :: s => x :: src s
  | (_, _) :: s => src s
def dst : List (Nat × α) → List α
  | [] => []
  | (0, x) :: s => x :: dst s
  | (1, _) :: s => dst s
  | (_, x) :: s => x :: dst s
theorem src_map1 : ∀ l : List α, src (l.map ((1, ·))) = l
  | [] => rfl
  | x :: l => congrArg (x :: ·) (src_map1 l)
theorem dst_map1 : ∀ l : List α, dst (l.map ((1, ·))) = []
  | [] => rfl
  | _ :: l => dst_map1 l
theorem src_map2 : ∀ l : List α, src (l.map ((2, ·))) = []
  | [] => rfl
  | _ :: l => src_map2 l
theorem dst_map2 : ∀ l : List α, dst (l.map ((2, ·))) = l
  | [] => rfl
  | x :: l => congrArg (x :: ·) (dst_map2 l)
end
theorem src_script : ∀ (p q : List α), src (script p q) = p
  | [], q => by rw [script_nil, src_map2]
  | a :: p, [] => by rw [script_cons_nil]; exact congrArg (a :: ·) (src_map1 p)
  | a :: p, b :: q => by
    rw [script_cons]
    split
    · exact congrArg (a :: ·) (src_script p q)
    · split
      · exact congrArg (a :: ·) (src_script p (b :: q))
      · exact src_script (a :: p) q
theorem dst_script : ∀ (p q : List α), dst (script p q) = q
  | [], q => by rw [script_nil, dst_map2]
  | a :: p, [] => by rw [script_cons_nil]; exact dst_map1 p
  | a :: p, b :: q => by
    rw [script_cons]
    split
    · rename_i h
      subst h
      exact congrArg (a :: ·) (dst_script p q)
    · split
      · exact dst_script p (b :: q)
      · exact congrArg (b :: ·) (dst_script (a :: p) q)

/-! ### application -/
/-- The application from place k on: the lines, or the number of the fault. -/
def apR (a : List α) : Nat → List (Int × List α × List α) → Except Int (List α)
  | k, [] => .ok (a.drop k)
  | k, (n, o, e) :: l =>
    if n < (k : Int) then .error 10
    else if (a.length : Int) < n + (o.length : Int) then .error 2
    else if ¬ (a.drop n.toNat).take o.length = o then .error 11
    else match apR a (n.toNat + o.length) l with
      | .ok r => .ok ((a.drop k).take (n.toNat - k) ++ e ++ r)
      | .error c => .error c

theorem apR_nil (a : List α) (k : Nat) : apR a k [] = .ok (a.drop k) := rfl
theorem apR_ok {a : List α} {k m : Nat} {n : Int} {o e r : List α} {l : List (Int × List α × List α)} (hn : n = (m : Int)) (h1 : k ≤ m) (h2 : m + o.length ≤ a.length) (h3 : (a.drop m).take o.length = o)
    (h4 : apR a (m + o.length) l = .ok r) : apR a k ((n, o, e) :: l) = .ok ((a.drop k).take (m - k) ++ e ++ r) := by
  subst hn
  rw [apR, if_neg (by omega), if_neg (by omega), if_neg (by simpa using h3), Int.toNat_natCast, h4]

theorem ap_hkF (a t : List α) : ∀ (s : List (Nat × α)) (m k : Nat) (cur : Option (Int × List α × List α)) (mid : List α),
    (match cur with
      | none => k ≤ m ∧ m ≤ a.length ∧ mid = (a.drop k).take (m - k) ∧ a.drop m = src s ++ t
      | some (c, o, e) => ∃ n : Nat, c = (n : Int) ∧ k ≤ n ∧ n ≤ a.length ∧ m = n + o.length ∧ mid = (a.drop k).take (n - k) ++ e ∧ a.drop n = o ++ (src s ++ t)) →
    apR a k (hkF m cur s) = .ok (mid ++ (dst s ++ t))
  | [], m, k, none, mid, ⟨h1, h1', h2, h3⟩ => by
    show apR a k [] = _
    rw [apR_nil, h2]
    show _ = Except.ok (_ ++ t)
    rw [show t = a.drop m by simpa [src] using h3.symm]
    congr 1
    rw [show a.drop m = (a.drop k).drop (m - k) by rw [List.drop_drop]; congr 1; omega, List.take_append_drop]
  | [], m, k, some (c, o, e), mid, ⟨n, h0, h1, h1', h2, h3, h4⟩ => by
    show apR a k [(c, o, e)] = _
    have h4' : a.drop n = o ++ t := by simpa [src] using h4
    have hl := congrArg List.length h4'
    simp at hl
    have h5 : a.drop (n + o.length) = t := by rw [← List.drop_drop, h4', List.drop_left]
    rw [apR_ok (r := t) h0 h1 (by omega) (by rw [h4', List.take_left]) (by rw [apR_nil, h5]), h3]
    rfl
  | (0, x) :: s, m, k, none, mid, ⟨h1, h1', h2, h3⟩ => by
    show apR a k (hkF (m + 1) none s) = _
    have h3' : a.drop m = x :: (src s ++ t) := h3
    have hl := congrArg List.length h3'
    simp at hl
    have h5 : a.drop (m + 1) = src s ++ t := by rw [← List.drop_drop, h3', List.drop_one]; rfl
    rw [ap_hkF a t s (m + 1) k none (mid ++ [x]) ⟨by omega, by omega, ?_, h5⟩]
    · simp [dst]
    · rw [h2, show m + 1 - k = (m - k) + 1 by omega, List.take_add_one, List.getElem?_drop, show k + (m - k) = m by omega]
      have : a[m]? = some x := by
        have := congrArg (·[0]?) h3'
        simpa [List.getElem?_drop] using this
      rw [this]; rfl
  | (0, x) :: s, m, k, some (c, o, e), mid, ⟨n, h0, h1, h1', h2, h3, h4⟩ => by
    show apR a k ((c, o, e) :: hkF (m + 1) none s) = _
    have h4' : a.drop n = o ++ (x :: (src s ++ t)) := h4
    have hl := congrArg List.length h4'
    simp at hl
    have h5 : a.drop m = x :: (src s ++ t) := by rw [h2, ← List.drop_drop, h4', List.drop_left]
    have h6 : a.drop (m + 1) = src s ++ t := by rw [← List.drop_drop, h5, List.drop_one]; rfl
    have hx : a[m]? = some x := by
      have := congrArg (·[0]?) h5
      simpa [List.getElem?_drop] using this
    have ih := ap_hkF a t s (m + 1) (n + o.length) none [x] ⟨by omega, by omega, by rw [← h2, show m + 1 - m = 1 by omega, h5]; rfl, h6⟩
    rw [apR_ok h0 h1 (by omega) (by rw [h4', List.take_left]) ih, h3]
    simp [dst]
  | (1, x) :: s, m, k, none, mid, ⟨h1, h1', h2, h3⟩ => by
    show apR a k (hkF (m + 1) (some ((m : Int), [x], [])) s) = _
    rw [ap_hkF a t s (m + 1) k (some ((m : Int), [x], [])) mid ⟨m, rfl, h1, h1', rfl, by rw [h2, List.append_nil], h3⟩]
    rfl
  | (1, x) :: s, m, k, some (c, o, e), mid, ⟨n, h0, h1, h1', h2, h3, h4⟩ => by
    show apR a k (hkF (m + 1) (some (c, o ++ [x], e)) s) = _
    rw [ap_hkF a t s (m + 1) k (some (c, o ++ [x], e)) mid ⟨n, h0, h1, h1', by rw [h2, List.length_append]; rfl, h3, by rw [h4, List.append_assoc]; rfl⟩]
    rfl
  | (j + 2, x) :: s, m, k, none, mid, ⟨h1, h1', h2, h3⟩ => by
    show apR a k (hkF m (some ((m : Int), [], [x])) s) = _
    rw [ap_hkF a t s m k (some ((m : Int), [], [x])) (mid ++ [x]) ⟨m, rfl, h1, h1', rfl, by rw [h2], h3⟩]
    simp [dst]
  | (j + 2, x) :: s, m, k, some (c, o, e), mid, ⟨n, h0, h1, h1', h2, h3, h4⟩ => by
    show apR a k (hkF m (some (c, o, e ++ [x])) s) = _
    rw [ap_hkF a t s m k (some (c, o, e ++ [x])) (mid ++ [x]) ⟨n, h0, h1, h1', h2, by rw [h3, List.append_assoc], h4⟩]
    simp [dst]

omit [DecidableEq α] in
theorem drop_mid {a s p t : List α} {n : Nat} (h : a = s ++ p ++ t) (hn : s.length = n) : a.drop n = p ++ t ∧ n ≤ a.length := by
  subst h hn
  rw [List.append_assoc, List.drop_left]
  exact ⟨rfl, by simp⟩

/-- The difference leads from the first list to the second. -/
theorem ap_diffL (a b : List α) : apR a 0 (diffL a b) = .ok b := by
  obtain ⟨s, t, h1, h2, h3⟩ := mid_eq a b
  have h4 := drop_mid h1 h3
  unfold diffL
  rw [ap_hkF a t _ (cpre a b) 0 none ((a.drop 0).take (cpre a b - 0)) ⟨by omega, h4.2, rfl, by rw [src_script]; exact h4.1⟩, dst_script]
  congr 1
  conv => rhs; rw [h2]
  rw [List.append_assoc]
  congr 1
  rw [← h3, List.drop_zero, Nat.sub_zero, h1, List.append_assoc, List.take_left]

/-! ### separation -/
/-- Each hunk changes something, and lies behind the end of the one before it. -/
def sepB (n : Nat) : Int → List (Int × List α × List α) → Prop
  | _, [] => True
  | z, (c, o, e) :: l => (0 < o.length + e.length ∧ z < c ∧ 0 ≤ c ∧ c + (o.length : Int) ≤ (n : Int)) ∧ sepB n (c + (o.length : Int)) l

omit [DecidableEq α] in
theorem sep_hkF (N : Nat) : ∀ (s : List (Nat × α)) (m : Nat) (z : Int) (cur : Option (Int × List α × List α)), -1 ≤ z → m + (src s).length ≤ N →
    (match cur with
      | none => z < (m : Int)
      | some (c, o, e) => 0 < o.length + e.length ∧ z < c ∧ (m : Int) = c + (o.length : Int)) → sepB N z (hkF m cur s)
  | [], m, z, none, _, _, _ => trivial
  | [], m, z, some (c, o, e), hz, hm, ⟨h1, h2, h3⟩ => ⟨⟨h1, h2, by omega, by simp [src] at hm; omega⟩, trivial⟩
  | (0, x) :: s, m, z, none, hz, hm, h => sep_hkF N s (m + 1) z none hz (by simp [src] at hm; omega) (by simp only at h ⊢; omega)
  | (0, x) :: s, m, z, some (c, o, e), hz, hm, ⟨h1, h2, h3⟩ => ⟨⟨h1, h2, by omega, by simp [src] at hm; omega⟩, sep_hkF N s (m + 1) _ none (by omega) (by simp [src] at hm; omega) (by simp only; omega)⟩
  | (1, x) :: s, m, z, none, hz, hm, h => sep_hkF N s (m + 1) z (some ((m : Int), [x], [])) hz (by simp [src] at hm; omega) ⟨by simp, h, by simp⟩
  | (1, x) :: s, m, z, some (c, o, e), hz, hm, ⟨h1, h2, h3⟩ => sep_hkF N s (m + 1) z (some (c, o ++ [x], e)) hz (by simp [src] at hm; omega) ⟨by simp; omega, h2, by simp; omega⟩
  | (j + 2, x) :: s, m, z, none, hz, hm, h => sep_hkF N s m z (some ((m : Int), [], [x])) hz (by simpa [src] using hm) ⟨by simp, h, by simp⟩
  | (j + 2, x) :: s, m, z, some (c, o, e), hz, hm, ⟨h1, h2, h3⟩ => sep_hkF N s m z (some (c, o, e ++ [x])) hz (by simpa [src] using hm) ⟨by simp; omega, h2, h3⟩

theorem sep_diffL (a b : List α) : sepB a.length (-1) (diffL a b) := by
  obtain ⟨s, t, h1, h2, h3⟩ := mid_eq a b
  refine sep_hkF _ _ _ _ none (by omega) ?_ (by simp only; omega)
  rw [src_script, ← h3]
  have := congrArg List.length h1
  simp at this; omega

/-! ### the least size -/
theorem ap_least (a : List α) : ∀ (l : List (Int × List α × List α)) (k : Nat) (b : List α), apR a k l = .ok b → dist (a.drop k) b ≤ sizeH l
  | [], k, b, h => by
    have h' : a.drop k = b := by simpa [apR] using h
    rw [(dist_zero _ _).2 h']; omega
  | (n, o, e) :: l, k, b, h => by
    rw [apR] at h
    split at h
    · cases h
    · split at h
      · cases h
      · split at h
        · cases h
        · rename_i g1 g2 g3
          split at h
          · rename_i r hr
            injection h with h
            subst h
            have ih := ap_least a l _ r hr
            rw [sizeH_cons]
            have g3' : (a.drop n.toNat).take o.length = o := by simpa using g3
            have e1 : a.drop k = (a.drop k).take (n.toNat - k) ++ (o ++ a.drop (n.toNat + o.length)) := by
              conv => lhs; rw [← List.take_append_drop (n.toNat - k) (a.drop k)]
              congr 1
              rw [List.drop_drop, show k + (n.toNat - k) = n.toNat by omega, ← List.drop_drop]
              conv => lhs; rw [← List.take_append_drop o.length (a.drop n.toNat)]
              rw [g3']
            rw [e1]
            conv => lhs; arg 2; rw [List.append_assoc]
            rw [show ((a.drop k).take (n.toNat - k) ++ (o ++ a.drop (n.toNat + o.length))).take (n.toNat - k) = (a.drop k).take (n.toNat - k) by rw [← e1]] 
            rw [dist_app]
            obtain ⟨c, c1, c2, c3⟩ := exists_sub (a.drop (n.toNat + o.length)) r
            have := dist_le_of_sub (o ++ a.drop (n.toNat + o.length)) (e ++ r) c (c1.trans (List.sublist_append_right _ _)) (c2.trans (List.sublist_append_right _ _))
            simp only [List.length_append] at this ⊢
            omega
          · cases h
end

/-! ### inversion -/
section
variable {α : Type}
def invF (wr : Int → Int) : Int → List (Int × List α × List α) → List (Int × List α × List α)
  | _, [] => []
  | z, (n, o, e) :: l => (wr (n + z), e, o) :: invF wr (z + ((e.length : Int) - (o.length : Int))) l
theorem invF_length (wr : Int → Int) : ∀ (l : List (Int × List α × List α)) (z : Int), (invF wr z l).length = l.length
  | [], _ => rfl
  | _ :: l, _ => congrArg (· + 1) (invF_length wr l _)
theorem invF_append (wr : Int → Int) : ∀ (l m : List (Int × List α × List α)) (z : Int), invF wr z (l ++ m) = invF wr z l ++ invF wr (z + (l.map fun h => (h.2.2.length : Int) - (h.2.1.length : Int)).sum) m
  | [], m, _ => by simp [invF]
  | (n, o, e) :: l, m, z => by simp [invF, invF_append wr l m, Int.add_assoc]
theorem invF_invF (wr : Int → Int) (hw : ∀ n y z : Int, y = -z → wr (wr (n + y) + z) = wr n) : ∀ (l : List (Int × List α × List α)) (z : Int), (∀ h ∈ l, wr h.1 = h.1) → invF wr (-z) (invF wr z l) = l
  | [], _, _ => rfl
  | (n, o, e) :: l, z, hl => by
    have := invF_invF wr hw l (z + ((e.length : Int) - (o.length : Int))) (fun h hm => hl h (List.mem_cons_of_mem _ hm))
    rw [invF, invF, hw n z (-z) (by omega), hl _ List.mem_cons_self, show -z + ((o.length : Int) - (e.length : Int)) = -(z + ((e.length : Int) - (o.length : Int))) by omega, this]
/-- The steps backwards. -/
def swapS : List (Nat × α) → List (Nat × α)
  | [] => []
  | (0, x) :: s => (0, x) :: swapS s
  | (1, x) :: s => (2, x) :: swapS s
  | (_, x) :: s => (1, x) :: swapS s
theorem src_swap : ∀ s : List (Nat × α), src (swapS s) = dst s
  | [] => rfl
  | (0, x) :: s => congrArg (x :: ·) (src_swap s)
  | (1, _) :: s => src_swap s
  | (_ + 2, x) :: s => congrArg (x :: ·) (src_swap s)
theorem dst_swap : ∀ s : List (Nat × α), dst (swapS s) = src s
  | [] => rfl
  | (0, x) :: s => congrArg (x :: ·) (dst_swap s)
  | (1, x) :: s => congrArg (x :: ·) (dst_swap s)
  | (_ + 2, _) :: s => dst_swap s
theorem inv_hkF (wr : Int → Int) (B : Int) (hw : ∀ n : Int, 0 ≤ n → n ≤ B → wr n = n) : ∀ (s : List (Nat × α)) (m m' : Nat) (z : Int) (cur cur' : Option (Int × List α × List α)), (m' : Int) + ((dst s).length : Int) ≤ B →
    (match cur with
      | none => cur' = none ∧ (m' : Int) = m + z
      | some (c, o, e) => cur' = some (c + z, e, o) ∧ 0 ≤ c + z ∧ (m : Int) = c + (o.length : Int) ∧ (m' : Int) = c + z + (e.length : Int)) →
    invF wr z (hkF m cur s) = hkF m' cur' (swapS s)
  | [], m, m', z, none, cur', hB, ⟨h1, h2⟩ => by subst h1; rfl
  | [], m, m', z, some (c, o, e), cur', hB, ⟨h1, h2, h3, h4⟩ => by
    subst h1
    show [(wr (c + z), e, o)] = [(c + z, e, o)]
    rw [hw _ h2 (by omega)]
  | (0, x) :: s, m, m', z, none, cur', hB, ⟨h1, h2⟩ => by
    subst h1
    exact inv_hkF wr B hw s (m + 1) (m' + 1) z none none (by simp [dst] at hB; omega) ⟨rfl, by omega⟩
  | (0, x) :: s, m, m', z, some (c, o, e), cur', hB, ⟨h1, h2, h3, h4⟩ => by
    subst h1
    show (wr (c + z), e, o) :: invF wr _ (hkF (m + 1) none s) = (c + z, e, o) :: hkF (m' + 1) none (swapS s)
    rw [hw _ h2 (by omega), inv_hkF wr B hw s (m + 1) (m' + 1) _ none none (by simp [dst] at hB; omega) ⟨rfl, by omega⟩]
  | (1, x) :: s, m, m', z, none, cur', hB, ⟨h1, h2⟩ => by
    subst h1
    exact inv_hkF wr B hw s (m + 1) m' z (some ((m : Int), [x], [])) (some ((m' : Int), [], [x])) (by simpa [dst] using hB) ⟨by rw [h2], by omega, by simp, by simp [h2]⟩
  | (1, x) :: s, m, m', z, some (c, o, e), cur', hB, ⟨h1, h2, h3, h4⟩ => by
    subst h1
    exact inv_hkF wr B hw s (m + 1) m' z (some (c, o ++ [x], e)) (some (c + z, e, o ++ [x])) (by simpa [dst] using hB) ⟨rfl, h2, by simp; omega, h4⟩
  | (j + 2, x) :: s, m, m', z, none, cur', hB, ⟨h1, h2⟩ => by
    subst h1
    exact inv_hkF wr B hw s m (m' + 1) z (some ((m : Int), [], [x])) (some ((m' : Int), [x], [])) (by simp [dst] at hB; omega) ⟨by rw [h2], by omega, by simp, by simp; omega⟩
  | (j + 2, x) :: s, m, m', z, some (c, o, e), cur', hB, ⟨h1, h2, h3, h4⟩ => by
    subst h1
    exact inv_hkF wr B hw s m (m' + 1) z (some (c, o, e ++ [x])) (some (c + z, e ++ [x], o)) (by simp [dst] at hB; omega) ⟨rfl, h2, h3, by simp; omega⟩
end

section
variable {α : Type} [DecidableEq α]
/-- The opposite difference leads back. -/
theorem ap_inv_diffL (wr : Int → Int) (B : Int) (hw : ∀ n : Int, 0 ≤ n → n ≤ B → wr n = n) (a b : List α) (hB : (b.length : Int) ≤ B) : apR b 0 (invF wr 0 (diffL a b)) = .ok a := by
  obtain ⟨s, t, h1, h2, h3⟩ := mid_eq a b
  have h4 := drop_mid h2 h3
  have hl := congrArg List.length h4.1
  simp at hl
  unfold diffL
  rw [inv_hkF wr B hw _ (cpre a b) (cpre a b) 0 none none (by rw [dst_script]; omega) ⟨rfl, by omega⟩,
    ap_hkF b t _ (cpre a b) 0 none ((b.drop 0).take (cpre a b - 0)) ⟨by omega, h4.2, rfl, by rw [src_swap, dst_script]; exact h4.1⟩, dst_swap, src_script]
  congr 1
  conv => rhs; rw [h1]
  rw [List.append_assoc]
  congr 1
  rw [← h3, List.drop_zero, Nat.sub_zero, h2, List.append_assoc, List.take_left]
omit [DecidableEq α] in
theorem mem_diffL_bounds (a b : List α) : ∀ (l : List (Int × List α × List α)) (z : Int), sepB a.length z l → ∀ h ∈ l, 0 ≤ h.1 ∧ h.1 ≤ (a.length : Int)
  | [], _, _, _, hm => by cases hm
  | (c, o, e) :: l, z, ⟨h1, h2⟩, h, hm => by
    rcases List.mem_cons.1 hm with rfl | hm
    · simp only; omega
    · exact mem_diffL_bounds a b l _ h2 h hm
end
end Go.Proofs.Ythobbcafemkhbaa
