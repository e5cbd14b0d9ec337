/- Plain: joined deltas, by the code's way and by the reference's. -/
import Derived.Test.YtiioebpmfjipeaaPick
namespace Go.Proofs.Ytiioebpmfjipeaa

structure DOp where
  off : Int
  len : Int
  data : List UInt8
deriving DecidableEq
abbrev DOp.cp (x : DOp) : Prop := 0 < x.len ∧ x.data = []
abbrev DOp.ins (x : DOp) : Prop := x.len = 0 ∧ x.off = 0 ∧ x.data ≠ []
/-- The reference: one more element. -/
def addD (l : List DOp) (x : DOp) : List DOp :=
  match l.getLast? with
  | none => l ++ [x]
  | some y => if x.len = 0 ∧ y.len = 0 then l.dropLast ++ [⟨0, 0, y.data ++ x.data⟩] else if 0 < x.len ∧ 0 < y.len ∧ y.off + y.len = x.off then l.dropLast ++ [⟨y.off, y.len + x.len, []⟩] else l ++ [x]
/-- The code: a list and a text that waits. -/
def flushD (s : List DOp × List UInt8) : List DOp := if s.2 = [] then s.1 else s.1 ++ [⟨0, 0, s.2⟩]
def pushD (l : List DOp) (x : DOp) : List DOp :=
  match l.getLast? with
  | none => l ++ [x]
  | some y => if y.cp ∧ y.off + y.len = x.off then l.dropLast ++ [{ y with len := y.len + x.len }] else l ++ [x]
def joinStep (s : List DOp × List UInt8) (x : DOp) : List DOp × List UInt8 := if x.ins then (s.1, s.2 ++ x.data) else (pushD (flushD s) x, [])
def joinD (xs : List DOp) : List DOp := flushD (xs.foldl joinStep ([], []))

def JoinOk (s : List DOp × List UInt8) : Prop := s.1 = [] ∨ ∃ l y, s.1 = l ++ [y] ∧ y.cp
theorem joinStep_ok {s : List DOp × List UInt8} {x : DOp} (h : JoinOk s) (hx : x.cp ∨ x.ins) : JoinOk (joinStep s x) ∧ flushD (joinStep s x) = addD (flushD s) x := by
  obtain ⟨l, t⟩ := s
  by_cases hi : x.ins
  · have e : joinStep (l, t) x = (l, t ++ x.data) := if_pos hi
    obtain ⟨i1, i2, i3⟩ := hi
    rw [e]
    refine ⟨h, ?_⟩
    have hne : t ++ x.data ≠ [] := fun e => i3 (List.append_eq_nil_iff.1 e).2
    have e1 : flushD (l, t ++ x.data) = l ++ [⟨0, 0, t ++ x.data⟩] := if_neg hne
    rw [e1]
    have ex : x = ⟨0, 0, x.data⟩ := by cases x; simp only at i1 i2; subst i1; subst i2; rfl
    by_cases ht : t = []
    · subst ht
      have e2 : flushD (l, []) = l := if_pos rfl
      rw [e2, List.nil_append]
      rcases h with h | ⟨l', y, h, hy⟩
      · simp only at h
        subst h
        simp only [addD, List.getLast?_nil, List.nil_append]
        rw [← ex]
      · simp only at h
        subst h
        have n1 : ¬ (x.len = 0 ∧ y.len = 0) := fun e => by have := hy.1; omega
        have n2 : ¬ (0 < x.len ∧ 0 < y.len ∧ y.off + y.len = x.off) := fun e => by omega
        simp only [addD, List.getLast?_concat, if_neg n1, if_neg n2]
        rw [← ex]
    · have e2 : flushD (l, t) = l ++ [⟨0, 0, t⟩] := if_neg ht
      rw [e2]
      simp only [addD, List.getLast?_concat, List.dropLast_concat, i1, true_and, if_true]
  · have hc : x.cp := hx.resolve_right hi
    have e : joinStep (l, t) x = (pushD (flushD (l, t)) x, []) := if_neg hi
    rw [e]
    have e1 : flushD (pushD (flushD (l, t)) x, []) = pushD (flushD (l, t)) x := if_pos rfl
    rw [e1]
    have n1 : ¬ x.len = 0 := fun e => by have := hc.1; omega
    generalize hm : flushD (l, t) = m
    have hlast : ∀ y, m.getLast? = some y → y.cp ∨ (y.len = 0 ∧ ¬ y.cp) := fun y hy => by
      by_cases ht : t = []
      · subst ht
        have e2 : flushD (l, []) = l := if_pos rfl
        rw [e2] at hm
        subst hm
        rcases h with h | ⟨l', z, h, hz⟩
        · simp only at h; subst h; simp at hy
        · simp only at h; subst h
          rw [List.getLast?_concat] at hy
          cases hy
          exact .inl hz
      · have e2 : flushD (l, t) = l ++ [⟨0, 0, t⟩] := if_neg ht
        rw [e2] at hm
        subst hm
        rw [List.getLast?_concat] at hy
        cases hy
        exact .inr ⟨rfl, fun e => ht e.2⟩
    cases hl : m.getLast? with
    | none =>
      refine ⟨.inr ⟨m, x, ?_, hc⟩, ?_⟩
      · simp only [pushD, hl]
      · simp only [pushD, addD, hl]
    | some y =>
      by_cases hk : y.cp ∧ y.off + y.len = x.off
      · refine ⟨.inr ⟨m.dropLast, { y with len := y.len + x.len }, ?_, ⟨?_, hk.1.2⟩⟩, ?_⟩
        · simp only [pushD, hl, if_pos hk]
        · have := hk.1.1; have := hc.1; simp only; omega
        · have n2 : ¬ (x.len = 0 ∧ y.len = 0) := fun e => n1 e.1
          have n3 : 0 < x.len ∧ 0 < y.len ∧ y.off + y.len = x.off := ⟨hc.1, hk.1.1, hk.2⟩
          simp only [pushD, addD, hl, if_pos hk, if_neg n2, if_pos n3]
          have : ({ y with len := y.len + x.len } : DOp) = ⟨y.off, y.len + x.len, []⟩ := by rw [← hk.1.2]
          rw [this]
      · refine ⟨.inr ⟨m, x, ?_, hc⟩, ?_⟩
        · simp only [pushD, hl, if_neg hk]
        · have n2 : ¬ (x.len = 0 ∧ y.len = 0) := fun e => n1 e.1
          have n3 : ¬ (0 < x.len ∧ 0 < y.len ∧ y.off + y.len = x.off) := fun ⟨_, k2, k3⟩ => by
            rcases hlast y hl with h1 | ⟨h1, _⟩
            · exact hk ⟨h1, k3⟩
            · omega
          simp only [pushD, addD, hl, if_neg hk, if_neg n2, if_neg n3]
theorem joinD_fold : ∀ (xs : List DOp) (s : List DOp × List UInt8), JoinOk s → (∀ x ∈ xs, x.cp ∨ x.ins) → flushD (xs.foldl joinStep s) = xs.foldl addD (flushD s)
  | [], s, h, hx => rfl
  | x :: xs, s, h, hx => by
    obtain ⟨h1, h2⟩ := joinStep_ok h (hx x (by simp))
    rw [List.foldl_cons, List.foldl_cons, ← h2]
    exact joinD_fold xs _ h1 fun y hy => hx y (by simp [hy])
theorem joinD_eq {xs : List DOp} (hx : ∀ x ∈ xs, x.cp ∨ x.ins) : joinD xs = xs.foldl addD [] := joinD_fold xs _ (.inl rfl) hx

/-- The elements of a difference, from a place on. -/
def diffF (a b : List UInt8) : Nat → Nat → List DOp
  | 0, _ => []
  | f + 1, k => if k < b.length then
      (if 4 ≤ (pick a (b.drop k)).2 then ⟨(pick a (b.drop k)).1, (pick a (b.drop k)).2, []⟩ :: diffF a b f (k + (pick a (b.drop k)).2) else ⟨0, 0, (b.drop k).take 1⟩ :: diffF a b f (k + 1))
    else []
theorem diffF_ok (a b : List UInt8) : ∀ f k, ∀ x ∈ diffF a b f k, x.cp ∨ x.ins
  | 0, k, x, hx => by simp [diffF] at hx
  | f + 1, k, x, hx => by
    unfold diffF at hx
    split at hx
    · rename_i hk
      split at hx
      · rcases List.mem_cons.1 hx with h | h
        · subst h
          exact .inl ⟨by simp only; omega, rfl⟩
        · exact diffF_ok a b f _ x h
      · rcases List.mem_cons.1 hx with h | h
        · subst h
          refine .inr ⟨rfl, rfl, fun e => ?_⟩
          have := congrArg List.length e
          simp at this
          omega
        · exact diffF_ok a b f _ x h
    · simp at hx
/-- What a difference is. -/
def diffD (a b : List UInt8) : List DOp := joinD (diffF a b (b.length + 1) 0)
end Go.Proofs.Ytiioebpmfjipeaa
