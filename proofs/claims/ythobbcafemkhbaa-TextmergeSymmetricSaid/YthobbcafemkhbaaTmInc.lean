/- Plain: the places of kept lines go up; the merge round by round. -/
import Derived.Test.YthobbcafemkhbaaTmMerge
namespace Go.Proofs.Ythobbcafemkhbaa

/-- Places that go up from lo to below hi; -1 stands for none. -/
def incP : Nat → Nat → List Int → Prop
  | lo, hi, [] => lo ≤ hi
  | lo, hi, z :: l => (z < 0 ∧ incP lo hi l) ∨ ∃ p : Nat, z = (p : Int) ∧ lo ≤ p ∧ p < hi ∧ incP (p + 1) hi l
theorem incP_le {hi : Nat} : ∀ {l : List Int} {lo : Nat}, incP lo hi l → lo ≤ hi
  | [], _, h => h
  | _ :: _, _, .inl h => incP_le h.2
  | _ :: _, _, .inr ⟨_, _, h1, h2, _⟩ => by omega
theorem incP_mono {hi : Nat} : ∀ {l : List Int} {lo lo' : Nat}, incP lo hi l → lo' ≤ lo → incP lo' hi l
  | [], _, _, h, k => Nat.le_trans k h
  | _ :: _, _, _, .inl h, k => .inl ⟨h.1, incP_mono h.2 k⟩
  | _ :: _, _, _, .inr ⟨p, h0, h1, h2, h3⟩, k => .inr ⟨p, h0, by omega, h2, h3⟩
section
variable {α : Type}
theorem incP_plcS : ∀ (s : List (Nat × α)) (k : Nat), incP k (k + (dst s).length) (plcS k s)
  | [], k => Nat.le_refl _
  | (0, x) :: s, k => .inr ⟨k, rfl, Nat.le_refl _, by simp only [dst, List.length_cons]; omega, by
      have := incP_plcS s (k + 1)
      simp only [dst, List.length_cons]
      rwa [show k + ((dst s).length + 1) = k + 1 + (dst s).length by omega]⟩
  | (1, x) :: s, k => .inl ⟨by decide, incP_plcS s k⟩
  | (_ + 2, x) :: s, k => by
    have := incP_plcS s (k + 1)
    show incP k (k + ((dst s).length + 1)) (plcS (k + 1) s)
    rw [show k + ((dst s).length + 1) = k + 1 + (dst s).length by omega]
    exact incP_mono this (by omega)
theorem plcS_len : ∀ (s : List (Nat × α)) (k : Nat), (plcS k s).length = (src s).length
  | [], k => rfl
  | (0, x) :: s, k => congrArg (· + 1) (plcS_len s (k + 1))
  | (1, x) :: s, k => congrArg (· + 1) (plcS_len s k)
  | (_ + 2, x) :: s, k => plcS_len s (k + 1)
variable [DecidableEq α]
theorem plcL_inc (a b : List α) : incP 0 b.length (plcL a b) := by
  rw [plcL_eq]
  have := incP_plcS (scrA a b) 0
  rwa [scrA_dst, Nat.zero_add] at this
theorem plcL_len (a b : List α) : (plcL a b).length = a.length := by
  rw [plcL_eq, plcS_len, scrA_src]

/-! ### one round of the merge -/
variable {a b c : List α} {n i j k : Nat} {X Y : List Int} {L full : List (RgA α)} {x y : Int}
theorem inc_skip {lo hi : Nat} {z : Int} {l : List Int} (h : incP lo hi (z :: l)) : incP lo hi l := by
  rcases h with h | ⟨p, h0, h1, h2, h3⟩
  · exact h.2
  · exact incP_mono h3 (by omega)
theorem inc_take {lo hi : Nat} {z : Int} {l : List Int} (h : incP lo hi (z :: l)) (hz : ¬ z < 0) : ∃ p : Nat, z = (p : Int) ∧ lo ≤ p ∧ p < hi ∧ incP (p + 1) hi l := by
  rcases h with h | h
  · exact absurd h.1 hz
  · exact h
theorem zip_drop : ∀ (X Y : List Int) (n : Nat), (X.zip Y).drop n = (X.drop n).zip (Y.drop n)
  | [], Y, n => by simp
  | X, [], n => by simp
  | x :: X, y :: Y, 0 => rfl
  | x :: X, y :: Y, n + 1 => zip_drop X Y n
theorem mg_skip (h : full = mgI a b c (((x :: X).zip (y :: Y))) n i j k L) (hx : x < 0 ∨ y < 0) : full = mgI a b c (X.zip Y) (n + 1) i j k L := by
  rw [h]
  show (if x < 0 ∨ y < 0 then _ else _) = _
  rw [if_pos hx]
  rfl
theorem mg_take {p q : Nat} (h : full = mgI a b c (((p : Int) :: X).zip ((q : Int) :: Y)) n i j k L) :
    full = mgI a b c (X.zip Y) (n + 1) (n + 1) (p + 1) (q + 1) (addL (addG L ((a.drop i).take (n - i)) ((b.drop j).take (p - j)) ((c.drop k).take (q - k))) ((a.drop n).take 1)) := by
  rw [h]
  show (if (p : Int) < 0 ∨ (q : Int) < 0 then _ else _) = _
  rw [if_neg (by omega)]
  rfl
theorem mg_end (h : full = mgI a b c (([] : List Int).zip Y) n i j k L) : full = addG L (a.drop i) (b.drop j) (c.drop k) := h
end
end Go.Proofs.Ythobbcafemkhbaa
