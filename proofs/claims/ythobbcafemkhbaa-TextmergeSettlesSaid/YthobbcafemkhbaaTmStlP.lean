/- Plain: settling by the place of a conflict. -/
import Derived.Test.YthobbcafemkhbaaTmClean
import Derived.Test.YthobbcafemkhbaaTmCount
namespace Go.Proofs.Ythobbcafemkhbaa

/-- The place of the i-th conflict, as the program finds it. -/
def plF (i : Int) : Nat → Nat → List Rg → Int → Int
  | _, _, [], pl => pl
  | k, n, x :: t, pl => if x.1 = true then plF i (k + 1) (n + 1) t (if (n : Int) = i then (k : Int) else pl) else plF i (k + 1) n t pl
/-- Settling the region at place p. -/
def stlP (p : Int) (s : Nat) : Nat → List Rg → List Rg → List Rg
  | _, [], out => out
  | k, x :: t, out => stlP p s (k + 1) t (if (k : Int) = p then addL out (side3 s x.2) else if x.1 = true then out ++ [x] else addL out x.2.2.1)
theorem plF_app (i : Int) : ∀ (D : List Rg) (k n : Nat) (R : List Rg) (pl : Int), (∀ m : Nat, n ≤ m → m < n + cntL D → (m : Int) ≠ i) → plF i k n (D ++ R) pl = plF i (k + D.length) (n + cntL D) R pl
  | [], k, n, R, pl, _ => rfl
  | x :: D, k, n, R, pl, h => by
    show (if x.1 = true then plF i (k + 1) (n + 1) (D ++ R) (if (n : Int) = i then (k : Int) else pl) else plF i (k + 1) n (D ++ R) pl) = _
    by_cases hx : x.1 = true
    · have hc : cntL (x :: D) = cntL D + 1 := by unfold cntL; rw [List.countP_cons_of_pos hx]
      rw [if_pos hx, if_neg (h n (Nat.le_refl _) (by omega)), plF_app i D (k + 1) (n + 1) R pl (fun m h1 h2 => h m (by omega) (by omega)), hc, List.length_cons, show k + 1 + D.length = k + (D.length + 1) by omega, show n + 1 + cntL D = n + (cntL D + 1) by omega]
    · have hc : cntL (x :: D) = cntL D := by unfold cntL; rw [List.countP_cons_of_neg hx]
      rw [if_neg hx, plF_app i D (k + 1) n R pl (fun m h1 h2 => h m h1 (by omega)), hc, List.length_cons, show k + 1 + D.length = k + (D.length + 1) by omega]
theorem plF_none (i : Int) (L : List Rg) (k n : Nat) (pl : Int) (h : ∀ m : Nat, n ≤ m → m < n + cntL L → (m : Int) ≠ i) : plF i k n L pl = pl := by
  have := plF_app i L k n [] pl h
  rw [List.append_nil] at this
  rw [this]; rfl
theorem cnt_split : ∀ (L : List Rg) (i : Nat), i < cntL L → ∃ D c R, L = D ++ (true, c) :: R ∧ cntL D = i
  | [], i, h => by cases h
  | (false, c) :: L, i, h => by
    have hc : cntL ((false, c) :: L) = cntL L := by unfold cntL; rw [List.countP_cons_of_neg (by simp)]
    obtain ⟨D, c', R, e, h1⟩ := cnt_split L i (by omega)
    refine ⟨(false, c) :: D, c', R, by rw [e]; rfl, ?_⟩
    unfold cntL at h1 ⊢
    rw [List.countP_cons_of_neg (by simp)]; exact h1
  | (true, c) :: L, 0, _ => ⟨[], c, L, rfl, rfl⟩
  | (true, c) :: L, i + 1, h => by
    have hc : cntL ((true, c) :: L) = cntL L + 1 := by unfold cntL; rw [List.countP_cons_of_pos (by simp)]
    obtain ⟨D, c', R, e, h1⟩ := cnt_split L i (by omega)
    refine ⟨(true, c) :: D, c', R, by rw [e]; rfl, ?_⟩
    unfold cntL at h1 ⊢
    rw [List.countP_cons_of_pos (by simp)]; omega
theorem plF_hit {D R : List Rg} {c : List ByteArray × List ByteArray × List ByteArray} : plF (cntL D : Nat) 0 0 (D ++ (true, c) :: R) (-1) = (D.length : Int) := by
  rw [plF_app _ D 0 0 _ _ (fun m h1 h2 => by omega)]
  show plF _ _ _ R (if ((0 + cntL D : Nat) : Int) = ((cntL D : Nat) : Int) then ((0 + D.length : Nat) : Int) else -1) = _
  rw [if_pos (by omega), plF_none _ R _ _ _ (fun m h1 h2 => by omega), Nat.zero_add]
theorem stlP_app (p : Int) (s : Nat) : ∀ (D : List Rg) (k : Nat) (R out : List Rg), stlP p s k (D ++ R) out = stlP p s (k + D.length) R (stlP p s k D out)
  | [], k, R, out => rfl
  | x :: D, k, R, out => by
    show stlP p s (k + 1) (D ++ R) _ = _
    rw [stlP_app p s D (k + 1) R _, List.length_cons, show k + 1 + D.length = k + (D.length + 1) by omega]; rfl
theorem stlF_app (i s : Nat) : ∀ (D : List Rg) (n : Nat) (R out : List Rg), stlF i s n (D ++ R) out = stlF i s (n + cntL D) R (stlF i s n D out)
  | [], n, R, out => rfl
  | (false, b, l, r) :: D, n, R, out => by
    have hc : cntL ((false, b, l, r) :: D) = cntL D := by unfold cntL; rw [List.countP_cons_of_neg (by simp)]
    show stlF i s n (D ++ R) (addL out l) = _
    rw [stlF_app i s D n R _, hc]; rfl
  | (true, c) :: D, n, R, out => by
    have hc : cntL ((true, c) :: D) = cntL D + 1 := by unfold cntL; rw [List.countP_cons_of_pos (by simp)]
    show stlF i s (n + 1) (D ++ R) _ = _
    rw [stlF_app i s D (n + 1) R _, hc, show n + 1 + cntL D = n + (cntL D + 1) by omega]; rfl
theorem stl_same (i s : Nat) (p : Int) : ∀ (D : List Rg) (k n : Nat) (out : List Rg), (p < k ∨ (k + D.length : Nat) ≤ p) → (i < n ∨ n + cntL D ≤ i) → stlP p s k D out = stlF i s n D out
  | [], _, _, _, _, _ => rfl
  | (false, b, l, r) :: D, k, n, out, h1, h2 => by
    have hc : cntL ((false, b, l, r) :: D) = cntL D := by unfold cntL; rw [List.countP_cons_of_neg (by simp)]
    rw [List.length_cons] at h1
    show stlP p s (k + 1) D (if (k : Int) = p then _ else if (false : Bool) = true then _ else addL out l) = stlF i s n D (addL out l)
    rw [if_neg (by omega), if_neg (by simp)]
    exact stl_same i s p D (k + 1) n _ (by omega) (by omega)
  | (true, c) :: D, k, n, out, h1, h2 => by
    have hc : cntL ((true, c) :: D) = cntL D + 1 := by unfold cntL; rw [List.countP_cons_of_pos (by simp)]
    rw [List.length_cons] at h1
    show stlP p s (k + 1) D (if (k : Int) = p then _ else if (true : Bool) = true then out ++ [(true, c)] else _) = stlF i s (n + 1) D (if n = i then _ else out ++ [(true, c)])
    rw [if_neg (by omega), if_pos rfl, if_neg (by omega)]
    exact stl_same i s p D (k + 1) (n + 1) _ (by omega) (by omega)
/-- Both ways of settling agree. -/
theorem stlP_eq {L : List Rg} {i : Nat} (s : Nat) (h : i < cntL L) : plF (i : Nat) 0 0 L (-1) ≥ 0 ∧ stlP (plF (i : Nat) 0 0 L (-1)) s 0 L [] = stlF i s 0 L [] := by
  obtain ⟨D, c, R, rfl, rfl⟩ := cnt_split L i h
  rw [plF_hit]
  refine ⟨by omega, ?_⟩
  rw [stlP_app, stlF_app, stl_same (cntL D) s D.length D 0 0 [] (by omega) (by omega)]
  show stlP _ s (0 + D.length + 1) R (if ((0 + D.length : Nat) : Int) = (D.length : Int) then addL _ (side3 s c) else _) = stlF _ s (0 + cntL D + 1) R (if 0 + cntL D = cntL D then addL _ (side3 s c) else _)
  rw [if_pos (by omega), if_pos (by omega)]
  exact stl_same _ s _ R _ _ _ (by omega) (by omega)
theorem plF_out {L : List Rg} {i : Int} (h : i < 0 ∨ (cntL L : Int) ≤ i) : plF i 0 0 L (-1) = -1 := plF_none i L 0 0 (-1) fun m h1 h2 => by omega
/-- What Settle returns. -/
def settleS (L : List Rg) (i side : Int) : List Rg × Int :=
  if vldF false L = false then ([], 1) else if i < 0 ∨ (cntL L : Int) ≤ i ∨ side < 0 ∨ 2 < side then ([], 2) else (stlF i.toNat side.toNat 0 L [], 0)
end Go.Proofs.Ythobbcafemkhbaa
