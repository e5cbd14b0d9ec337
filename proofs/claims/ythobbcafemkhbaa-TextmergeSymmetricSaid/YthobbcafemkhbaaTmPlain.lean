/- Plain merging: the places of kept lines, gaps, regions. -/
import Derived.Test.YthobbcafemkhbaaMetricP
namespace Go.Proofs.Ythobbcafemkhbaa

section
variable {α : Type} [DecidableEq α]

/-! ### places -/
section
omit [DecidableEq α]
/-- The places of the lines from line i on, out of hunks; k is the next place. -/
def plcF (n : Nat) : Nat → Nat → List (Int × List α × List α) → List Int
  | i, k, [] => (List.range (n - i)).map fun j => ((k + j : Nat) : Int)
  | i, k, (z, o, e) :: hs => (List.range (z.toNat - i)).map (fun j => ((k + j : Nat) : Int)) ++ (List.replicate o.length (-1) ++ plcF n (z.toNat + o.length) (k + (z.toNat - i) + e.length) hs)
/-- The same out of a script. -/
def plcS : Nat → List (Nat × α) → List Int
  | _, [] => []
  | k, (0, _) :: s => (k : Int) :: plcS (k + 1) s
  | k, (1, _) :: s => -1 :: plcS k s
  | k, (_, _) :: s => plcS (k + 1) s
theorem range_succ_map (k m : Nat) : (List.range (m + 1)).map (fun j => ((k + j : Nat) : Int)) = (List.range m).map (fun j => ((k + j : Nat) : Int)) ++ [((k + m : Nat) : Int)] := by
  rw [List.range_succ, List.map_append]; rfl
theorem range_cons_map (k m : Nat) : (List.range (m + 1)).map (fun j => ((k + j : Nat) : Int)) = (k : Int) :: (List.range m).map (fun j => ((k + 1 + j : Nat) : Int)) := by
  rw [List.range_succ_eq_map, List.map_cons, List.map_map]
  congr 1
  apply List.map_congr_left
  intro j _
  simp only [Function.comp_def, Nat.succ_eq_add_one]
  omega
theorem plcS_keep : ∀ (t : List α) (k : Nat), plcS k (t.map ((0, ·))) = (List.range t.length).map fun j => ((k + j : Nat) : Int)
  | [], _ => rfl
  | x :: t, k => by
    show (k : Int) :: plcS (k + 1) (t.map ((0, ·))) = _
    rw [plcS_keep t (k + 1), List.length_cons, range_cons_map]
theorem plc_hkF (n : Nat) (t : List α) : ∀ (s : List (Nat × α)) (m i k : Nat) (cur : Option (Int × List α × List α)), n = m + (src s).length + t.length →
    (match cur with
      | none => i ≤ m → plcF n i k (hkF m none s) = (List.range (m - i)).map (fun j => ((k + j : Nat) : Int)) ++ plcS (k + (m - i)) (s ++ t.map ((0, ·)))
      | some (c, o, e) => ∀ z : Nat, c = (z : Int) → i ≤ z → m = z + o.length → plcF n i k (hkF m (some (c, o, e)) s) = (List.range (z - i)).map (fun j => ((k + j : Nat) : Int)) ++ (List.replicate o.length (-1) ++ plcS (k + (z - i) + e.length) (s ++ t.map ((0, ·)))))
  | [], m, i, k, none, hn => fun hi => by
    simp only [src, List.length_nil] at hn
    show (List.range (n - i)).map _ = _
    rw [List.nil_append, plcS_keep]
    have e : n - i = (m - i) + t.length := by omega
    rw [e, List.range_add, List.map_append, List.map_map]
    congr 1
    apply List.map_congr_left
    intro j _
    simp only [Function.comp_def]
    omega
  | [], m, i, k, some (c, o, e), hn => fun z hc hi hm => by
    simp only [src, List.length_nil] at hn
    subst hc
    show (List.range (((z : Int)).toNat - i)).map _ ++ (List.replicate o.length (-1) ++ (List.range (n - (((z : Int)).toNat + o.length))).map _) = _
    rw [Int.toNat_natCast, List.nil_append, plcS_keep, show n - (z + o.length) = t.length by omega]
  | (0, x) :: s, m, i, k, none, hn => fun hi => by
    have hn' : n = m + 1 + (src s).length + t.length := by simp only [src, List.length_cons] at hn; omega
    show plcF n i k (hkF (m + 1) none s) = _
    rw [plc_hkF n t s (m + 1) i k none hn' (by omega), show m + 1 - i = (m - i) + 1 by omega, range_succ_map, List.append_assoc]
    rfl
  | (0, x) :: s, m, i, k, some (c, o, e), hn => fun z hc hi hm => by
    have hn' : n = m + 1 + (src s).length + t.length := by simp only [src, List.length_cons] at hn; omega
    subst hc
    show (List.range (((z : Int)).toNat - i)).map _ ++ (List.replicate o.length (-1) ++ plcF n (((z : Int)).toNat + o.length) (k + (((z : Int)).toNat - i) + e.length) (hkF (m + 1) none s)) = _
    rw [Int.toNat_natCast, plc_hkF n t s (m + 1) (z + o.length) _ none hn' (by omega), show m + 1 - (z + o.length) = 0 + 1 by omega, range_succ_map]
    rfl
  | (1, x) :: s, m, i, k, none, hn => fun hi => by
    have hn' : n = m + 1 + (src s).length + t.length := by simp only [src, List.length_cons] at hn; omega
    show plcF n i k (hkF (m + 1) (some ((m : Int), [x], [])) s) = _
    rw [plc_hkF n t s (m + 1) i k (some ((m : Int), [x], [])) hn' m rfl hi rfl]
    rfl
  | (1, x) :: s, m, i, k, some (c, o, e), hn => fun z hc hi hm => by
    have hn' : n = m + 1 + (src s).length + t.length := by simp only [src, List.length_cons] at hn; omega
    show plcF n i k (hkF (m + 1) (some (c, o ++ [x], e)) s) = _
    rw [plc_hkF n t s (m + 1) i k (some (c, o ++ [x], e)) hn' z hc hi (by rw [List.length_append]; simp; omega), List.length_append, List.length_singleton, List.replicate_succ', List.append_assoc]
    rfl
  | (j + 2, x) :: s, m, i, k, none, hn => fun hi => by
    have hn' : n = m + (src s).length + t.length := hn
    show plcF n i k (hkF m (some ((m : Int), [], [x])) s) = _
    rw [plc_hkF n t s m i k (some ((m : Int), [], [x])) hn' m rfl hi rfl]
    rfl
  | (j + 2, x) :: s, m, i, k, some (c, o, e), hn => fun z hc hi hm => by
    have hn' : n = m + (src s).length + t.length := hn
    show plcF n i k (hkF m (some (c, o, e ++ [x])) s) = _
    rw [plc_hkF n t s m i k (some (c, o, e ++ [x])) hn' z hc hi hm, List.length_append, List.length_singleton]
    rfl
end
def plcL (a b : List α) : List Int := plcF a.length 0 0 (diffL a b)
/-- The whole script from a to b. -/
def scrA (a b : List α) : List (Nat × α) := (a.take (cpre a b)).map ((0, ·)) ++ (script (midL a b) (midR a b) ++ ((a.drop (cpre a b)).drop (midL a b).length).map ((0, ·)))
section
omit [DecidableEq α]
theorem src_app : ∀ s t : List (Nat × α), src (s ++ t) = src s ++ src t
  | [], _ => rfl
  | (0, x) :: s, t => congrArg (x :: ·) (src_app s t)
  | (1, x) :: s, t => congrArg (x :: ·) (src_app s t)
  | (_ + 2, _) :: s, t => src_app s t
theorem dst_app : ∀ s t : List (Nat × α), dst (s ++ t) = dst s ++ dst t
  | [], _ => rfl
  | (0, x) :: s, t => congrArg (x :: ·) (dst_app s t)
  | (1, x) :: s, t => dst_app s t
  | (_ + 2, x) :: s, t => congrArg (x :: ·) (dst_app s t)
theorem src_map0 : ∀ l : List α, src (l.map ((0, ·))) = l
  | [] => rfl
  | x :: l => congrArg (x :: ·) (src_map0 l)
theorem dst_map0 : ∀ l : List α, dst (l.map ((0, ·))) = l
  | [] => rfl
  | x :: l => congrArg (x :: ·) (dst_map0 l)
theorem plcS_app0 : ∀ (l : List α) (s : List (Nat × α)) (k : Nat), plcS k (l.map ((0, ·)) ++ s) = (List.range l.length).map (fun j => ((k + j : Nat) : Int)) ++ plcS (k + l.length) s
  | [], _, _ => rfl
  | x :: l, s, k => by
    show (k : Int) :: plcS (k + 1) (l.map ((0, ·)) ++ s) = _
    rw [plcS_app0 l s (k + 1), List.length_cons, range_cons_map, show k + 1 + l.length = k + (l.length + 1) by omega]
    rfl
end
omit [DecidableEq α] in
theorem app_parts {a s p t : List α} {n : Nat} (h : a = s ++ p ++ t) (hn : s.length = n) : a.take n = s ∧ a.drop n = p ++ t ∧ a.length = n + p.length + t.length := by
  subst h hn
  rw [List.append_assoc]
  exact ⟨List.take_left, List.drop_left, by simp only [List.length_append]; omega⟩
theorem scrA_src (a b : List α) : src (scrA a b) = a := by
  obtain ⟨s, t, h1, h2, h3⟩ := mid_eq a b
  obtain ⟨e1, e2, e3⟩ := app_parts h1 h3
  unfold scrA
  rw [src_app, src_app, src_map0, src_map0, src_script, e2, List.drop_left, ← e2, List.take_append_drop]
theorem scrA_dst (a b : List α) : dst (scrA a b) = b := by
  obtain ⟨s, t, h1, h2, h3⟩ := mid_eq a b
  obtain ⟨e1, e2, e3⟩ := app_parts h1 h3
  unfold scrA
  rw [dst_app, dst_app, dst_map0, dst_map0, dst_script, e2, List.drop_left, e1, ← List.append_assoc]
  exact h2.symm
theorem plcL_eq (a b : List α) : plcL a b = plcS 0 (scrA a b) := by
  obtain ⟨s, t, h1, h2, h3⟩ := mid_eq a b
  obtain ⟨e1, e2, e3⟩ := app_parts h1 h3
  unfold plcL diffL scrA
  rw [e2, List.drop_left, plcS_app0, plc_hkF a.length t (script (midL a b) (midR a b)) (cpre a b) 0 0 none (by rw [src_script]; exact e3) (Nat.zero_le _), List.length_take, show min (cpre a b) a.length = cpre a b by omega]
  rfl
end
end Go.Proofs.Ythobbcafemkhbaa
