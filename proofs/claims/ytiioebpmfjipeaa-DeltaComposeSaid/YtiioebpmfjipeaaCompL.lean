/- Plain: what the laws on Compose ask. -/
import Derived.Test.YtiioebpmfjipeaaCompP
namespace Go.Proofs.Ytiioebpmfjipeaa
set_option linter.unusedVariables false
set_option linter.unusedSimpArgs false

theorem checkD_mono {n m : Int} {l : List DOp} (h : checkD l n = 0) (hm : n ≤ m) (hm2 : m ≤ 65536) : checkD l m = 0 := by
  obtain ⟨⟨h0, h1⟩, h2, h3⟩ := checkD_iff.1 h
  exact checkD_of (by omega) hm2 (fun x hx => ⟨(h2 x hx).1, fun hc => by have := (h2 x hx).2 hc; omega⟩) h3
theorem composeD_ok {n : Int} {xs ys : List DOp} (h1 : checkD xs n = 0) (h2 : checkD ys (sumD xs) = 0) :
    composeD n xs ys = (joinD (compRaw xs ys), 0) ∧ checkD (joinD (compRaw xs ys)) n = 0 ∧ sumD (joinD (compRaw xs ys)) = sumD ys ∧ Jnd (joinD (compRaw xs ys)) ∧ ∀ a : List UInt8, (a.length : Int) = n → appL a (joinD (compRaw xs ys)) = appL (appL a xs) ys := by
  obtain ⟨⟨a0, a1⟩, a2, a3⟩ := checkD_iff.1 h1
  obtain ⟨_, b2, b3⟩ := checkD_iff.1 h2
  obtain ⟨q1, q2, q3⟩ := comp_all a2 ys b2
  obtain ⟨r1, r2, r3⟩ := join_val q1
  refine ⟨?_, checkD_of a0 a1 r1 (by omega), by rw [r2, q2], join_jnd q1, fun a ha => by rw [r3 a ha, q3 a ha]⟩
  unfold composeD
  rw [if_neg (fun e => e h1), if_neg (fun e => e h2)]
theorem composeD_len (n : Int) (xs ys : List DOp) : (composeD n xs ys).1.length ≤ 65536 := by
  by_cases h1 : checkD xs n = 0
  · by_cases h2 : checkD ys (sumD xs) = 0
    · obtain ⟨e, hc, _⟩ := composeD_ok h1 h2
      rw [e]
      have hv := (checkD_iff.1 hc).2
      have := val_count hv.1
      simp only
      omega
    · unfold composeD
      rw [if_neg (fun e => e h1), if_pos h2]
      simp
  · unfold composeD
    rw [if_pos h1]
    simp
theorem chk64 {l : List DOp} {n : Int} (h : checkD l n = 0) : ∀ x ∈ l, Int64 x.off ∧ Int64 x.len ∧ x.data.length ≤ 9000000000000000000 := fun x hx => by
  have hn := (checkD_iff.1 h).1
  have hc := check_can (checkD_mono h hn.2 (Int.le_refl _)) x hx
  have e1 := hc.o0
  have e2 := hc.o1
  have e3 := hc.l0
  have e4 := hc.l1
  have e5 := hc.d1
  exact ⟨⟨by omega, by omega⟩, ⟨by omega, by omega⟩, by omega⟩
theorem addD_len' (l : List DOp) (x : DOp) : (addD l x).length ≤ l.length + 1 := by
  rcases List.eq_nil_or_concat l with rfl | ⟨ys, y, rfl⟩
  · simp [addD]
  · rw [List.concat_eq_append, addD_last]
    split
    · simp
    · split <;> simp
theorem fold_len' : ∀ (l xs : List DOp), (l.foldl addD xs).length ≤ xs.length + l.length
  | [], xs => by simp
  | x :: l, xs => by
    have h1 := addD_len' xs x
    have h2 := fold_len' l (addD xs x)
    rw [List.foldl_cons, List.length_cons]
    omega
theorem ident_all {k : Int} {l : List DOp} (h : checkD l k = 0) (hl : l ≠ []) (hk : 0 < k) :
    composeD k [⟨0, k, []⟩] l = (joinD l, 0) ∧ composeD k l [⟨0, sumD l, []⟩] = (joinD l, 0) ∧ composeD k (joinD l) [⟨0, sumD l, []⟩] = (joinD l, 0) ∧ (joinD l).length ≤ l.length ∧ sumD (joinD l) = sumD l ∧ checkD (joinD l) k = 0 ∧ 0 < sumD l ∧ sumD l ≤ 65536 := by
  obtain ⟨⟨a0, a1⟩, a2, a3⟩ := checkD_iff.1 h
  obtain ⟨r1, r2, _⟩ := join_val a2
  have hpos : 0 < sumD l := by
    have h1 := val_count a2
    have h2 := List.length_pos_iff.2 hl
    omega
  have hcj : checkD (joinD l) k = 0 := checkD_of a0 a1 r1 (by omega)
  have hone : ∀ m : Int, 0 < m → m ≤ 65536 → checkD [⟨0, m, []⟩] m = 0 ∧ sumD [⟨0, m, []⟩] = m := fun m hm hm2 => by
    have hz : szD ⟨0, m, []⟩ = m := if_pos hm
    have hs : sumD [⟨0, m, []⟩] = m := by show szD ⟨0, m, []⟩ + 0 = m; omega
    exact ⟨checkD_of (by omega) hm2 (ValL.cons ⟨.inl ⟨hm, rfl⟩, fun _ => by simp only; omega⟩ (ValL.nil m)) (by omega), hs⟩
  obtain ⟨k1, k2⟩ := hone k hk a1
  obtain ⟨s1, s2⟩ := hone (sumD l) hpos (by omega)
  have e1 := (composeD_ok (n := k) (xs := [⟨0, k, []⟩]) (ys := l) k1 (by rw [k2]; exact h)).1
  have e2 := (composeD_ok (n := k) (xs := l) (ys := [⟨0, sumD l, []⟩]) h s1).1
  have e3 := (composeD_ok (n := k) (xs := joinD l) (ys := [⟨0, sumD l, []⟩]) hcj (by rw [r2]; exact s1)).1
  rw [comp_before l a2] at e1
  rw [comp_after a2 hpos] at e2
  have e4 : compRaw (joinD l) [⟨0, sumD l, []⟩] = joinD l := by
    have := comp_after r1 (by omega)
    rwa [r2] at this
  rw [e4, join_same r1 (join_jnd a2)] at e3
  refine ⟨e1, e2, e3, ?_, r2, hcj, hpos, a3⟩
  rw [joinD_eq fun x hx => (a2 x hx).1]
  have := fold_len' l []
  simpa using this
/-- Composition's answers. -/
theorem compo_all {a : List UInt8} {xs ys : List DOp} :
    ((applyD a xs).2 ≠ 0 → (composeD a.length xs ys).2 = (applyD a xs).2) ∧
    ((applyD a xs).2 = 0 → (applyD (applyD a xs).1 ys).2 ≠ 0 → (composeD a.length xs ys).2 = (applyD (applyD a xs).1 ys).2) ∧
    ((applyD a xs).2 = 0 → (applyD (applyD a xs).1 ys).2 = 0 → (composeD a.length xs ys).2 = 0 ∧ Jnd (composeD a.length xs ys).1 ∧ checkD (composeD a.length xs ys).1 a.length = 0 ∧ applyD a (composeD a.length xs ys).1 = ((applyD (applyD a xs).1 ys).1, 0)) := by
  have hx : (applyD a xs).2 = checkD xs a.length := by
    unfold applyD
    split
    · rename_i h; exact h.symm
    · rfl
  have hy : ∀ b : List UInt8, (applyD b ys).2 = checkD ys b.length := fun b => by
    unfold applyD
    split
    · rename_i h; exact h.symm
    · rfl
  refine ⟨fun h => ?_, fun h h' => ?_, fun h h' => ?_⟩
  · rw [hx] at h ⊢
    unfold composeD
    rw [if_pos h]
  · rw [hx] at h
    have e1 : (applyD a xs).1 = appL a xs := by unfold applyD; rw [if_pos h]
    rw [e1] at h' ⊢
    rw [hy, appL_len a xs (checkD_iff.1 h).2.1] at h' ⊢
    unfold composeD
    rw [if_neg (fun e => e h), if_pos h']
  · rw [hx] at h
    have e1 : (applyD a xs).1 = appL a xs := by unfold applyD; rw [if_pos h]
    rw [e1] at h' ⊢
    rw [hy, appL_len a xs (checkD_iff.1 h).2.1] at h'
    obtain ⟨c1, c2, c3, c4, c5⟩ := composeD_ok h h'
    rw [c1]
    refine ⟨rfl, c4, c2, ?_⟩
    have e2 : applyD (appL a xs) ys = (appL (appL a xs) ys, 0) := by
      unfold applyD
      rw [appL_len a xs (checkD_iff.1 h).2.1, if_pos h']
    have e3 : applyD a (joinD (compRaw xs ys)) = (appL a (joinD (compRaw xs ys)), 0) := by
      unfold applyD
      rw [if_pos c2]
    rw [e2, e3, c5 a rfl]
end Go.Proofs.Ytiioebpmfjipeaa
