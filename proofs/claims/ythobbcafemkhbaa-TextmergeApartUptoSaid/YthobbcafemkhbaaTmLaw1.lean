/- The walks of the laws TextmergeMerge and TextmergeSymmetric. -/
import Derived.Test.YthobbcafemkhbaaTmAwake
import Derived.Test.YthobbcafemkhbaaTmExch
namespace Go.Proofs.Ythobbcafemkhbaa
open Go.RowKit
set_option linter.unusedVariables false

theorem few_ok {s : ByteArray} (h : few1 s = true) : s.size ≤ 200 ∧ (lns s).length ≤ 20 := by
  unfold few1 at h
  rw [Bool.and_eq_true] at h
  exact ⟨of_decide_eq_true h.1, of_decide_eq_true h.2⟩
theorem few3 (a b c : ByteArray) : fewB [a, b, c] = (few1 a && (few1 b && few1 c)) := by unfold fewB; simp
theorem few_lit3 (w : World) (a b c : ByteArray) : Calls Try.prog 12 #[.slice (some ⟨w.heap.size, 0, none⟩) 3 3] (w.alloc (.cells #[.string a, .string b, .string c] 9)) fun e w' => e = .returned (.bool (few1 a && (few1 b && few1 c))) ∧ Below w.heap.size w w' := by
  have h := few_any _ _ [a, b, c] (strs_lit w [a, b, c] (by simp))
  rw [few3] at h
  exact h.mono fun e w' ⟨h1, h2⟩ => ⟨h1, ((Below.refl _ _).alloc (Nat.le_refl _) _).trans (h2.mono (by simp))⟩

/-- Two texts merged into one base, both lists of regions. -/
theorem merge_len {a b c : ByteArray} (ha : few1 a = true) (hb : few1 b = true) (hc : few1 c = true) (w : World) :
    Calls Try.prog 14 #[.string a, .string b, .string c] w fun e w' => ∃ v, e = .returned (.tuple #[v, .int .i64 0]) ∧ Rgs w' v (mergeL (lns a) (lns b) (lns c)) ∧ Below w.heap.size w w' := by
  obtain ⟨a1, a2⟩ := few_ok ha
  obtain ⟨b1, b2⟩ := few_ok hb
  obtain ⟨c1, c2⟩ := few_ok hc
  exact merge_any a b c (by omega) (by omega) (by omega) (by omega) (by omega) (by omega) w
theorem rmerge_len {a b c : ByteArray} (ha : few1 a = true) (hb : few1 b = true) (hc : few1 c = true) (w : World) :
    Calls Try.prog 15 #[.string a, .string b, .string c] w fun e w' => ∃ v, e = .returned (.tuple #[v, .int .i64 0]) ∧ Rgs w' v (mergeL (lns a) (lns b) (lns c)) ∧ Below w.heap.size w w' := by
  obtain ⟨a1, a2⟩ := few_ok ha
  obtain ⟨b1, b2⟩ := few_ok hb
  obtain ⟨c1, c2⟩ := few_ok hc
  exact rmerge_any a b c (by omega) (by omega) (by omega) (by omega) (by omega) (by omega) w

theorem mgA_len : ∀ (s t : List (List ByteArray × Bool × ByteArray)) (gb gl gr tl tr : List ByteArray) (L : List Rg), (mgA gb gl gr s t tl tr L).length ≤ L.length + 2 * s.length + 1 := by
  have hL : ∀ (L : List Rg) ls, (addL L ls).length ≤ L.length + 1 := fun L ls => by
    by_cases h0 : ls = []
    · subst h0; rw [addL_nil]; omega
    rcases rg_cases L with e | ⟨L', b, l, r, e⟩ | ⟨L', b, l, r, e⟩
    · subst e; rw [addL_empty h0]; simp
    · subst e; rw [addL_plain _ _ _ _ h0]; simp
    · subst e; rw [addL_conf _ _ _ _ h0]; simp
  have hG : ∀ (L : List Rg) b l r, (addG L b l r).length ≤ L.length + 1 := fun L b l r => by
    rcases addG_cases L b l r with ⟨e, _⟩ | ⟨e, _⟩ | ⟨e, _⟩ <;> rw [e]
    · exact hL _ _
    · exact hL _ _
    · simp
  intro s
  induction s with
  | nil =>
    intro t gb gl gr tl tr L
    have : mgA gb gl gr [] t tl tr L = addG L gb (gl ++ tl) (gr ++ tr) := by cases t <;> rfl
    rw [this]
    have := hG L gb (gl ++ tl) (gr ++ tr)
    simp; omega
  | cons x s ih =>
    intro t gb gl gr tl tr L
    obtain ⟨p, k, x⟩ := x
    cases t with
    | nil =>
      have : mgA gb gl gr ((p, k, x) :: s) [] tl tr L = addG L gb (gl ++ tl) (gr ++ tr) := by cases k <;> rfl
      rw [this]
      have := hG L gb (gl ++ tl) (gr ++ tr)
      simp; omega
    | cons y t =>
      obtain ⟨q, kq, y⟩ := y
      cases k <;> cases kq
      · have := ih t (gb ++ [x]) (gl ++ p ++ []) (gr ++ q ++ []) tl tr L
        rw [List.length_cons]
        exact Nat.le_trans this (by omega)
      · have := ih t (gb ++ [x]) (gl ++ p ++ []) (gr ++ q ++ [y]) tl tr L
        rw [List.length_cons]
        exact Nat.le_trans this (by omega)
      · have := ih t (gb ++ [x]) (gl ++ p ++ [x]) (gr ++ q ++ []) tl tr L
        rw [List.length_cons]
        exact Nat.le_trans this (by omega)
      · have h1 := ih t [] [] [] tl tr (addL (addG L gb (gl ++ p) (gr ++ q)) [x])
        have h2 := hL (addG L gb (gl ++ p) (gr ++ q)) [x]
        have h3 := hG L gb (gl ++ p) (gr ++ q)
        rw [List.length_cons]
        exact Nat.le_trans h1 (by omega)
theorem merge_length (a b c : List ByteArray) : (mergeL a b c).length ≤ 2 * a.length + 1 := by
  rw [merge_eq]
  have := mgA_len (grpL a b) (grpL a c) [] [] [] (grpT a b) (grpT a c) []
  have h : (grpL a b).length = a.length := by
    have := congrArg List.length (grpL_src a b)
    unfold srcG at this
    rwa [List.length_map] at this
  rw [h] at this
  simpa using this

set_option maxRecDepth 100000 in
set_option maxHeartbeats 1000000 in
theorem law_merge (w : World) (a : ByteArray) (ha : a.size ≤ 9223372036854775807) (b : ByteArray) (hb : b.size ≤ 9223372036854775807) (c : ByteArray) (hc : c.size ≤ 9223372036854775807) :
    Calls Try.prog 3 #[.string a, .string b, .string c] w fun e w' => e = .returned (.bool true) ∧ Below w.heap.size w w' := by
  have cf := Lib.hid (few_lit3 w a b c)
  have AW := Lib.hid awake19_any
  cases hf : (few1 a && (few1 b && few1 c))
  · rw [hf] at cf
    clear hf
    go_enter Try.func3, Try.ntmps3
    go_wp2_with fail
    refine cf.out.mono ?_
    rintro e w1 ⟨rfl, b1⟩
    go_wp2_with fail
    refine (AW.out w1).mono ?_
    rintro e w2 ⟨rfl, b2⟩
    have hB := b1.trans (b2.mono b1.size)
    go_wp2
    go_ret
    exact ⟨rfl, hB⟩
  · rw [hf] at cf
    rw [Bool.and_eq_true, Bool.and_eq_true] at hf
    obtain ⟨fa, fb, fc⟩ := hf
    have cm := Lib.hid (merge_len fa fb fc)
    have cr := Lib.hid (rmerge_len fa fb fc)
    clear fa fb fc
    generalize mergeL (lns a) (lns b) (lns c) = full at *
    go_enter Try.func3, Try.ntmps3
    go_wp2_with fail
    refine cf.out.mono ?_
    rintro e w1 ⟨rfl, b1⟩
    go_wp2_with fail
    refine (cm.out w1).mono ?_
    rintro e w2 ⟨v2, rfl, r2, b2⟩
    have hB := b1.trans (b2.mono b1.size)
    obtain ⟨A2, c2, rfl, _, _⟩ := r2.form
    go_wp2_with fail
    refine (cr.out w2).mono ?_
    rintro e w3 ⟨v3, rfl, r3, b3⟩
    have hB := hB.trans (b3.mono hB.size)
    have r2 := r2.keep (Keeps.of_below b3)
    have cs := rgSame_any w3 _ _ _ _ r2 r3
    rw [eqB_true rfl] at cs
    have CS := Lib.hid cs
    obtain ⟨A3, c3, rfl, _, _⟩ := r3.form
    clear cs r2 r3 b1 b2 b3 cm cr cf
    go_wp2_with fail
    refine CS.out.mono ?_
    rintro e w4 ⟨rfl, n, rfl⟩
    have hB := below_drewN' hB n
    generalize w3.drewN n = w5 at *
    go_wp2_with fail
    refine (AW.out w5).mono ?_
    rintro e w6 ⟨rfl, b6⟩
    have hB := hB.trans (b6.mono hB.size)
    go_wp2
    go_ret
    exact ⟨rfl, hB⟩

set_option maxRecDepth 100000 in
set_option maxHeartbeats 1000000 in
theorem law_symmetric (w : World) (a : ByteArray) (ha : a.size ≤ 9223372036854775807) (b : ByteArray) (hb : b.size ≤ 9223372036854775807) (c : ByteArray) (hc : c.size ≤ 9223372036854775807) :
    Calls Try.prog 4 #[.string a, .string b, .string c] w fun e w' => e = .returned (.bool true) ∧ Below w.heap.size w w' := by
  have cf := Lib.hid (few_lit3 w a b c)
  have AW := Lib.hid awake19_any
  cases hf : (few1 a && (few1 b && few1 c))
  · rw [hf] at cf
    clear hf
    go_enter Try.func4, Try.ntmps4
    go_wp2_with fail
    refine cf.out.mono ?_
    rintro e w1 ⟨rfl, b1⟩
    go_wp2_with fail
    refine (AW.out w1).mono ?_
    rintro e w2 ⟨rfl, b2⟩
    have hB := b1.trans (b2.mono b1.size)
    go_wp2
    go_ret
    exact ⟨rfl, hB⟩
  · rw [hf] at cf
    rw [Bool.and_eq_true, Bool.and_eq_true] at hf
    obtain ⟨fa, fb, fc⟩ := hf
    have cm := Lib.hid (merge_len fa fb fc)
    have cr := Lib.hid (merge_len fa fc fb)
    have HSW := Lib.hid (merge_swap (lns a) (lns c) (lns b))
    have hlen : (mergeL (lns a) (lns c) (lns b)).length ≤ 1000000 := by
      have := merge_length (lns a) (lns c) (lns b)
      have := (few_ok fa).2
      have := (few_ok fb).2
      have := (few_ok fc).2
      omega
    clear fa fb fc
    generalize mergeL (lns a) (lns b) (lns c) = full at *
    generalize mergeL (lns a) (lns c) (lns b) = other at *
    go_enter Try.func4, Try.ntmps4
    go_wp2_with fail
    refine cf.out.mono ?_
    rintro e w1 ⟨rfl, b1⟩
    go_wp2_with fail
    refine (cm.out w1).mono ?_
    rintro e w2 ⟨v2, rfl, r2, b2⟩
    have hB := b1.trans (b2.mono b1.size)
    obtain ⟨A2, c2, rfl, _, _⟩ := r2.form
    go_wp2_with fail
    refine (cr.out w2).mono ?_
    rintro e w3 ⟨v3, rfl, r3, b3⟩
    have hB := hB.trans (b3.mono hB.size)
    have r2 := r2.keep (Keeps.of_below b3)
    have ce := exchanged_any w3 _ other r3 hlen
    rw [HSW.out] at ce
    have CE := Lib.hid ce
    obtain ⟨A3, c3, rfl, _, _⟩ := r3.form
    clear ce r3 b1 b2 b3 cm cr cf HSW
    go_wp2_with fail
    refine CE.out.mono ?_
    rintro e w4 ⟨v4, rfl, r4, b4⟩
    have hB := hB.trans (b4.mono hB.size)
    have r2 := r2.keep (Keeps.of_below b4)
    have cs := rgSame_any w4 _ _ _ _ r2 r4
    rw [eqB_true rfl] at cs
    have CS := Lib.hid cs
    obtain ⟨A4, c4, rfl, _, _⟩ := r4.form
    clear cs r2 r4 b4 CE
    go_wp2_with fail
    refine CS.out.mono ?_
    rintro e w5 ⟨rfl, n, rfl⟩
    have hB := below_drewN' hB n
    generalize w4.drewN n = w6 at *
    go_wp2_with fail
    refine (AW.out w6).mono ?_
    rintro e w7 ⟨rfl, b7⟩
    have hB := hB.trans (b7.mono hB.size)
    go_wp2
    go_ret
    exact ⟨rfl, hB⟩
end Go.Proofs.Ythobbcafemkhbaa
