/- The walk of the law TextmergeRegions. -/
import Derived.Test.YthobbcafemkhbaaTmCmark
import Derived.Test.YthobbcafemkhbaaTmRmark
import Derived.Test.YthobbcafemkhbaaTmRset
import Derived.Test.YthobbcafemkhbaaTmCount
import Derived.Test.YthobbcafemkhbaaTmAwake
namespace Go.Proofs.Ythobbcafemkhbaa
open Go.RowKit
set_option linter.unusedVariables false

theorem mkAll_len : ∀ (L : List Rg), (∀ x ∈ L, (mkLines x).length ≤ 64) → (mkAll L).length ≤ L.length * 64
  | [], _ => by simp [mkAll]
  | x :: L, h => by
    have h1 := mkAll_len L fun y hy => h y (List.mem_cons_of_mem _ hy)
    have h2 := h x List.mem_cons_self
    have e : mkAll (x :: L) = mkLines x ++ mkAll L := by simp [mkAll]
    rw [e, List.length_append, List.length_cons]
    omega
theorem txtR_len : ∀ (L : List Rg), (∀ x ∈ L, x.2.2.1.length ≤ 64) → (txtR L).length ≤ L.length * 64
  | [], _ => by simp [txtR]
  | x :: L, h => by
    have h1 := txtR_len L fun y hy => h y (List.mem_cons_of_mem _ hy)
    have h2 := h x List.mem_cons_self
    have e : txtR (x :: L) = x.2.2.1 ++ txtR L := by simp [txtR]
    rw [e, List.length_append, List.length_cons]
    omega
theorem textB_bound {l : List ByteArray} {n m : Nat} (h : ∀ s ∈ l, s.size ≤ n) (hl : l.length ≤ m) : (textB l).size ≤ m * n := by
  rw [textB_size]
  exact Nat.le_trans (sum_le h) (Nat.mul_le_mul_right _ hl)
theorem mks40 : ∀ m ∈ mks, m.size ≤ 40 := fun m hm => by rw [mks_size m hm]; omega
/-- How great regions are that few and short lines make. -/
structure SmR (L : List Rg) : Prop where
  sz : SzR L
  len : L.length ≤ 100
  ln : LnR 1000 L
  mkb : (textB (mkAll L)).size ≤ 100000000
  tx : (textB (txtR L)).size ≤ 100000000
  cl : ∀ x ∈ L, x.2.2.1.length ≤ 100000 ∧ (textB x.2.2.1).size ≤ 100000000
theorem SmR.ln2 {L : List Rg} (h : SmR L) : LnR 100000 L := fun x hx => by
  obtain ⟨h1, h2, h3⟩ := h.ln x hx
  exact ⟨by omega, by omega, by omega⟩
theorem sm_great {L : List Rg} (h : greatR L = false) : SmR L := by
  obtain ⟨h1, h2⟩ := greatR_false h
  have hx : ∀ x ∈ L, (x.2.1.length ≤ 20 ∧ ∀ s ∈ x.2.1, s.size ≤ 40) ∧ (x.2.2.1.length ≤ 20 ∧ ∀ s ∈ x.2.2.1, s.size ≤ 40) ∧ (x.2.2.2.length ≤ 20 ∧ ∀ s ∈ x.2.2.2, s.size ≤ 40) := fun x hx => by
    obtain ⟨g1, g2, g3⟩ := h2 x hx
    exact ⟨longB_false g1, longB_false g2, longB_false g3⟩
  have hlines : ∀ x ∈ L, (mkLines x).length ≤ 64 ∧ ∀ s ∈ mkLines x, s.size ≤ 40 := fun x hx' => by
    obtain ⟨⟨a1, a2⟩, ⟨b1, b2⟩, c1, c2⟩ := hx x hx'
    obtain ⟨c, b, l, r⟩ := x
    simp only at a1 a2 b1 b2 c1 c2
    cases c
    · exact ⟨by show l.length ≤ 64; omega, b2⟩
    · have e : mkLines (true, b, l, r) = [mk0] ++ l ++ [mk1] ++ b ++ [mk2] ++ r ++ [mk3] := by unfold mkLines; simp
      rw [e]
      refine ⟨by simp; omega, fun s hs => ?_⟩
      simp only [List.mem_append, List.mem_singleton] at hs
      rcases hs with (((((rfl | hs) | rfl) | hs) | rfl) | hs) | rfl
      · exact mks40 _ (by simp [mks])
      · exact b2 s hs
      · exact mks40 _ (by simp [mks])
      · exact a2 s hs
      · exact mks40 _ (by simp [mks])
      · exact c2 s hs
      · exact mks40 _ (by simp [mks])
  refine ⟨fun x hx' => ?_, by omega, fun x hx' => ?_, ?_, ?_, fun x hx' => ?_⟩
  · obtain ⟨⟨_, a2⟩, ⟨_, b2⟩, _, c2⟩ := hx x hx'
    exact ⟨fun s hs => Nat.le_trans (a2 s hs) (by omega), fun s hs => Nat.le_trans (b2 s hs) (by omega), fun s hs => Nat.le_trans (c2 s hs) (by omega)⟩
  · obtain ⟨⟨a1, _⟩, ⟨b1, _⟩, c1, _⟩ := hx x hx'
    exact ⟨by omega, by omega, by omega⟩
  · have := textB_bound (l := mkAll L) (n := 40) (m := 12 * 64) (fun s hs => by
      obtain ⟨x, hx', hs⟩ := List.mem_flatMap.1 hs
      exact (hlines x hx').2 s hs) (Nat.le_trans (mkAll_len L fun x hx' => (hlines x hx').1) (Nat.mul_le_mul_right _ h1))
    omega
  · have := textB_bound (l := txtR L) (n := 40) (m := 12 * 64) (fun s hs => by
      unfold txtR at hs
      obtain ⟨l, hl, hs⟩ := List.mem_flatten.1 hs
      obtain ⟨x, hx', rfl⟩ := List.mem_map.1 hl
      exact (hx x hx').2.1.2 s hs) (Nat.le_trans (txtR_len L fun x hx' => by have := (hx x hx').2.1.1; omega) (Nat.mul_le_mul_right _ h1))
    omega
  · obtain ⟨_, ⟨b1, b2⟩, _⟩ := hx x hx'
    have := textB_bound b2 b1
    exact ⟨by omega, by omega⟩

set_option maxRecDepth 100000 in
set_option maxHeartbeats 2000000 in
theorem law_regions (w : World) (v : Value) (L : List Rg) (h : Rgs w v L) (i : Int) (i0 : -9223372036854775808 ≤ i) (i1 : i ≤ 9223372036854775807) (side : Int) (s0 : -9223372036854775808 ≤ side) (s1 : side ≤ 9223372036854775807) :
    Calls Try.prog 9 #[v, .int .i64 i, .int .i64 side] w fun e w' => e = .returned (.bool true) ∧ Below w.heap.size w w' := by
  have AW := Lib.hid awake19_any
  have CG := Lib.hid (greatR_any w v L h)
  cases hg : greatR L
  · rw [hg] at CG
    have hs := sm_great hg
    have C1 := Lib.hid fun w' h' => clean_any w' v L h' hs.sz hs.cl
    have C2 := Lib.hid fun w' h' => rclean_any w' v L h' hs.sz hs.ln2 hs.tx
    have C3 := Lib.hid fun w' h' => settle_any w' v L i side h' hs.sz hs.len hs.ln i0 i1 s0 s1
    have C4 := Lib.hid fun w' h' => rsettle_any w' v L i side h' hs.sz hs.len hs.ln i0 i1 s0 s1
    have C5 := Lib.hid fun w' h' => cmark_any w' v L h' hs.sz (by have := hs.len; omega) hs.ln2 hs.mkb
    have C6 := Lib.hid fun w' h' => rmark_any w' v L h' hs.sz (by have := hs.len; omega) hs.ln2 hs.mkb
    generalize clnS L = p1 at *
    generalize settleS L i side = p2 at *
    generalize markS L = p3 at *
    obtain ⟨A, c, rfl, _, _⟩ := h.form
    obtain ⟨p1s, p1b⟩ := p1
    obtain ⟨p2l, p2e⟩ := p2
    obtain ⟨p3s, p3e⟩ := p3
    clear hg hs
    go_enter Try.func9, Try.ntmps9
    go_wp2_with fail
    refine CG.out.mono ?_
    rintro e w1 ⟨rfl, rfl⟩
    go_wp2_with fail
    refine (C1.out _ h).mono ?_
    rintro e w1 ⟨rfl, hb⟩
    have h1 := h.keep (Keeps.of_below hb)
    clear CG C1
    go_wp2_with fail
    refine (C2.out _ h1).mono ?_
    rintro e w2 ⟨rfl, b2⟩
    have hb := hb.trans (b2.mono hb.size)
    have h2 := h1.keep (Keeps.of_below b2)
    clear C2 b2 h1
    go_wp2_with fail
    refine (C3.out _ h2).mono ?_
    rintro e w3 ⟨v3, rfl, r3, b3⟩
    have hb := hb.trans (b3.mono hb.size)
    have h3 := h2.keep (Keeps.of_below b3)
    clear C3 b3 h2
    obtain ⟨A3, c3, rfl, _, _⟩ := r3.form
    go_wp2_with fail
    refine (C4.out _ h3).mono ?_
    rintro e w4 ⟨v4, rfl, r4, b4⟩
    have hb := hb.trans (b4.mono hb.size)
    have h4 := h3.keep (Keeps.of_below b4)
    have r3 := r3.keep (Keeps.of_below b4)
    clear C4 b4 h3
    obtain ⟨A4, c4, rfl, _, _⟩ := r4.form
    go_wp2_with fail
    refine (C5.out _ h4).mono ?_
    rintro e w5 ⟨rfl, b5⟩
    have hb := hb.trans (b5.mono hb.size)
    have h5 := h4.keep (Keeps.of_below b5)
    have r3 := r3.keep (Keeps.of_below b5)
    have r4 := r4.keep (Keeps.of_below b5)
    clear C5 b5 h4
    go_wp2_with fail
    refine (C6.out _ h5).mono ?_
    rintro e w6 ⟨rfl, b6⟩
    have hb := hb.trans (b6.mono hb.size)
    have r3 := r3.keep (Keeps.of_below b6)
    have r4 := r4.keep (Keeps.of_below b6)
    have cs := rgSame_any w6 _ _ _ _ r3 r4
    rw [eqB_true rfl] at cs
    have CS := Lib.hid cs
    clear C6 b6 h5 cs r3 r4
    go_wp2_with fail
    refine CS.out.mono ?_
    rintro e w7 ⟨rfl, n, rfl⟩
    have hb := below_drewN' hb n
    generalize w6.drewN n = w7 at *
    clear CS
    go_wp2_with fail
    refine (AW.out w7).mono ?_
    rintro e w8 ⟨rfl, b8⟩
    have hB := hb.trans (b8.mono hb.size)
    go_wp2
    go_ret
    exact ⟨rfl, hB⟩
  · rw [hg] at CG
    obtain ⟨A, c, rfl, _, _⟩ := h.form
    clear hg
    go_enter Try.func9, Try.ntmps9
    go_wp2_with fail
    refine CG.out.mono ?_
    rintro e w1 ⟨rfl, rfl⟩
    go_wp2_with fail
    refine (AW.out _).mono ?_
    rintro e w2 ⟨rfl, b2⟩
    go_wp2
    go_ret
    exact ⟨rfl, b2⟩
end Go.Proofs.Ythobbcafemkhbaa
