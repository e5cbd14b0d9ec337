/- The walk of the law LinediffLeast: it returns true for any list of strings and any list of hunks. -/
import Derived.Test.YtobiheoammhcmaaLawMetric
import Derived.Test.YtobiheoammhcmaaApplyW
namespace Go.Proofs.Ytobiheoammhcmaa
open Go.RowKit

theorem hunk_bounds {hs : List Hk} (h : greatHB hs = false) : ∀ h ∈ hs, h.2.1.length ≤ 12 ∧ h.2.2.length ≤ 12 := fun g hg =>
  have := (greatHB_false h).2 g hg
  ⟨(greatB_false this.1).1, (greatB_false this.2).1⟩

theorem apR_code {α : Type} [DecidableEq α] {a : List α} : ∀ {l : List (Int × List α × List α)} {k : Nat} {c : Int}, apR a k l = .error c → c ≠ 0
  | [], k, c, h => by simp [apR] at h
  | (n, o, e) :: l, k, c, h => by
    rw [apR] at h
    split at h
    · cases h; decide
    · split at h
      · cases h; decide
      · split at h
        · cases h; decide
        · split at h
          · cases h
          · rename_i c' hc
            cases h
            exact apR_code hc
theorem sizeH_le : ∀ {l : List Hk}, (∀ h ∈ l, h.2.1.length ≤ 12 ∧ h.2.2.length ≤ 12) → sizeH l ≤ l.length * 24
  | [], _ => by simp [sizeH]
  | h :: l, hb => by
    have h1 := sizeH_le (l := l) fun g hg => hb g (List.mem_cons_of_mem _ hg)
    have h2 := hb h List.mem_cons_self
    rw [sizeH_cons, List.length_cons]
    omega

set_option maxRecDepth 100000 in
set_option maxHeartbeats 2000000 in
theorem law_least (w : World) (va vl : Value) (xs : List ByteArray) (hs : List Hk) (ha : Strs w va xs) (hl : Hks w vl hs) :
    Calls Try.prog 6 #[va, vl] w fun e w' => e = .returned (.bool true) ∧ Below w.heap.size w w' := by
  have g1 := great_any w va xs ha
  have g2 := greatHunks_any w vl hs hl
  have aw := awake_any w
  cases hx : greatB xs
  · rw [hx] at g1
    cases hy : greatHB hs
    · rw [hy] at g2
      have lx := (greatB_false hx).1
      have lh := (greatHB_false hy).1
      have lb := hunk_bounds hy
      have c1 := apply_any w va vl xs hs ha hl (by omega) (by omega) (fun h hm => by have := lb h hm; omega)
      clear hx hy aw
      go_enter Try.func6, Try.ntmps6
      have G2 := Lib.hid g2
      have C1 := Lib.hid c1
      clear g2 c1
      go_wp2_with fail
      refine g1.mono ?_
      clear g1
      rintro e w1 ⟨rfl, rfl⟩
      go_wp2_with fail
      refine G2.out.mono ?_
      clear G2
      rintro e w1 ⟨rfl, rfl⟩
      go_wp2_with fail
      refine C1.out.mono ?_
      clear C1
      rintro e w1 ⟨v1, c1', rfl, hv1, hc1, hb1⟩
      have LB := Lib.hid lb
      have ha1 := ha.keep (Keeps.of_below hb1)
      have hl1 := hl.keep (Keeps.of_below hb1)
      have aw := awake_any w1
      clear lb ha hl
      generalize hr : apR xs 0 hs = r at *
      cases r with
      | error k =>
        have hk : k ≠ 0 := apR_code hr
        have hc : c1' = k := hc1
        subst hc
        have hne : (c1' != 0) = true := by simp [hk]
        clear hr hc1 hv1 hk
        go_wp2_with fail
        refine aw.mono ?_
        clear aw
        rintro e w2 ⟨rfl, hb2⟩
        have hB2 := hb1.trans (hb2.mono hb1.size)
        go_wp2
        go_ret
        exact ⟨rfl, hB2⟩
      | ok ys =>
        have hc : c1' = 0 := hc1
        subst hc
        have hv : Strs w1 v1 ys := hv1
        have g3 := great_any w1 v1 ys hv
        cases hz : greatB ys
        · rw [hz] at g3
          have lz := (greatB_false hz).1
          have hle : dist xs ys ≤ sizeH hs := by simpa using ap_least xs hs 0 ys hr
          have c2 := dist_call w1 va v1 xs ys ha1 hv lx lz
          have hsz := sizeH_le (l := hs) LB.out
          clear hz hr aw hv1 hc1
          generalize dist xs ys = D at *
          go_wp2_with fail
          refine g3.mono ?_
          clear g3
          rintro e w2 ⟨rfl, rfl⟩
          go_wp2_with fail
          refine c2.mono ?_
          clear c2
          rintro e w2 ⟨rfl, hb2⟩
          have hl2 := hl1.keep (Keeps.of_below hb2)
          have hB2 := hb1.trans (hb2.mono hb1.size)
          clear ha1 hl1 hv hb1 hb2
          have c3 := size_any w2 vl hs hl2 (by omega) (fun h hm => by have := LB.out h hm; omega)
          generalize sizeH hs = Z at *
          have hle' : (D : Int) ≤ (Z : Int) := by omega
          go_wp2_with fail
          refine c3.mono ?_
          clear c3
          rintro e w3 ⟨rfl, hd⟩
          have hB3 := hB2.trans (hd.below _)
          have c4 := awake_any w3
          clear hB2 hd
          go_wp2_with fail
          refine c4.mono ?_
          clear c4
          rintro e w4 ⟨rfl, hb4⟩
          have hB4 := hB3.trans (hb4.mono hB3.size)
          go_wp2
          go_ret
          exact ⟨rfl, hB4⟩
        · rw [hz] at g3
          clear hz hr hc1 hv1
          have AW := Lib.hid aw
          clear aw
          go_wp2_with fail
          refine g3.mono ?_
          clear g3
          rintro e w2 ⟨rfl, rfl⟩
          go_wp2_with fail
          refine AW.out.mono ?_
          clear AW
          rintro e w2 ⟨rfl, hb2⟩
          have hB2 := hb1.trans (hb2.mono hb1.size)
          go_wp2
          go_ret
          exact ⟨rfl, hB2⟩
    · rw [hy] at g2
      clear hx hy
      go_enter Try.func6, Try.ntmps6
      have G2 := Lib.hid g2
      have AW := Lib.hid aw
      clear g2 aw
      go_wp2_with fail
      refine g1.mono ?_
      clear g1
      rintro e w1 ⟨rfl, rfl⟩
      go_wp2_with fail
      refine G2.out.mono ?_
      clear G2
      rintro e w1 ⟨rfl, rfl⟩
      go_wp2_with fail
      refine AW.out.mono ?_
      clear AW
      rintro e w1 ⟨rfl, hb1⟩
      go_wp2
      go_ret
      exact ⟨rfl, hb1⟩
  · rw [hx] at g1
    clear g2 hx
    go_enter Try.func6, Try.ntmps6
    have AW := Lib.hid aw
    clear aw
    go_wp2_with fail
    refine g1.mono ?_
    clear g1
    rintro e w1 ⟨rfl, rfl⟩
    go_wp2_with fail
    refine AW.out.mono ?_
    clear AW
    rintro e w1 ⟨rfl, hb1⟩
    go_wp2
    go_ret
    exact ⟨rfl, hb1⟩
end Go.Proofs.Ytobiheoammhcmaa
