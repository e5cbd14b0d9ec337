/- The walk of the law LinediffDiff: it returns true for any two lists of strings. -/
import Derived.Test.YtobiheoammhcmaaAwake
namespace Go.Proofs.Ytobiheoammhcmaa
open Go.RowKit

set_option maxHeartbeats 1000000 in
theorem law_diff (w : World) (va vb : Value) (xs ys : List ByteArray) (ha : Strs w va xs) (hb : Strs w vb ys) :
    Calls Try.prog 3 #[va, vb] w fun e w' => e = .returned (.bool true) ∧ Below w.heap.size w w' := by
  have g1 := great_any w va xs ha
  have g2 := great_any w vb ys hb
  have aw := awake_any w
  cases hx : greatB xs
  · rw [hx] at g1
    cases hy : greatB ys
    · rw [hy] at g2
      have lx := (greatB_false hx).1
      have ly := (greatB_false hy).1
      have c1 := diff_any w va vb xs ys ha hb (by omega) (by omega)
      clear hx hy aw
      go_enter Try.func3, Try.ntmps3
      have G2 := Lib.hid g2
      have C1 := Lib.hid c1
      clear g2 c1
      go_wp2_with fail
      refine g1.mono ?_
      clear g1
      rintro e w1 ⟨rfl, rfl⟩
      go_wp2_with fail
      refine G2.out.mono ?_
      clear G2
      rintro e w1 ⟨rfl, rfl⟩
      go_wp2_with fail
      refine C1.out.mono ?_
      clear C1
      rintro e w1 ⟨v1, rfl, hv1, hb1⟩
      have ha1 := ha.keep (Keeps.of_below hb1)
      have hb1' := hb.keep (Keeps.of_below hb1)
      have c2 := rdiff_any w1 va vb xs ys ha1 hb1' (by omega) (by omega)
      go_wp2_with fail
      refine c2.mono ?_
      clear c2
      rintro e w2 ⟨v2, rfl, hv2, hb2⟩
      have hH1 : Hks w2 v1 (diffL xs ys) := Hks.keep hv1.sl (Keeps.of_below hb2)
      have hH2 : Hks w2 v2 (diffL xs ys) := hv2.sl
      have c3 := sameHunks_any w2 v1 v2 _ _ hH1 hH2
      rw [eqB_true rfl] at c3
      have ha2 := ha1.keep (Keeps.of_below hb2)
      have hb2' := hb1'.keep (Keeps.of_below hb2)
      have hB2 := hb1.trans (hb2.mono hb1.size)
      clear hH1 hH2 hv1 hv2 ha1 hb1' hb1 hb2 ha hb
      go_wp2_with fail
      refine c3.mono ?_
      clear c3
      rintro e w3 ⟨rfl, hd⟩
      have ha3 := ha2.keep hd.keeps
      have hb3 := hb2'.keep hd.keeps
      have hB3 := hB2.trans (hd.below _)
      clear ha2 hb2' hB2 hd
      have c4 := dist_any w3 va vb xs ys ha3 hb3 (by omega) (by omega)
      go_wp2_with fail
      refine c4.mono ?_
      clear c4
      rintro e w4 ⟨rfl, hb4⟩
      have c5 := rdist_any w4 va vb xs ys (ha3.keep (Keeps.of_below hb4)) (hb3.keep (Keeps.of_below hb4)) (by omega) (by omega)
      have hB4 := hB3.trans (hb4.mono hB3.size)
      clear ha3 hb3 hB3 hb4
      go_wp2_with fail
      refine c5.mono ?_
      clear c5
      rintro e w5 ⟨rfl, hb5⟩
      have hB5 := hB4.trans (hb5.mono hB4.size)
      have c6 := awake_any w5
      clear hB4 hb5
      go_wp2_with fail
      refine c6.mono ?_
      clear c6
      rintro e w6 ⟨rfl, hb6⟩
      have hB6 := hB5.trans (hb6.mono hB5.size)
      go_wp2
      go_ret
      exact ⟨rfl, hB6⟩
    · rw [hy] at g2
      clear hx hy
      go_enter Try.func3, Try.ntmps3
      have G2 := Lib.hid g2
      have AW := Lib.hid aw
      clear g2 aw
      go_wp2_with fail
      refine g1.mono ?_
      clear g1
      rintro e w1 ⟨rfl, rfl⟩
      go_wp2_with fail
      refine G2.out.mono ?_
      clear G2
      rintro e w1 ⟨rfl, rfl⟩
      go_wp2_with fail
      refine AW.out.mono ?_
      clear AW
      rintro e w1 ⟨rfl, hb1⟩
      go_wp2
      go_ret
      exact ⟨rfl, hb1⟩
  · rw [hx] at g1
    clear g2 hx
    go_enter Try.func3, Try.ntmps3
    have AW := Lib.hid aw
    clear aw
    go_wp2_with fail
    refine g1.mono ?_
    clear g1
    rintro e w1 ⟨rfl, rfl⟩
    go_wp2_with fail
    refine AW.out.mono ?_
    clear AW
    rintro e w1 ⟨rfl, hb1⟩
    go_wp2
    go_ret
    exact ⟨rfl, hb1⟩
end Go.Proofs.Ytobiheoammhcmaa
