/- The walk of the law LinediffApply: it returns true for any list of strings and any list of hunks. -/
import Derived.Test.YtobiheoammhcmaaLawLeast
import Derived.Test.YtobiheoammhcmaaRapplyW
import Derived.Test.YtobiheoammhcmaaRinvert
namespace Go.Proofs.Ytobiheoammhcmaa
open Go.RowKit

set_option maxRecDepth 100000 in
set_option maxHeartbeats 2000000 in
theorem law_apply (w : World) (va vl : Value) (xs : List ByteArray) (hs : List Hk) (ha : Strs w va xs) (hl : Hks w vl hs) :
    Calls Try.prog 7 #[va, vl] w fun e w' => e = .returned (.bool true) ∧ Below w.heap.size w w' := by
  have g1 := great_any w va xs ha
  have g2 := greatHunks_any w vl hs hl
  have aw := awake_any w
  cases hx : greatB xs
  · rw [hx] at g1
    cases hy : greatHB hs
    · rw [hy] at g2
      have lx := (greatB_false hx).1
      have lh := (greatHB_false hy).1
      have lb := hunk_bounds hy
      have c1 := apply_any w va vl xs hs ha hl (by omega) (by omega) (fun h hm => by have := lb h hm; omega)
      clear hx hy aw
      go_enter Try.func7, Try.ntmps7
      have G2 := Lib.hid g2
      have C1 := Lib.hid c1
      clear g2 c1
      go_wp2_with fail
      refine g1.mono ?_
      clear g1
      rintro e w1 ⟨rfl, rfl⟩
      go_wp2_with fail
      refine G2.out.mono ?_
      clear G2
      rintro e w1 ⟨rfl, rfl⟩
      go_wp2_with fail
      refine C1.out.mono ?_
      clear C1
      rintro e w1 ⟨v1, c1', rfl, hv1, hc1, hb1⟩
      have LB := Lib.hid lb
      have HC1 := Lib.hid hc1
      clear hc1
      have ha1 := ha.keep (Keeps.of_below hb1)
      have hl1 := hl.keep (Keeps.of_below hb1)
      have c2 := rapply_any w1 va vl xs hs ha1 hl1 (by omega) (by omega) (fun h hm => by have := lb h hm; omega)
      clear lb ha hl
      generalize apR xs 0 hs = r at *
      go_wp2_with fail
      refine c2.mono ?_
      clear c2
      rintro e w2 ⟨v2, c2', rfl, hv2, hc2, hb2⟩
      have hcc : c2' = c1' := hc2.trans HC1.out.symm
      subst hcc
      have k2 := Keeps.of_below hb2
      have hl2 := hl1.keep k2
      have hv1 := hv1.keep k2
      have hB2 := hb1.trans (hb2.mono hb1.size)
      have c3 := same_any w2 v1 v2 _ _ hv1 hv2
      rw [eqB_true rfl] at c3
      clear ha1 hl1 hb1 hb2 k2 hc2
      go_wp2_with fail
      refine c3.mono ?_
      clear c3
      rintro e w3 ⟨rfl, hd⟩
      have hl3 := hl2.keep hd.keeps
      have hB3 := hB2.trans (hd.below _)
      clear hv1 hv2 hl2 hB2 hd
      have c4 := invert_any w3 vl hs hl3 (by omega) (fun h hm => by have := LB.out h hm; omega)
      go_wp2_with fail
      refine c4.mono ?_
      clear c4
      rintro e w4 ⟨v4, rfl, hv4, hb4⟩
      have hl4 := hl3.keep (Keeps.of_below hb4)
      have hB4 := hB3.trans (hb4.mono hB3.size)
      clear hl3 hB3 hb4
      have c5 := rinvert_any w4 vl hs hl4 (by omega) (fun h hm => by have := LB.out h hm; omega)
      go_wp2_with fail
      refine c5.mono ?_
      clear c5
      rintro e w5 ⟨v5, rfl, hv5, hb5⟩
      have hv4 := hv4.keep (Keeps.of_below hb5)
      have hB5 := hB4.trans (hb5.mono hB4.size)
      clear hl4 hB4 hb5
      have c6 := sameHunks_any w5 v4 v5 _ _ hv4 hv5
      rw [eqB_true rfl] at c6
      go_wp2_with fail
      refine c6.mono ?_
      clear c6
      rintro e w6 ⟨rfl, hd⟩
      have hB6 := hB5.trans (hd.below _)
      clear hv4 hv5 hB5 hd
      have c7 := awake_any w6
      go_wp2_with fail
      refine c7.mono ?_
      clear c7
      rintro e w7 ⟨rfl, hb7⟩
      have hB7 := hB6.trans (hb7.mono hB6.size)
      go_wp2
      go_ret
      exact ⟨rfl, hB7⟩
    · rw [hy] at g2
      clear hx hy
      go_enter Try.func7, Try.ntmps7
      have G2 := Lib.hid g2
      have AW := Lib.hid aw
      clear g2 aw
      go_wp2_with fail
      refine g1.mono ?_
      clear g1
      rintro e w1 ⟨rfl, rfl⟩
      go_wp2_with fail
      refine G2.out.mono ?_
      clear G2
      rintro e w1 ⟨rfl, rfl⟩
      go_wp2_with fail
      refine AW.out.mono ?_
      clear AW
      rintro e w1 ⟨rfl, hb1⟩
      go_wp2
      go_ret
      exact ⟨rfl, hb1⟩
  · rw [hx] at g1
    clear g2 hx
    go_enter Try.func7, Try.ntmps7
    have AW := Lib.hid aw
    clear aw
    go_wp2_with fail
    refine g1.mono ?_
    clear g1
    rintro e w1 ⟨rfl, rfl⟩
    go_wp2_with fail
    refine AW.out.mono ?_
    clear AW
    rintro e w1 ⟨rfl, hb1⟩
    go_wp2
    go_ret
    exact ⟨rfl, hb1⟩
end Go.Proofs.Ytobiheoammhcmaa
