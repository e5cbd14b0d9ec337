/- The walk of the law LinediffMetric: it returns true for any three lists of strings. -/
import Derived.Test.YtobiheoammhcmaaAwake
import Derived.Test.YtobiheoammhcmaaMetricP
namespace Go.Proofs.Ytobiheoammhcmaa
open Go.RowKit

theorem dist_call (w : World) (va vb : Value) (xs ys : List ByteArray) (ha : Strs w va xs) (hb : Strs w vb ys) (hx : xs.length ≤ 12) (hy : ys.length ≤ 12) :
    Calls Try.prog 16 #[va, vb] w fun e w' => e = .returned (.int .i64 ((dist xs ys : Nat) : Int)) ∧ Below w.heap.size w w' := by
  have := dist_any w va vb xs ys ha hb (by omega) (by omega)
  rwa [size_diffL_dist] at this

theorem metric_zero (xs ys : List ByteArray) : (((dist xs ys : Nat) : Int) == 0) = eqB xs ys := by
  by_cases h : xs = ys
  · rw [eqB_true h, (dist_zero _ _).2 h]; rfl
  · rw [eqB_false h]
    have : dist xs ys ≠ 0 := fun e => h ((dist_zero _ _).1 e)
    simp; omega

set_option maxHeartbeats 2000000 in
theorem law_metric (w : World) (va vb vc : Value) (xs ys zs : List ByteArray) (ha : Strs w va xs) (hb : Strs w vb ys) (hc : Strs w vc zs) :
    Calls Try.prog 4 #[va, vb, vc] w fun e w' => e = .returned (.bool true) ∧ Below w.heap.size w w' := by
  have g1 := great_any w va xs ha
  have g2 := great_any w vb ys hb
  have g3 := great_any w vc zs hc
  have aw := awake_any w
  cases hx : greatB xs
  · rw [hx] at g1
    cases hy : greatB ys
    · rw [hy] at g2
      cases hz : greatB zs
      · rw [hz] at g3
        have lx := (greatB_false hx).1
        have ly := (greatB_false hy).1
        have lz := (greatB_false hz).1
        have c1 := dist_call w va vb xs ys ha hb lx ly
        obtain ⟨A1, k1, rfl, hca, hma⟩ := ha.form
        obtain ⟨A2, k2, rfl, hcb, hmb⟩ := hb.form
        obtain ⟨A3, k3, rfl, hcc, hmc⟩ := hc.form
        have p1 := dist_len xs ys
        have p2 := dist_tri xs ys zs
        have p3 := metric_zero xs ys
        have p4 := dist_comm ys xs
        have p5 := dist_len ys zs
        have p6 := dist_len xs zs
        clear hx hy hz aw hca hcb hcc
        generalize hB : eqB xs ys = B at p3
        generalize hn1 : xs.length = n1 at *
        generalize hn2 : ys.length = n2 at *
        generalize hn3 : zs.length = n3 at *
        generalize hD1 : dist xs ys = D1 at *
        generalize hD2 : dist ys zs = D2 at *
        generalize hD3 : dist xs zs = D3 at *
        have q1 : IntKind.i64.wrap ((D1 : Int) + (D2 : Int)) = (D1 : Int) + (D2 : Int) := i64w (by omega) (by omega)
        have q2 : IntKind.i64.wrap ((n1 : Int) - (n2 : Int)) = (n1 : Int) - (n2 : Int) := i64w (by omega) (by omega)
        have q3 : IntKind.i64.wrap ((n2 : Int) - (n1 : Int)) = (n2 : Int) - (n1 : Int) := i64w (by omega) (by omega)
        have q4 : IntKind.i64.wrap ((n1 : Int) + (n2 : Int)) = (n1 : Int) + (n2 : Int) := i64w (by omega) (by omega)
        have r1 : (D3 : Int) ≤ (D1 : Int) + (D2 : Int) := by omega
        have r2 : (n1 : Int) - (n2 : Int) ≤ (D1 : Int) := by omega
        have r3 : (n2 : Int) - (n1 : Int) ≤ (D1 : Int) := by omega
        have r4 : (D1 : Int) ≤ (n1 : Int) + (n2 : Int) := by omega
        have HB := Lib.hid hB
        have E1 := Lib.hid hn1
        have E2 := Lib.hid hn2
        have E3 := Lib.hid hn3
        have E4 := Lib.hid hD1
        have E5 := Lib.hid hD2
        have E6 := Lib.hid hD3
        have E7 := Lib.hid p4
        clear hB hn1 hn2 hn3 hD1 hD2 hD3 p4 p1 p2 p5 p6
        go_enter Try.func4, Try.ntmps4
        have G2 := Lib.hid g2
        have G3 := Lib.hid g3
        have C1 := Lib.hid c1
        clear g2 g3 c1
        go_wp2_with fail
        refine g1.mono ?_
        clear g1
        rintro e w1 ⟨rfl, rfl⟩
        go_wp2_with fail
        refine G2.out.mono ?_
        clear G2
        rintro e w1 ⟨rfl, rfl⟩
        go_wp2_with fail
        refine G3.out.mono ?_
        clear G3
        rintro e w1 ⟨rfl, rfl⟩
        go_wp2_with fail
        refine C1.out.mono ?_
        clear C1
        rintro e w1 ⟨rfl, hb1⟩
        have ha1 := ha.keep (Keeps.of_below hb1)
        have hb1' := hb.keep (Keeps.of_below hb1)
        have hc1 := hc.keep (Keeps.of_below hb1)
        have c2 := same_any w1 _ _ xs ys ha1 hb1'
        rw [HB.out] at c2
        clear ha hb hc
        go_wp2_with fail
        refine c2.mono ?_
        clear c2
        rintro e w2 ⟨rfl, hd⟩
        have ha2 := ha1.keep hd.keeps
        have hb2 := hb1'.keep hd.keeps
        have hc2 := hc1.keep hd.keeps
        have hB2 := hb1.trans (hd.below _)
        clear ha1 hb1' hc1 hb1 hd
        have c3 := dist_call w2 _ _ ys xs hb2 ha2 (by rw [E2.out]; omega) (by rw [E1.out]; omega)
        rw [E7.out] at c3
        cases B <;> (
        go_wp2_with fail
        refine c3.mono ?_
        clear c3
        rintro e w3 ⟨rfl, hb3⟩
        have ha3 := ha2.keep (Keeps.of_below hb3)
        have hb3' := hb2.keep (Keeps.of_below hb3)
        have hc3 := hc2.keep (Keeps.of_below hb3)
        have hB3 := hB2.trans (hb3.mono hB2.size)
        clear ha2 hb2 hc2 hB2 hb3
        have c4 := dist_call w3 _ _ xs zs ha3 hc3 (by rw [E1.out]; omega) (by rw [E3.out]; omega)
        rw [E6.out] at c4
        go_wp2_with fail
        refine c4.mono ?_
        clear c4
        rintro e w4 ⟨rfl, hb4⟩
        have hb4' := hb3'.keep (Keeps.of_below hb4)
        have hc4 := hc3.keep (Keeps.of_below hb4)
        have hB4 := hB3.trans (hb4.mono hB3.size)
        clear ha3 hb3' hc3 hB3 hb4
        have c5 := dist_call w4 _ _ ys zs hb4' hc4 (by rw [E2.out]; omega) (by rw [E3.out]; omega)
        rw [E5.out] at c5
        go_wp2_with fail
        refine c5.mono ?_
        clear c5
        rintro e w5 ⟨rfl, hb5⟩
        have hB5 := hB4.trans (hb5.mono hB4.size)
        clear hb4' hc4 hB4 hb5
        have c6 := awake_any w5
        go_wp2_with fail
        refine c6.mono ?_
        clear c6
        rintro e w6 ⟨rfl, hb6⟩
        have hB6 := hB5.trans (hb6.mono hB5.size)
        go_wp2
        go_ret
        exact ⟨rfl, hB6⟩)
      · rw [hz] at g3
        clear hx hy hz
        go_enter Try.func4, Try.ntmps4
        have G2 := Lib.hid g2
        have G3 := Lib.hid g3
        have AW := Lib.hid aw
        clear g2 g3 aw
        go_wp2_with fail
        refine g1.mono ?_
        clear g1
        rintro e w1 ⟨rfl, rfl⟩
        go_wp2_with fail
        refine G2.out.mono ?_
        clear G2
        rintro e w1 ⟨rfl, rfl⟩
        go_wp2_with fail
        refine G3.out.mono ?_
        clear G3
        rintro e w1 ⟨rfl, rfl⟩
        go_wp2_with fail
        refine AW.out.mono ?_
        clear AW
        rintro e w1 ⟨rfl, hb1⟩
        go_wp2
        go_ret
        exact ⟨rfl, hb1⟩
    · rw [hy] at g2
      clear hx hy g3
      go_enter Try.func4, Try.ntmps4
      have G2 := Lib.hid g2
      have AW := Lib.hid aw
      clear g2 aw
      go_wp2_with fail
      refine g1.mono ?_
      clear g1
      rintro e w1 ⟨rfl, rfl⟩
      go_wp2_with fail
      refine G2.out.mono ?_
      clear G2
      rintro e w1 ⟨rfl, rfl⟩
      go_wp2_with fail
      refine AW.out.mono ?_
      clear AW
      rintro e w1 ⟨rfl, hb1⟩
      go_wp2
      go_ret
      exact ⟨rfl, hb1⟩
  · rw [hx] at g1
    clear g2 g3 hx
    go_enter Try.func4, Try.ntmps4
    have AW := Lib.hid aw
    clear aw
    go_wp2_with fail
    refine g1.mono ?_
    clear g1
    rintro e w1 ⟨rfl, rfl⟩
    go_wp2_with fail
    refine AW.out.mono ?_
    clear AW
    rintro e w1 ⟨rfl, hb1⟩
    go_wp2
    go_ret
    exact ⟨rfl, hb1⟩
end Go.Proofs.Ytobiheoammhcmaa
