/- The walk of the law DiskNew: it returns true for any two numbers. -/
import Derived.Test.YtpihapkclnhklaaDkAwake
namespace Go.Proofs.Ytpihapkclnhklaa
open Go.RowKit

set_option maxRecDepth 100000 in
set_option maxHeartbeats 2000000 in
theorem new_tail (W : World) (n z : Int) (d : Dk) (k : Int)
    (c1 : ∀ w, Calls Try.prog 12 #[.int .i64 n, .int .i64 z] w (DkPost w d k))
    (c2 : ∀ w, Calls Try.prog 13 #[.int .i64 n, .int .i64 z] w (DkPost w d k))
    (h1 : n ≤ 40 ∨ 1000 < n) (h2 : z ≤ 40 ∨ 512 < z) :
    Calls Try.prog 3 #[.int .i64 n, .int .i64 z] W fun e w' => e = .returned (.bool true) ∧ Below W.heap.size W w' := by
  have C1 := Lib.hid c1
  have C2 := Lib.hid c2
  clear c1 c2
  have hcase : (¬ 40 < n ∧ ¬ 40 < z) ∨ (¬ 40 < n ∧ 40 < z ∧ ¬ z ≤ 512) ∨ (40 < n ∧ ¬ n ≤ 1000 ∧ ¬ 40 < z) ∨ (40 < n ∧ ¬ n ≤ 1000 ∧ 40 < z ∧ ¬ z ≤ 512) := by omega
  clear h1 h2
  rcases hcase with ⟨h1, h2⟩ | ⟨h1, h2, h3⟩ | ⟨h1, h2, h3⟩ | ⟨h1, h2, h3, h4⟩
  all_goals
    go_enter Try.func3, Try.ntmps3
    go_wp2_with fail
    refine (C1.out _).mono ?_
    rintro e w1 ⟨vs, vp, rfl, hD, hb1⟩
    obtain ⟨A, c, P, cp, rfl, rfl, hc, hcp, hm, hmp⟩ := hD.form
    have hv := Var.new hD
    have hb := hb1.alloc hb1.size (.cells #[.int .i64 d.size, .slice A d.secs.length c, .slice P d.pend.length cp, .int .i64 d.left] 26)
    clear hD hb1 hc hcp hm hmp
    go_wp2_with fail
    refine (C2.out _).mono ?_
    generalize w1.alloc (.cells #[.int .i64 d.size, .slice A d.secs.length c, .slice P d.pend.length cp, .int .i64 d.left] 26) = w2 at *
    generalize w1.heap.size = g at *
    rintro e w3 ⟨vs3, vp3, rfl, hD3, hb3⟩
    obtain ⟨A3, c3, P3, cp3, rfl, rfl, hc, hcp, hm, hmp⟩ := hD3.form
    have hw := (hv.keep hb3).alloc (.cells #[.int .i64 d.size, .slice A3 d.secs.length c3, .slice P3 d.pend.length cp3, .int .i64 d.left] 26)
    have hv3 := Var.new hD3
    have hb4 := (hb.trans (hb3.mono hb.size)).alloc (by have := hb.size; have := hb3.size; omega) (.cells #[.int .i64 d.size, .slice A3 d.secs.length c3, .slice P3 d.pend.length cp3, .int .i64 d.left] 26)
    have hlt := hv.blk.lt
    have hlt3 := hb3.size
    have hne : g < w3.heap.size := by omega
    clear hD3 hv hb hb3 hc hcp hm hmp hlt hlt3
    go_upto_region 5 with (fail)
    generalize w3.alloc (.cells #[.int .i64 d.size, .slice A3 d.secs.length c3, .slice P3 d.pend.length cp3, .int .i64 d.left] 26) = w4 at *
    generalize w3.heap.size = g3 at *
    obtain ⟨q0, q1, q2, q3, _, _, _, _⟩ := hw.facts
    obtain ⟨p0, p1, p2, p3, _, _, _, _⟩ := hv3.facts
    have cs := same_any _ _ _ _ _ d hw.dk hv3.dk
    go_wp2_with fail
    refine cs.mono ?_
    clear cs q0 q1 q2 q3 p0 p1 p2 p3
    rintro e w5 ⟨rfl, hb5⟩
    have hb6 := hb4.trans (hb5.mono hb4.size)
    have ca := awake_any w5
    go_wp2_with fail
    refine ca.mono ?_
    clear ca
    rintro e w6 ⟨rfl, hb7⟩
    have hb8 := hb6.trans (hb7.mono hb6.size)
    go_wp2
    go_ret
    exact ⟨rfl, hb8⟩

set_option maxHeartbeats 1000000 in
theorem law_new (W : World) (n : Int) (hn0 : -9223372036854775808 ≤ n) (hn1 : n ≤ 9223372036854775807) (z : Int) (hz0 : -9223372036854775808 ≤ z) (hz1 : z ≤ 9223372036854775807) :
    Calls Try.prog 3 #[.int .i64 n, .int .i64 z] W fun e w' => e = .returned (.bool true) ∧ Below W.heap.size W w' := by
  by_cases hg : (40 < n ∧ n ≤ 1000) ∨ (40 < z ∧ z ≤ 512)
  · have aw := awake_any W
    have AW := Lib.hid aw
    clear aw
    have hcase : (40 < n ∧ n ≤ 1000) ∨ (¬ 40 < n ∧ 40 < z ∧ z ≤ 512) ∨ (40 < n ∧ ¬ n ≤ 1000 ∧ 40 < z ∧ z ≤ 512) := by omega
    clear hg
    rcases hcase with ⟨h1, h2⟩ | ⟨h1, h2, h3⟩ | ⟨h1, h2, h3, h4⟩
    all_goals
      go_enter Try.func3, Try.ntmps3
      go_wp2_with fail
      refine AW.out.mono ?_
      rintro e w1 ⟨rfl, hb1⟩
      go_wp2
      go_ret
      exact ⟨rfl, hb1⟩
  · by_cases hr : 1 ≤ n ∧ n ≤ 1000 ∧ 1 ≤ z ∧ z ≤ 512
    · obtain ⟨n', rfl⟩ := Int.eq_ofNat_of_zero_le (show 0 ≤ n by omega)
      obtain ⟨z', rfl⟩ := Int.eq_ofNat_of_zero_le (show 0 ≤ z by omega)
      exact new_tail W n' z' (newD n' z') 0 (fun w => new_ok w n' z' (by omega) (by omega) (by omega) (by omega)) (fun w => rnew_ok w n' z' (by omega) (by omega) (by omega) (by omega)) (by omega) (by omega)
    · exact new_tail W n z noDisk 2 (fun w => new_bad w n z hr) (fun w => rnew_bad w n z hr) (by omega) (by omega)
end Go.Proofs.Ytpihapkclnhklaa
