/- cordwoodlaw05.awake: the example of the chapter. -/
import Derived.Test.YtpihapkclnhklaaDkRead2
import Derived.Test.YtpihapkclnhklaaDkCut
import Derived.Test.YtpihapkclnhklaaDkSync
import Derived.Test.YtpihapkclnhklaaDkWrite
import Derived.Test.YtpihapkclnhklaaDkNew
import Derived.Test.YtpihapkclnhklaaDkSame
import Derived.Test.YtpihapkclnhklaaDkFar
namespace Go.Proofs.Ytpihapkclnhklaa
open Go.RowKit

theorem read_any (W : World) (vs vp : Value) (d : Dk) (h : DskP W vs vp d) (hpl : d.pend.length ≤ 100000) (i : Int) (hi0 : -9223372036854775808 ≤ i) (hi1 : i ≤ 9223372036854775807) :
    Calls Try.prog 19 #[.agg #[.int .i64 d.size, vs, vp, .int .i64 d.left], .int .i64 i] W (RdPost W (rdB d i) (rdE d i)) := by
  by_cases hz : rdE d i = 0
  · have hk : chk d = 0 := by
      apply Classical.byContradiction
      intro hk
      rw [(rd_bad hk).1] at hz
      cases hz
    have hr : ¬ (i < 0 ∨ (d.secs.length : Int) ≤ i) := by
      intro ho
      rw [(rd_out hk ho).1] at hz
      cases hz
    obtain ⟨m, rfl⟩ := Int.eq_ofNat_of_zero_le (show 0 ≤ i by omega)
    rw [hz]
    exact read_in W vs vp d h m hk (by omega) hpl
  · exact read_err W vs vp d h i hi0 hi1 hz

theorem ints_one (w : World) (n : Int) (h0 : -9223372036854775808 ≤ n) (h1 : n ≤ 9223372036854775807) : Ints (w.alloc (.cells #[.int .i64 n] 3)) (.slice (some ⟨w.heap.size, 0, none⟩) 1 1) [n] :=
  ⟨_, 1, [.int .i64 n], rfl, Nat.le_refl _, by unfold maxLen; omega, by simpa using CellsAt.of_new w #[.int .i64 n] 3 (0, 0), Elems.one ⟨rfl, h0, h1⟩ rfl⟩

def exA : ByteArray := ⟨#[97, 98, 99]⟩
def exB : ByteArray := ⟨#[97, 98, 0]⟩
def exD : Dk := wrD (newD 2 3) 1 exA
theorem ex1 : wrE (newD 2 3) 1 exA = 0 := by decide +kernel
theorem ex2 : rdE exD 1 = 0 ∧ rdB exD 1 = exA := by decide +kernel
theorem ex3 : rdE (cutD exD [2]) 1 = 0 ∧ rdB (cutD exD [2]) 1 = exB := by decide +kernel
theorem ex4 : rdE (cutD exD [-3]) 1 = 0 ∧ rdB (cutD exD [-3]) 1 = exA := by decide +kernel
theorem ex5 : exD.pend.length = 1 ∧ (cutD exD [2]).pend.length = 0 ∧ (cutD exD [-3]).pend.length = 0 := by decide +kernel

set_option maxRecDepth 100000 in
set_option maxHeartbeats 2000000 in
theorem awake_any (W : World) : Calls Try.prog 11 #[] W fun e w' => e = .returned (.bool true) ∧ Below W.heap.size W w' := by
  have c1 := new_ok W 2 3 (by omega) (by omega) (by omega) (by omega)
  go_enter Try.func11, Try.ntmps11
  go_wp2_with fail
  refine c1.mono ?_
  clear c1
  rintro e w1 ⟨vs, vp, rfl, hD, hb1⟩
  obtain ⟨A, c, P, cp, rfl, rfl, hc, hcp, hm, hmp⟩ := hD.form
  have hv := Var.new hD
  have hb := hb1.alloc hb1.size (.cells #[.int .i64 (newD 2 3).size, .slice A (newD 2 3).secs.length c, .slice P (newD 2 3).pend.length cp, .int .i64 (newD 2 3).left] 26)
  have hlt : W.heap.size ≤ w1.heap.size := hb1.size
  clear hD hb1 hc hcp hm hmp
  have hp0 : (newD 2 3).pend.length ≤ 100000 := by decide
  have hE1 : Hid (wrE (newD 2 3) 1 exA = 0) := ex1
  have hE0 : Hid (wrD (newD 2 3) 1 exA = exD) := rfl
  generalize newD 2 3 = d0 at *
  go_wp2_with fail
  generalize w1.alloc (.cells #[.int .i64 d0.size, .slice A d0.secs.length c, .slice P d0.pend.length cp, .int .i64 d0.left] 26) = w2 at *
  generalize w1.heap.size = g at *
  have c2 := write_any _ _ _ d0 hv.dk hp0 1 (by omega) (by omega) exA
  rw [hE1.out, hE0.out] at c2
  refine c2.mono ?_
  clear c2 hp0
  rintro e w3 ⟨vs3, vp3, rfl, hD3, hb3⟩
  obtain ⟨A3, c3, P3, cp3, rfl, rfl, hc, hcp, hm, hmp⟩ := hD3.form
  have hv3 := hv.keep hb3
  have hb4 := put4_below (hb.trans (hb3.mono hb.size)) hlt (A := A3) (c := c3) (P := P3) (cp := cp3) (d := exD)
  have hv4 := hv3.assign hD3
  obtain ⟨q0, q1, q2, q3, f0, f1, f2, f3⟩ := hv3.facts
  clear hv hb hb3 hD3 hv3 hE0 hE1 hc hcp hm hmp
  have hx2 : Hid (rdE exD 1 = 0 ∧ rdB exD 1 = exA) := ex2
  have hx3 : Hid (rdE (cutD exD [2]) 1 = 0 ∧ rdB (cutD exD [2]) 1 = exB) := ex3
  have hx4 : Hid (rdE (cutD exD [-3]) 1 = 0 ∧ rdB (cutD exD [-3]) 1 = exA) := ex4
  obtain ⟨hx5, hx6, hx7⟩ := ex5
  have hx5' : exD.pend.length ≤ 100000 := by omega
  have hx6' : (cutD exD [2]).pend.length ≤ 100000 := by omega
  have hx7' : (cutD exD [-3]).pend.length ≤ 100000 := by omega
  clear hx5 hx6 hx7
  generalize exD = d3 at *
  generalize hd4 : cutD d3 [2] = d4 at *
  generalize hd5 : cutD d3 [-3] = d5 at *
  have HD4 := Lib.hid hd4
  have HD5 := Lib.hid hd5
  clear hd4 hd5
  go_wp2_with fail
  clear q0 q1 q2 q3 f0 f1 f2 f3
  have cr := read_any _ _ _ _ hv4.dk hx5' 1 (by omega) (by omega)
  rw [hx2.out.1, hx2.out.2] at cr
  refine cr.mono ?_
  clear cr
  generalize hw4 : put4 w3 g A3 c3 P3 cp3 d3 = w4 at *
  clear hw4
  rintro e w5 ⟨rfl, hbr⟩
  have hv5 := hv4.keep hbr
  have hb5 := hb4.trans (hbr.mono hb4.size)
  clear hv4 hb4 hbr
  obtain ⟨q0, q1, q2, q3, _, _, _, _⟩ := hv5.facts
  go_wp2_with fail
  have hi5 := ints_one w5 2 (by omega) (by omega)
  have hw5 := hv5.alloc (.cells #[.int .i64 2] 3)
  have hbb5 := hb5.alloc hb5.size (.cells #[.int .i64 2] 3)
  clear q0 q1 q2 q3
  have cc := cut_any _ _ _ _ d3 hw5.dk hx5' [2] hi5
  refine cc.mono ?_
  clear cc hi5
  rintro e w6 ⟨vs6, vp6, rfl, hD6, hbc5⟩
  obtain ⟨A6, c6, P6, cp6, rfl, rfl, hc, hcp, hm, hmp⟩ := hD6.form
  have hv6 := hw5.keep hbc5
  have hb6 := hbb5.trans (hbc5.mono hbb5.size)
  clear hw5 hbb5 hbc5 hv5 hb5
  rw [HD4.out] at hD6 ⊢
  go_wp2_with fail
  have cr := read_any _ _ _ _ hD6 hx6' 1 (by omega) (by omega)
  rw [hx3.out.1, hx3.out.2] at cr
  refine cr.mono ?_
  clear cr hc hcp hm hmp
  rintro e w7 ⟨rfl, hbr⟩
  have hv7 := hv6.keep hbr
  have hb7 := hb6.trans (hbr.mono hb6.size)
  clear hv6 hb6 hbr hD6
  obtain ⟨q0, q1, q2, q3, _, _, _, _⟩ := hv7.facts
  go_wp2_with fail
  have hi7 := ints_one w7 (-3) (by omega) (by omega)
  have hw7 := hv7.alloc (.cells #[.int .i64 (-3)] 3)
  have hbb7 := hb7.alloc hb7.size (.cells #[.int .i64 (-3)] 3)
  clear q0 q1 q2 q3
  have cc := cut_any _ _ _ _ d3 hw7.dk hx5' [(-3)] hi7
  refine cc.mono ?_
  clear cc hi7
  rintro e w8 ⟨vs8, vp8, rfl, hD8, hbc7⟩
  obtain ⟨A8, c8, P8, cp8, rfl, rfl, hc, hcp, hm, hmp⟩ := hD8.form
  have hv8 := hw7.keep hbc7
  have hb8 := hbb7.trans (hbc7.mono hbb7.size)
  clear hw7 hbb7 hbc7 hv7 hb7
  rw [HD5.out] at hD8 ⊢
  go_wp2_with fail
  have cr := read_any _ _ _ _ hD8 hx7' 1 (by omega) (by omega)
  rw [hx4.out.1, hx4.out.2] at cr
  refine cr.mono ?_
  clear cr hc hcp hm hmp
  rintro e w9 ⟨rfl, hbr⟩
  have hv9 := hv8.keep hbr
  have hb9 := hb8.trans (hbr.mono hb8.size)
  clear hv8 hb8 hbr hD8
  obtain ⟨q0, q1, q2, q3, _, _, _, _⟩ := hv9.facts
  clear hx2 hx3 hx4
  simp only [exA, exB]
  go_wp2
  go_ret
  exact ⟨rfl, hb9⟩
end Go.Proofs.Ytpihapkclnhklaa
