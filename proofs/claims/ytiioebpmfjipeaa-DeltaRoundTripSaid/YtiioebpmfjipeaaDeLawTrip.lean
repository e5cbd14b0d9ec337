/- The law DeltaRoundTrip, walked. (Printed by wip/gen/gen_delaws.py.) -/
import Derived.Test.YtiioebpmfjipeaaDeAwake
import Derived.Test.YtiioebpmfjipeaaDeApply
import Derived.Test.YtiioebpmfjipeaaCodP
import Derived.Test.YtiioebpmfjipeaaDeLawDif
namespace Go.Proofs.Ytiioebpmfjipeaa
set_option linter.unusedVariables false
set_option linter.unusedSimpArgs false
open Go.RowKit

set_option maxRecDepth 100000 in
set_option maxHeartbeats 4000000 in
theorem law_trip (w : World) (xa : ByteArray) (ha0 : xa.size ≤ 9223372036854775807) (xb : ByteArray) (hb0 : xb.size ≤ 9223372036854775807) :
    Calls Try.prog 7 #[.string xa, .string xb] w fun e w' => e = .returned (.bool true) ∧ Below w.heap.size w w' := by
  have K0 := Lib.hid (Below.refl w.heap.size w)
  by_cases hbig : 100 < xa.size
  · have h1 : decide ((100 : Int) < (xa.size : Int)) = true := by simp; omega
    go_enter Try.func7, Try.ntmps7
    have C1 := Lib.hid (awake_any w)
    go_wp2_with fail
    refine C1.out.mono ?_
    rintro e w1 ⟨rfl, hb1⟩
    have K1 := Lib.hid (K0.out.trans (hb1.mono K0.out.size))
    clear C1 hb1 K0
    go_wp2
    go_ret
    exact ⟨rfl, K1.out⟩
  · have h1 : decide ((100 : Int) < (xa.size : Int)) = false := by simp; omega
    by_cases hbig2 : 100 < xb.size
    · have h2 : decide ((100 : Int) < (xb.size : Int)) = true := by simp; omega
      go_enter Try.func7, Try.ntmps7
      have C1 := Lib.hid (awake_any w)
      go_wp2_with fail
      refine C1.out.mono ?_
      rintro e w1 ⟨rfl, hb1⟩
      have K1 := Lib.hid (K0.out.trans (hb1.mono K0.out.size))
      clear C1 hb1 K0
      go_wp2
      go_ret
      exact ⟨rfl, K1.out⟩
    · have h2 : decide ((100 : Int) < (xb.size : Int)) = false := by simp; omega
      obtain ⟨d1, d2, d3, d4⟩ := diffD_trip xa.data.toList xb.data.toList (show xa.size ≤ 65536 by omega) (show xb.size ≤ 65536 by omega)
      have HI := Lib.hid (show ∀ x ∈ diffD xa.data.toList xb.data.toList, Int64 x.off ∧ Int64 x.len ∧ x.data.length ≤ 9000000000000000000 from fun x hx => by
        have hc := check_can d2 x hx
        have e1 := hc.o0
        have e2 := hc.o1
        have e3 := hc.l0
        have e4 := hc.l1
        have e5 := hc.d1
        exact ⟨⟨by omega, by omega⟩, ⟨by omega, by omega⟩, by omega⟩)
      have hz : sizeD (diffD xa.data.toList xb.data.toList) = (xb.size : Int) := by unfold sizeD; rw [if_pos d2, d3]; rfl
      have CD0 := diff_any w xa xb (by omega) (by omega)
      have CA0 := Lib.hid (fun (w : World) (va : Value) (h : Dls w va (diffD xa.data.toList xb.data.toList)) => apply_any w xa h HI.out (by omega))
      have CK0 := Lib.hid (fun (w : World) (va : Value) (h : Dls w va (diffD xa.data.toList xb.data.toList)) => check_any w h xa.size HI.out)
      have CS0 := Lib.hid (fun (w : World) (va : Value) (h : Dls w va (diffD xa.data.toList xb.data.toList)) => size_all w h HI.out)
      rw [d4] at CA0
      rw [show checkD (diffD xa.data.toList xb.data.toList) (xa.size : Int) = 0 from d1] at CK0
      rw [hz] at CS0
      have hu := str_eq (strB_of xb)
      clear d1 d2 d3 d4 HI hz
      generalize diffD xa.data.toList xb.data.toList = D at *
      go_enter Try.func7, Try.ntmps7
      have C1 := Lib.hid (CD0)
      clear CD0
      go_wp2_with fail
      refine C1.out.mono ?_
      rintro e w1 ⟨vd, rfl, hr, hb1⟩
      have K1 := Lib.hid (K0.out.trans (hb1.mono K0.out.size))
      have HD := Lib.hid (dls_own hr)
      obtain ⟨Ad, cd, rfl⟩ := own_form hr
      clear hr
      clear C1 hb1 K0
      have C2x := CA0.out w1 _ HD.out
      unfold EncE at C2x
      have C2 := Lib.hid C2x
      clear C2x
      go_wp2_with fail
      refine C2.out.mono ?_
      rintro e w2 ⟨rfl, hb2⟩
      have K2 := Lib.hid (K1.out.trans (hb2.mono K1.out.size))
      have HD2 := Lib.hid (HD.out.keep (Keeps.of_below hb2))
      clear HD CA0
      clear C2 hb2 K1
      have C3x := CK0.out w2 _ HD2.out
      unfold CheckE at C3x
      have C3 := Lib.hid C3x
      clear C3x
      go_wp2_with fail
      refine C3.out.mono ?_
      rintro e w3 ⟨rfl, hb3⟩
      have K3 := Lib.hid (K2.out.trans (hb3.mono K2.out.size))
      have HD3 := Lib.hid (HD2.out.keep (Keeps.of_below hb3))
      clear HD2 CK0
      clear C3 hb3 K2
      have C4x := CS0.out w3 _ HD3.out
      unfold CheckE at C4x
      have C4 := Lib.hid C4x
      clear C4x
      go_wp2_with fail
      refine C4.out.mono ?_
      rintro e w4 ⟨rfl, hb4⟩
      have K4 := Lib.hid (K3.out.trans (hb4.mono K3.out.size))
      clear HD3 CS0
      clear C4 hb4 K3
      have C5 := Lib.hid (awake_any w4)
      go_wp2_with fail
      refine C5.out.mono ?_
      rintro e w5 ⟨rfl, hb5⟩
      have K5 := Lib.hid (K4.out.trans (hb5.mono K4.out.size))
      clear C5 hb5 K4
      go_wp2
      go_ret
      exact ⟨rfl, K5.out⟩
end Go.Proofs.Ytiioebpmfjipeaa
