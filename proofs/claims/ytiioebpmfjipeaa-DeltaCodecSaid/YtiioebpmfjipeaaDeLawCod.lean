/- The law DeltaCodec, walked. (Printed by wip/gen/gen_delaws.py.) -/
import Derived.Test.YtiioebpmfjipeaaDeAwake
import Derived.Test.YtiioebpmfjipeaaDeRDec
namespace Go.Proofs.Ytiioebpmfjipeaa
set_option linter.unusedVariables false
set_option linter.unusedSimpArgs false
open Go.RowKit

set_option maxRecDepth 100000 in
set_option maxHeartbeats 4000000 in
theorem law_codec (w : World) (va : Value) (xs : List DOp) (hv : Dls w va xs ∧ ∀ x ∈ xs, Int64 x.off ∧ Int64 x.len) (xb : ByteArray) (hb0 : xb.size ≤ 9223372036854775807) :
    Calls Try.prog 8 #[va, .string xb] w fun e w' => e = .returned (.bool true) ∧ Below w.heap.size w w' := by
  have K0 := Lib.hid (Below.refl w.heap.size w)
  obtain ⟨ha, hi64⟩ := hv
  have CG := Lib.hid (great_any w ha)
  obtain ⟨A, c, rfl, _, _⟩ := ha.form
  by_cases hg : greatB xs = true
  · rw [hg] at CG
    clear ha hi64 hg
    go_enter Try.func8, Try.ntmps8
    have C1 := Lib.hid (CG.out)
    go_wp2_with fail
    refine C1.out.mono ?_
    rintro e v1 ⟨rfl, rfl⟩
    clear C1
    have C2 := Lib.hid (awake_any w)
    go_wp2_with fail
    refine C2.out.mono ?_
    rintro e w2 ⟨rfl, hb2⟩
    have K2 := Lib.hid (K0.out.trans (hb2.mono K0.out.size))
    clear C2 hb2 K0
    go_wp2
    go_ret
    exact ⟨rfl, K2.out⟩
  · have hg' : greatB xs = false := by simpa using hg
    have HI := Lib.hid (show ∀ x ∈ xs, Int64 x.off ∧ Int64 x.len ∧ x.data.length ≤ 9000000000000000000 from fun x hx => ⟨(hi64 x hx).1, (hi64 x hx).2, by have := ((greatB_false hg').2 x hx).1; omega⟩)
    have hxl : xs.length ≤ 30 := (greatB_false hg').1
    rw [hg'] at CG
    have HA := Lib.hid ha
    by_cases hbig : 200 < xb.size
    · have h1 : (200 : Int) < (xb.size : Int) := by omega
      clear ha hi64 hg hg'
      go_enter Try.func8, Try.ntmps8
      have C1 := Lib.hid (CG.out)
      go_wp2_with fail
      refine C1.out.mono ?_
      rintro e v1 ⟨rfl, rfl⟩
      clear C1
      have C2 := Lib.hid (awake_any w)
      go_wp2_with fail
      refine C2.out.mono ?_
      rintro e w2 ⟨rfl, hb2⟩
      have K2 := Lib.hid (K0.out.trans (hb2.mono K0.out.size))
      clear C2 hb2 K0
      go_wp2
      go_ret
      exact ⟨rfl, K2.out⟩
    · have h1 : ¬ (200 : Int) < (xb.size : Int) := by omega
      clear ha hi64 hg hg'
      have hdl : (decodeD xb.data.toList).1.length ≤ 9000000000000000000 := by
        rcases decodeD_err xb.data.toList with h | h
        · have e : decodeD xb.data.toList = ((decodeD xb.data.toList).1, 0) := by rw [← h]
          have := check_len (encodeD_form (decodeD_dec e)).1
          omega
        · rw [h]; simp
      have HDL := Lib.hid hdl
      clear hdl
      go_enter Try.func8, Try.ntmps8
      have C1 := Lib.hid (CG.out)
      go_wp2_with fail
      refine C1.out.mono ?_
      rintro e v1 ⟨rfl, rfl⟩
      clear C1
      have C2x := encode_any w (HA.out.keep (Keeps.of_below K0.out)) HI.out (by omega)
      unfold EncE at C2x
      have C2 := Lib.hid C2x
      clear C2x
      go_wp2_with fail
      refine C2.out.mono ?_
      rintro e w2 ⟨rfl, hb2⟩
      have K2 := Lib.hid (K0.out.trans (hb2.mono K0.out.size))
      clear C2 hb2 K0
      have C3x := rencode_any w2 (HA.out.keep (Keeps.of_below K2.out)) HI.out (by omega)
      unfold EncE at C3x
      have C3 := Lib.hid C3x
      clear C3x
      go_wp2_with fail
      refine C3.out.mono ?_
      rintro e w3 ⟨rfl, hb3⟩
      have K3 := Lib.hid (K2.out.trans (hb3.mono K2.out.size))
      clear C3 hb3 K2
      generalize encodeD xs = q at *
      have C4 := Lib.hid (decode_any xb w3 (by omega))
      go_wp2_with fail
      refine C4.out.mono ?_
      rintro e w4 ⟨v4, rfl, hv4, hb4⟩
      have K4 := Lib.hid (K3.out.trans (hb4.mono K3.out.size))
      have HV4 := Lib.hid hv4
      clear hv4
      clear C4 hb4 K3
      have C5 := Lib.hid (rdecode_any xb w4 (by omega))
      go_wp2_with fail
      refine C5.out.mono ?_
      rintro e w5 ⟨v5, rfl, hv5, hb5⟩
      have K5 := Lib.hid (K4.out.trans (hb5.mono K4.out.size))
      have HV5 := Lib.hid hv5
      clear hv5
      have HV6 := Lib.hid (HV4.out.keep (Keeps.of_below hb5))
      clear HV4
      clear C5 hb5 K4
      have C6x := same_any w5 HV6.out HV5.out HDL.out
      rw [eqB_true rfl] at C6x
      have C6 := Lib.hid C6x
      clear C6x
      clear HV5 HV6 HDL
      go_wp2_with fail
      refine C6.out.mono ?_
      rintro e w6 ⟨rfl, hb6⟩
      have K6 := Lib.hid (K5.out.trans (hb6.below _))
      clear C6 hb6 K5
      generalize decodeD xb.data.toList = q2 at *
      have C7 := Lib.hid (awake_any w6)
      go_wp2_with fail
      refine C7.out.mono ?_
      rintro e w7 ⟨rfl, hb7⟩
      have K7 := Lib.hid (K6.out.trans (hb7.mono K6.out.size))
      clear C7 hb7 K6
      go_wp2
      go_ret
      exact ⟨rfl, K7.out⟩
end Go.Proofs.Ytiioebpmfjipeaa
