/- The law DeltaEncoding, walked. (Printed by wip/gen/gen_delaws.py.) -/
import Derived.Test.YtiioebpmfjipeaaDeAwake
import Derived.Test.YtiioebpmfjipeaaDeRDec
namespace Go.Proofs.Ytiioebpmfjipeaa
set_option linter.unusedVariables false
set_option linter.unusedSimpArgs false
open Go.RowKit

theorem Dls.form' {w : World} {v : Value} {xs : List DOp} (h : Dls w v xs) : ∃ A c, v = .slice A xs.length c ∧ xs.length ≤ c := by
  obtain ⟨A, c, e, h1, _⟩ := h.form
  exact ⟨A, c, e, h1⟩
set_option maxRecDepth 100000 in
set_option maxHeartbeats 4000000 in
theorem law_encoding (w : World) (va : Value) (xs : List DOp) (hv : Dls w va xs ∧ ∀ x ∈ xs, Int64 x.off ∧ Int64 x.len) (xb : ByteArray) (hb0 : xb.size ≤ 9223372036854775807) :
    Calls Try.prog 9 #[va, .string xb] w fun e w' => e = .returned (.bool true) ∧ Below w.heap.size w w' := by
  have K0 := Lib.hid (Below.refl w.heap.size w)
  obtain ⟨ha, hi64⟩ := hv
  have CG := Lib.hid (great_any w ha)
  obtain ⟨A, c, rfl, _, _⟩ := ha.form
  by_cases hg : greatB xs = true
  · rw [hg] at CG
    clear ha hi64 hg
    go_enter Try.func9, Try.ntmps9
    have C1 := Lib.hid (CG.out)
    go_wp2_with fail
    refine C1.out.mono ?_
    rintro e v1 ⟨rfl, rfl⟩
    clear C1
    have C2 := Lib.hid (awake_any w)
    go_wp2_with fail
    refine C2.out.mono ?_
    rintro e w2 ⟨rfl, hb2⟩
    have K2 := Lib.hid (K0.out.trans (hb2.mono K0.out.size))
    clear C2 hb2 K0
    go_wp2
    go_ret
    exact ⟨rfl, K2.out⟩
  · have hg' : greatB xs = false := by simpa using hg
    have HI := Lib.hid (show ∀ x ∈ xs, Int64 x.off ∧ Int64 x.len ∧ x.data.length ≤ 9000000000000000000 from fun x hx => ⟨(hi64 x hx).1, (hi64 x hx).2, by have := ((greatB_false hg').2 x hx).1; omega⟩)
    have hxl : xs.length ≤ 30 := (greatB_false hg').1
    rw [hg'] at CG
    have HA := Lib.hid ha
    by_cases hbig : 200 < xb.size
    · have h1 : (200 : Int) < (xb.size : Int) := by omega
      clear ha hi64 hg hg'
      go_enter Try.func9, Try.ntmps9
      have C1 := Lib.hid (CG.out)
      go_wp2_with fail
      refine C1.out.mono ?_
      rintro e v1 ⟨rfl, rfl⟩
      clear C1
      have C2 := Lib.hid (awake_any w)
      go_wp2_with fail
      refine C2.out.mono ?_
      rintro e w2 ⟨rfl, hb2⟩
      have K2 := Lib.hid (K0.out.trans (hb2.mono K0.out.size))
      clear C2 hb2 K0
      go_wp2
      go_ret
      exact ⟨rfl, K2.out⟩
    · have h1 : ¬ (200 : Int) < (xb.size : Int) := by omega
      clear ha hi64 hg hg'
      go_enter Try.func9, Try.ntmps9
      have C1 := Lib.hid (CG.out)
      go_wp2_with fail
      refine C1.out.mono ?_
      rintro e v1 ⟨rfl, rfl⟩
      clear C1
      have C2x := encode_any w (HA.out.keep (Keeps.of_below K0.out)) HI.out (by omega)
      unfold EncE at C2x
      have C2 := Lib.hid C2x
      clear C2x
      go_wp2_with fail
      refine C2.out.mono ?_
      rintro e w2 ⟨rfl, hb2⟩
      have K2 := Lib.hid (K0.out.trans (hb2.mono K0.out.size))
      clear C2 hb2 K0
      have HA2 := Lib.hid (HA.out.keep (Keeps.of_below K2.out))
      by_cases hee : (encodeD xs).2 = 0
      · have hed : encodeD xs = ((encodeD xs).1, 0) := by rw [← hee]
        have hdec := decodeD_enc hed
        have hsz : (encodeD xs).1.length ≤ 30000000 := by
          have h1 := (encodeD_form hed).2
          have h2 := encs_len xs
          have h3 := digL_len xs.length 5 (by omega)
          rw [h1, List.length_append]
          omega
        have hx64 : xs.length ≤ 9000000000000000000 := by omega
        have HDEC := Lib.hid hdec
        clear hed hdec
        generalize (encodeD xs).2 = z1 at *
        subst hee
        generalize (encodeD xs).1 = t1 at *
        have C3x := decode_any (strB t1) w2 (by rw [strB_size]; omega)
        unfold DecE at C3x
        rw [strB_data, HDEC.out] at C3x
        simp only at C3x
        have C3 := Lib.hid C3x
        clear C3x
        clear HDEC
        go_wp2_with fail
        refine C3.out.mono ?_
        rintro e w3 ⟨v3, rfl, hv3, hb3⟩
        have K3 := Lib.hid (K2.out.trans (hb3.mono K2.out.size))
        have HV1 := Lib.hid hv3
        clear hv3
        have HA3 := Lib.hid (HA2.out.keep (Keeps.of_below hb3))
        clear HA2
        clear C3 hb3 K2
        have C4x := same_any w3 HA3.out HV1.out hx64
        rw [eqB_true rfl] at C4x
        have C4 := Lib.hid C4x
        clear C4x
        clear HA3 HV1
        go_wp2_with fail
        refine C4.out.mono ?_
        rintro e w4 ⟨rfl, hb4⟩
        have K4 := Lib.hid (K3.out.trans (hb4.below _))
        clear C4 hb4 K3
        have C5 := Lib.hid (decode_any xb w4 (by omega))
        go_wp2_with fail
        refine C5.out.mono ?_
        rintro e w5 ⟨v5, rfl, hv5, hb5⟩
        have K5 := Lib.hid (K4.out.trans (hb5.mono K4.out.size))
        clear C5 hb5 K4
        have HV := Lib.hid hv5
        obtain ⟨Am, cm, rfl⟩ : ∃ A c, v5 = .slice A (decodeD xb.data.toList).1.length c := by obtain ⟨A, c, e, _⟩ := Dls.form' hv5; exact ⟨A, c, e⟩
        clear hv5
        by_cases hde : (decodeD xb.data.toList).2 = 0
        · have hdd : decodeD xb.data.toList = ((decodeD xb.data.toList).1, 0) := by rw [← hde]
          have henc := decodeD_dec hdd
          have hck := (encodeD_form henc).1
          have HI2 := Lib.hid (show ∀ x ∈ (decodeD xb.data.toList).1, Int64 x.off ∧ Int64 x.len ∧ x.data.length ≤ 9000000000000000000 from fun x hx => by
            have hc := check_can hck x hx
            have e1 := hc.o0
            have e2 := hc.o1
            have e3 := hc.l0
            have e4 := hc.l1
            have e5 := hc.d1
            exact ⟨⟨by omega, by omega⟩, ⟨by omega, by omega⟩, by omega⟩)
          have hml := check_len hck
          have HENC := Lib.hid henc
          have hu := str_eq (strB_of xb)
          clear hdd henc hck
          generalize (decodeD xb.data.toList).2 = z2 at *
          subst hde
          generalize (decodeD xb.data.toList).1 = m2 at *
          have C6x := encode_any w5 HV.out HI2.out (by omega)
          unfold EncE at C6x
          rw [HENC.out] at C6x
          simp only at C6x
          have C6 := Lib.hid C6x
          clear C6x
          clear HV HI2 HENC
          go_wp2_with fail
          refine C6.out.mono ?_
          rintro e w6 ⟨rfl, hb6⟩
          have K6 := Lib.hid (K5.out.trans (hb6.mono K5.out.size))
          clear C6 hb6 K5
          have C7 := Lib.hid (awake_any w6)
          go_wp2_with fail
          refine C7.out.mono ?_
          rintro e w7 ⟨rfl, hb7⟩
          have K7 := Lib.hid (K6.out.trans (hb7.mono K6.out.size))
          clear C7 hb7 K6
          go_wp2
          go_ret
          exact ⟨rfl, K7.out⟩
        · have hdd : decodeD xb.data.toList = ([], 13) := (decodeD_err _).resolve_left hde
          rw [hdd]
          clear hde HV
          have C6 := Lib.hid (awake_any w5)
          go_wp2_with fail
          refine C6.out.mono ?_
          rintro e w6 ⟨rfl, hb6⟩
          have K6 := Lib.hid (K5.out.trans (hb6.mono K5.out.size))
          clear C6 hb6 K5
          go_wp2
          go_ret
          exact ⟨rfl, K6.out⟩
      · have hne : ((encodeD xs).2 == 0) = false := by simpa using hee
        clear hee HA2
        generalize encodeD xs = q1 at *
        have C3 := Lib.hid (decode_any xb w2 (by omega))
        go_wp2_with fail
        refine C3.out.mono ?_
        rintro e w3 ⟨v3, rfl, hv3, hb3⟩
        have K3 := Lib.hid (K2.out.trans (hb3.mono K2.out.size))
        clear C3 hb3 K2
        have HV := Lib.hid hv3
        obtain ⟨Am, cm, rfl⟩ : ∃ A c, v3 = .slice A (decodeD xb.data.toList).1.length c := by obtain ⟨A, c, e, _⟩ := Dls.form' hv3; exact ⟨A, c, e⟩
        clear hv3
        by_cases hde : (decodeD xb.data.toList).2 = 0
        · have hdd : decodeD xb.data.toList = ((decodeD xb.data.toList).1, 0) := by rw [← hde]
          have henc := decodeD_dec hdd
          have hck := (encodeD_form henc).1
          have HI2 := Lib.hid (show ∀ x ∈ (decodeD xb.data.toList).1, Int64 x.off ∧ Int64 x.len ∧ x.data.length ≤ 9000000000000000000 from fun x hx => by
            have hc := check_can hck x hx
            have e1 := hc.o0
            have e2 := hc.o1
            have e3 := hc.l0
            have e4 := hc.l1
            have e5 := hc.d1
            exact ⟨⟨by omega, by omega⟩, ⟨by omega, by omega⟩, by omega⟩)
          have hml := check_len hck
          have HENC := Lib.hid henc
          have hu := str_eq (strB_of xb)
          clear hdd henc hck
          generalize (decodeD xb.data.toList).2 = z2 at *
          subst hde
          generalize (decodeD xb.data.toList).1 = m2 at *
          have C4x := encode_any w3 HV.out HI2.out (by omega)
          unfold EncE at C4x
          rw [HENC.out] at C4x
          simp only at C4x
          have C4 := Lib.hid C4x
          clear C4x
          clear HV HI2 HENC
          go_wp2_with fail
          refine C4.out.mono ?_
          rintro e w4 ⟨rfl, hb4⟩
          have K4 := Lib.hid (K3.out.trans (hb4.mono K3.out.size))
          clear C4 hb4 K3
          have C5 := Lib.hid (awake_any w4)
          go_wp2_with fail
          refine C5.out.mono ?_
          rintro e w5 ⟨rfl, hb5⟩
          have K5 := Lib.hid (K4.out.trans (hb5.mono K4.out.size))
          clear C5 hb5 K4
          go_wp2
          go_ret
          exact ⟨rfl, K5.out⟩
        · have hdd : decodeD xb.data.toList = ([], 13) := (decodeD_err _).resolve_left hde
          rw [hdd]
          clear hde HV
          have C4 := Lib.hid (awake_any w3)
          go_wp2_with fail
          refine C4.out.mono ?_
          rintro e w4 ⟨rfl, hb4⟩
          have K4 := Lib.hid (K3.out.trans (hb4.mono K3.out.size))
          clear C4 hb4 K3
          go_wp2
          go_ret
          exact ⟨rfl, K4.out⟩
end Go.Proofs.Ytiioebpmfjipeaa
