/- The law DeltaIdentity, walked. (Printed by wip/gen/gen_delaws2.py.) -/
import Derived.Test.YtiioebpmfjipeaaDeAwake
import Derived.Test.YtiioebpmfjipeaaDeComp
import Derived.Test.YtiioebpmfjipeaaCompL
import Derived.Test.YtiioebpmfjipeaaDeGreat
import Derived.Test.YtiioebpmfjipeaaDeLawCop
namespace Go.Proofs.Ytiioebpmfjipeaa
set_option linter.unusedVariables false
set_option linter.unusedSimpArgs false
open Go.RowKit

theorem Dls.form3 {w : World} {v : Value} {xs : List DOp} (h : Dls w v xs) : ∃ A c, v = .slice A xs.length c := by
  obtain ⟨A, c, e, _⟩ := h.form
  exact ⟨A, c, e⟩
set_option maxRecDepth 100000 in
set_option maxHeartbeats 4000000 in
theorem law_ident (w : World) (xn : Int) (hn0 : 0 ≤ xn) (hn1 : xn ≤ 255) (va : Value) (xs : List DOp) (hv : Dls w va xs ∧ ∀ x ∈ xs, Int64 x.off ∧ Int64 x.len) :
    Calls Try.prog 11 #[.int .u8 xn, va] w fun e w' => e = .returned (.bool true) ∧ Below w.heap.size w w' := by
  have K0 := Lib.hid (Below.refl w.heap.size w)
  obtain ⟨ha, hi64⟩ := hv
  obtain ⟨k, hk⟩ : ∃ k : Nat, k = xn.toNat % 201 := ⟨_, rfl⟩
  have hk1 : k ≤ 200 := by omega
  have hkm : xn.tmod 201 = (k : Int) := by rw [Int.tmod_eq_emod_of_nonneg (by omega)]; omega
  have CG := Lib.hid (great_any w ha)
  obtain ⟨A, c, rfl, hac, _⟩ := ha.form
  clear hk
  by_cases hg : greatB xs = true
  · rw [hg] at CG
    clear ha hi64 hg
    go_enter Try.func11, Try.ntmps11
    have C1 := Lib.hid (CG.out)
    go_wp2_with fail
    refine C1.out.mono ?_
    rintro e v1 ⟨rfl, rfl⟩
    clear C1
    have C2 := Lib.hid (awake_any w)
    go_wp2_with fail
    refine C2.out.mono ?_
    rintro e w2 ⟨rfl, hb2⟩
    have K2 := Lib.hid (K0.out.trans (hb2.mono K0.out.size))
    clear C2 hb2 K0
    go_wp2
    go_ret
    exact ⟨rfl, K2.out⟩
  · have hg' : greatB xs = false := by simpa using hg
    have HI := Lib.hid (show ∀ x ∈ xs, Int64 x.off ∧ Int64 x.len ∧ x.data.length ≤ 9000000000000000000 from fun x hx => ⟨(hi64 x hx).1, (hi64 x hx).2, by have := ((greatB_false hg').2 x hx).1; omega⟩)
    have hxl : xs.length ≤ 30 := (greatB_false hg').1
    rw [hg'] at CG
    have HA := Lib.hid ha
    have CK := Lib.hid (check_any w ha (k : Int) HI.out)
    clear ha hi64 hg hg'
    by_cases hc : checkD xs k = 0
    · by_cases hl : xs = []
      · rw [hc] at CK
        subst hl
        simp only [List.length_nil] at CG CK hac HA
        clear hc HI HA
        go_enter Try.func11, Try.ntmps11
        have C1 := Lib.hid (CG.out)
        go_wp2_with fail
        refine C1.out.mono ?_
        rintro e v1 ⟨rfl, rfl⟩
        clear C1
        have C2 := Lib.hid (CK.out)
        clear CK
        go_wp2_with fail
        refine C2.out.mono ?_
        rintro e w2 ⟨rfl, hb2⟩
        have K2 := Lib.hid (K0.out.trans (hb2.mono K0.out.size))
        clear C2 hb2 K0
        have C3 := Lib.hid (awake_any w2)
        go_wp2_with fail
        refine C3.out.mono ?_
        rintro e w3 ⟨rfl, hb3⟩
        have K3 := Lib.hid (K2.out.trans (hb3.mono K2.out.size))
        clear C3 hb3 K2
        go_wp2
        go_ret
        exact ⟨rfl, K3.out⟩
      · have hz : ((xs.length : Int) == 0) = false := by simpa using hl
        by_cases hk0 : k = 0
        · subst hk0
          rw [hc] at CK
          clear hl
          go_enter Try.func11, Try.ntmps11
          have C1 := Lib.hid (CG.out)
          go_wp2_with fail
          refine C1.out.mono ?_
          rintro e v1 ⟨rfl, rfl⟩
          clear C1
          have C2 := Lib.hid (CK.out)
          clear CK
          go_wp2_with fail
          refine C2.out.mono ?_
          rintro e w2 ⟨rfl, hb2⟩
          have K2 := Lib.hid (K0.out.trans (hb2.mono K0.out.size))
          clear C2 hb2 K0
          have C3 := Lib.hid (awake_any w2)
          go_wp2_with fail
          refine C3.out.mono ?_
          rintro e w3 ⟨rfl, hb3⟩
          have K3 := Lib.hid (K2.out.trans (hb3.mono K2.out.size))
          clear C3 hb3 K2
          go_wp2
          go_ret
          exact ⟨rfl, K3.out⟩
        · have hkz : ((k : Int) == 0) = false := by simpa using hk0
          obtain ⟨i1, i2, i3, i4, i5, i6, i7, i8⟩ := ident_all hc hl (by omega)
          have hz1 : sizeD xs = sumD xs := sizeD_of hc
          have hz2 : sizeD (joinD xs) = sumD xs := by rw [sizeD_of i6, i5]
          have HI3 := Lib.hid (chk64 i6)
          have hle : ((joinD xs).length : Int) ≤ (xs.length : Int) := by omega
          have hc64 : ∀ m : Int, 0 ≤ m → m ≤ 65536 → ∀ x ∈ [(⟨0, m, []⟩ : DOp)], Int64 x.off ∧ Int64 x.len ∧ x.data.length ≤ 9000000000000000000 := fun m h0 h1 x hx => by
            obtain rfl : x = ⟨0, m, []⟩ := by simpa using hx
            exact ⟨⟨by simp, by simp⟩, ⟨by simp only; omega, by simp only; omega⟩, by simp⟩
          have HO1 := Lib.hid (hc64 k (by omega) (by omega))
          have HO2 := Lib.hid (hc64 (sumD xs) (by omega) i8)
          have hjl : (joinD xs).length ≤ 9000000000000000000 := by omega
          have I1 := Lib.hid i1
          have I2 := Lib.hid i2
          have I3 := Lib.hid i3
          have HZ1 := Lib.hid hz1
          have HZ2 := Lib.hid hz2
          have HJL := Lib.hid hjl
          have HNE : Hid (0 < xs.length) := List.length_pos_iff.2 hl
          rw [hc] at CK
          clear hl hc64 i1 i2 i3 i4 i5 i6 hz1 hz2 hjl hc
          generalize joinD xs = J at *
          generalize sumD xs = S at *
          go_enter Try.func11, Try.ntmps11
          have C1 := Lib.hid (CG.out)
          go_wp2_with fail
          refine C1.out.mono ?_
          rintro e v1 ⟨rfl, rfl⟩
          clear C1
          have C2 := Lib.hid (CK.out)
          clear CK
          go_wp2_with fail
          refine C2.out.mono ?_
          rintro e w2 ⟨rfl, hb2⟩
          have K2 := Lib.hid (K0.out.trans (hb2.mono K0.out.size))
          have F1 := Lib.hid (HA.out.keep (Keeps.of_below hb2))
          clear HA
          clear C2 hb2 K0
          have al3 := (Below.refl w2.heap.size w2).alloc (Nat.le_refl _) (.cells #[.int .i64 0, .int .i64 (k : Int), .string ⟨#[]⟩] 28)
          have K3 := Lib.hid (K2.out.trans (al3.mono K2.out.size))
          have F2 := Lib.hid (F1.out.keep (Keeps.of_below al3))
          clear F1
          clear al3 K2
          have ho1 : Dls (w2.alloc (.cells #[.int .i64 0, .int .i64 (k : Int), .string ⟨#[]⟩] 28)) (.slice (some ⟨w2.heap.size, 0, none⟩) 1 1) [⟨0, (k : Int), []⟩] := dls_new (xs := [⟨0, (k : Int), []⟩]) (by simp [dC, strB]) (by simp) (by simp)
          have F3 := Lib.hid (ho1)
          clear ho1
          have C4x := compose_any (w2.alloc (.cells #[.int .i64 0, .int .i64 (k : Int), .string ⟨#[]⟩] 28)) (k : Int) F3.out F2.out HO1.out HI.out
          rw [I1.out] at C4x
          have C4 := Lib.hid C4x
          clear C4x
          clear F3
          clear I1 HO1
          go_wp2_with fail
          refine C4.out.mono ?_
          rintro e w4 ⟨v4, rfl, hv4, hb4⟩
          have K4 := Lib.hid (K3.out.trans (hb4.mono K3.out.size))
          have F4 := Lib.hid (F2.out.keep (Keeps.of_below hb4))
          clear F2
          clear C4 hb4 K3
          have F5 := Lib.hid (hv4)
          simp only at F5
          obtain ⟨A1, c1, rfl⟩ := hv4.form3
          clear hv4
          have C5x := size_all w4 F4.out HI.out
          rw [HZ1.out] at C5x
          have C5 := Lib.hid C5x
          clear C5x
          go_wp2_with fail
          refine C5.out.mono ?_
          rintro e w5 ⟨rfl, hb5⟩
          have K5 := Lib.hid (K4.out.trans (hb5.mono K4.out.size))
          have F6 := Lib.hid (F4.out.keep (Keeps.of_below hb5))
          clear F4
          have F7 := Lib.hid (F5.out.keep (Keeps.of_below hb5))
          clear F5
          clear C5 hb5 K4
          have al6 := (Below.refl w5.heap.size w5).alloc (Nat.le_refl _) (.cells #[.int .i64 0, .int .i64 S, .string ⟨#[]⟩] 28)
          have K6 := Lib.hid (K5.out.trans (al6.mono K5.out.size))
          have F8 := Lib.hid (F6.out.keep (Keeps.of_below al6))
          clear F6
          have F9 := Lib.hid (F7.out.keep (Keeps.of_below al6))
          clear F7
          clear al6 K5
          have ho2 : Dls (w5.alloc (.cells #[.int .i64 0, .int .i64 S, .string ⟨#[]⟩] 28)) (.slice (some ⟨w5.heap.size, 0, none⟩) 1 1) [⟨0, S, []⟩] := dls_new (xs := [⟨0, S, []⟩]) (by simp [dC, strB]) (by simp) (by simp)
          have F10 := Lib.hid (ho2)
          clear ho2
          have C7x := compose_any (w5.alloc (.cells #[.int .i64 0, .int .i64 S, .string ⟨#[]⟩] 28)) (k : Int) F8.out F10.out HI.out HO2.out
          rw [I2.out] at C7x
          have C7 := Lib.hid C7x
          clear C7x
          clear F10
          clear I2
          go_wp2_with fail
          refine C7.out.mono ?_
          rintro e w7 ⟨v7, rfl, hv7, hb7⟩
          have K7 := Lib.hid (K6.out.trans (hb7.mono K6.out.size))
          have F11 := Lib.hid (F8.out.keep (Keeps.of_below hb7))
          clear F8
          have F12 := Lib.hid (F9.out.keep (Keeps.of_below hb7))
          clear F9
          clear C7 hb7 K6
          have F13 := Lib.hid (hv7)
          simp only at F13
          obtain ⟨A2, c2, rfl⟩ := hv7.form3
          clear hv7
          have C8x := size_all w7 F11.out HI.out
          rw [HZ1.out] at C8x
          have C8 := Lib.hid C8x
          clear C8x
          go_wp2_with fail
          refine C8.out.mono ?_
          rintro e w8 ⟨rfl, hb8⟩
          have K8 := Lib.hid (K7.out.trans (hb8.mono K7.out.size))
          have F14 := Lib.hid (F11.out.keep (Keeps.of_below hb8))
          clear F11
          have F15 := Lib.hid (F12.out.keep (Keeps.of_below hb8))
          clear F12
          have F16 := Lib.hid (F13.out.keep (Keeps.of_below hb8))
          clear F13
          clear C8 hb8 K7
          have al9 := (Below.refl w8.heap.size w8).alloc (Nat.le_refl _) (.cells #[.int .i64 0, .int .i64 S, .string ⟨#[]⟩] 28)
          have K9 := Lib.hid (K8.out.trans (al9.mono K8.out.size))
          have F17 := Lib.hid (F14.out.keep (Keeps.of_below al9))
          clear F14
          have F18 := Lib.hid (F15.out.keep (Keeps.of_below al9))
          clear F15
          have F19 := Lib.hid (F16.out.keep (Keeps.of_below al9))
          clear F16
          clear al9 K8
          have ho3 : Dls (w8.alloc (.cells #[.int .i64 0, .int .i64 S, .string ⟨#[]⟩] 28)) (.slice (some ⟨w8.heap.size, 0, none⟩) 1 1) [⟨0, S, []⟩] := dls_new (xs := [⟨0, S, []⟩]) (by simp [dC, strB]) (by simp) (by simp)
          have F20 := Lib.hid (ho3)
          clear ho3
          have C10x := compose_any (w8.alloc (.cells #[.int .i64 0, .int .i64 S, .string ⟨#[]⟩] 28)) (k : Int) F18.out F20.out HI3.out HO2.out
          rw [I3.out] at C10x
          have C10 := Lib.hid C10x
          clear C10x
          clear F20
          clear I3 HO2
          go_wp2_with fail
          refine C10.out.mono ?_
          rintro e w10 ⟨v10, rfl, hv10, hb10⟩
          have K10 := Lib.hid (K9.out.trans (hb10.mono K9.out.size))
          have F21 := Lib.hid (F17.out.keep (Keeps.of_below hb10))
          clear F17
          have F22 := Lib.hid (F18.out.keep (Keeps.of_below hb10))
          clear F18
          have F23 := Lib.hid (F19.out.keep (Keeps.of_below hb10))
          clear F19
          clear C10 hb10 K9
          have F24 := Lib.hid (hv10)
          simp only at F24
          obtain ⟨A3, c3, rfl⟩ := hv10.form3
          clear hv10
          have C11x := same_any w10 F22.out F23.out HJL.out
          rw [eqB_true rfl] at C11x
          have C11 := Lib.hid C11x
          clear C11x
          clear F22
          go_wp2_with fail
          refine C11.out.mono ?_
          rintro e w11 ⟨rfl, hb11⟩
          have K11 := Lib.hid (K10.out.trans (hb11.below _))
          have F25 := Lib.hid (F21.out.keep (hb11.keeps))
          clear F21
          have F26 := Lib.hid (F23.out.keep (hb11.keeps))
          clear F23
          have F27 := Lib.hid (F24.out.keep (hb11.keeps))
          clear F24
          clear C11 hb11 K10
          have C12x := same_any w11 F27.out F26.out HJL.out
          rw [eqB_true rfl] at C12x
          have C12 := Lib.hid C12x
          clear C12x
          clear F27
          go_wp2_with fail
          refine C12.out.mono ?_
          rintro e w12 ⟨rfl, hb12⟩
          have K12 := Lib.hid (K11.out.trans (hb12.below _))
          have F28 := Lib.hid (F25.out.keep (hb12.keeps))
          clear F25
          have F29 := Lib.hid (F26.out.keep (hb12.keeps))
          clear F26
          clear C12 hb12 K11
          have C13x := size_all w12 F29.out HI3.out
          rw [HZ2.out] at C13x
          have C13 := Lib.hid C13x
          clear C13x
          go_wp2_with fail
          refine C13.out.mono ?_
          rintro e w13 ⟨rfl, hb13⟩
          have K13 := Lib.hid (K12.out.trans (hb13.mono K12.out.size))
          have F30 := Lib.hid (F28.out.keep (Keeps.of_below hb13))
          clear F28
          have F31 := Lib.hid (F29.out.keep (Keeps.of_below hb13))
          clear F29
          clear C13 hb13 K12
          have C14x := size_all w13 F30.out HI.out
          rw [HZ1.out] at C14x
          have C14 := Lib.hid C14x
          clear C14x
          clear F30
          clear F31
          go_wp2_with fail
          refine C14.out.mono ?_
          rintro e w14 ⟨rfl, hb14⟩
          have K14 := Lib.hid (K13.out.trans (hb14.mono K13.out.size))
          clear C14 hb14 K13
          have C15 := Lib.hid (awake_any w14)
          go_wp2_with fail
          refine C15.out.mono ?_
          rintro e w15 ⟨rfl, hb15⟩
          have K15 := Lib.hid (K14.out.trans (hb15.mono K14.out.size))
          clear C15 hb15 K14
          go_wp2
          go_ret
          exact ⟨rfl, K15.out⟩
    · have hne : ((checkD xs k) != 0) = true := by simpa using hc
      generalize checkD xs k = q at *
      clear hc
      go_enter Try.func11, Try.ntmps11
      have C1 := Lib.hid (CG.out)
      go_wp2_with fail
      refine C1.out.mono ?_
      rintro e v1 ⟨rfl, rfl⟩
      clear C1
      have C2 := Lib.hid (CK.out)
      clear CK
      go_wp2_with fail
      refine C2.out.mono ?_
      rintro e w2 ⟨rfl, hb2⟩
      have K2 := Lib.hid (K0.out.trans (hb2.mono K0.out.size))
      clear C2 hb2 K0
      have C3 := Lib.hid (awake_any w2)
      go_wp2_with fail
      refine C3.out.mono ?_
      rintro e w3 ⟨rfl, hb3⟩
      have K3 := Lib.hid (K2.out.trans (hb3.mono K2.out.size))
      clear C3 hb3 K2
      go_wp2
      go_ret
      exact ⟨rfl, K3.out⟩
end Go.Proofs.Ytiioebpmfjipeaa
