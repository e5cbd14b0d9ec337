/- The law DeltaCopies, walked. (Printed by wip/gen/gen_delawcop.py.) -/
import Derived.Test.YtiioebpmfjipeaaDeAwake
import Derived.Test.YtiioebpmfjipeaaCopP
namespace Go.Proofs.Ytiioebpmfjipeaa
set_option linter.unusedVariables false
set_option linter.unusedSimpArgs false
open Go.RowKit

set_option maxRecDepth 100000 in
set_option maxHeartbeats 4000000 in
theorem law_copies (w : World) (xa : ByteArray) (ha0 : xa.size ≤ 9223372036854775807) (xb : ByteArray) (hb0 : xb.size ≤ 9223372036854775807) :
    Calls Try.prog 4 #[.string xa, .string xb] w fun e w' => e = .returned (.bool true) ∧ Below w.heap.size w w' := by
  by_cases hbig : 100 < xa.size ∨ 100 < xb.size
  · have CW := Lib.hid (awake_any w)
    rcases hbig with h | h
    · have h1 : decide ((100 : Int) < (xa.size : Int)) = true := by simp; omega
      go_enter Try.func4, Try.ntmps4
      go_wp2_with fail
      refine CW.out.mono ?_
      rintro e w1 ⟨rfl, hb⟩
      go_wp2
      go_ret
      exact ⟨rfl, hb⟩
    · by_cases h2 : 100 < xa.size
      · have h1 : decide ((100 : Int) < (xa.size : Int)) = true := by simp; omega
        go_enter Try.func4, Try.ntmps4
        go_wp2_with fail
        refine CW.out.mono ?_
        rintro e w1 ⟨rfl, hb⟩
        go_wp2
        go_ret
        exact ⟨rfl, hb⟩
      · have h1 : decide ((100 : Int) < (xa.size : Int)) = false := by simp; omega
        have h3 : decide ((100 : Int) < (xb.size : Int)) = true := by simp; omega
        go_enter Try.func4, Try.ntmps4
        go_wp2_with fail
        refine CW.out.mono ?_
        rintro e w1 ⟨rfl, hb⟩
        go_wp2
        go_ret
        exact ⟨rfl, hb⟩
  · have h1 : decide ((100 : Int) < (xa.size : Int)) = false := by simp; omega
    have h2 : decide ((100 : Int) < (xb.size : Int)) = false := by simp; omega
    have hsa : xa.size ≤ 100 := by omega
    have hsb : xb.size ≤ 100 := by omega
    have CD := Lib.hid (diff_any w xa xb (by omega) (by omega))
    have hc4 := diffD_c4 xa.data.toList xb.data.toList
    have hla : xa.data.toList.length = xa.size := by simp
    have HLA := Lib.hid hla
    clear hbig hla
    go_enter Try.func4, Try.ntmps4
    go_wp2_with fail
    refine CD.out.mono ?_
    rintro e w1 ⟨v, rfl, hr, hb1⟩
    have HD := Lib.hid (dls_own hr)
    have HC := Lib.hid hc4
    generalize diffD xa.data.toList xb.data.toList = D at *
    obtain ⟨A, c, rfl⟩ := own_form hr
    have hDl := (HD.out).length_le
    have K1 := Lib.hid hb1
    clear hr hb1 CD hc4
    go_wp2
    go_loopw [20] (fun i wr => ∃ k : Nat, k ≤ D.length ∧ i = .int .i64 k ∧ Below w1.heap.size w1 wr) (fun i _ => D.length - (intOf i).toNat)
    case atStart => exact ⟨0, by omega, rfl, Below.refl _ _⟩
    case round =>
      obtain ⟨k, hk, rfl, hbw⟩ := hrel
      by_cases hlt : k < D.length
      · obtain ⟨x, hx⟩ : ∃ x, D[k]? = some x := ⟨_, List.getElem?_eq_getElem hlt⟩
        obtain ⟨b1, o1, rfl, c0, c1, c2⟩ := (HD.out.keep (Keeps.of_below hbw)).get hx
        have hcx := HC.out x (List.mem_of_getElem? hx)
        have HB2 := Lib.hid (hbw.trans (((Below.refl wr.heap.size wr).alloc (Nat.le_refl _) (.cells #[.int .i64 x.off, .int .i64 x.len, .string (strB x.data)] 28)).mono hbw.size))
        clear hx hbw
        by_cases h0 : 0 < x.len
        · have h4 := hcx h0
          have d0 : decide (0 < x.len) = true := by simpa using h0
          have d1 : decide (x.len < 4) = false := by simp; omega
          clear hcx
          go_wp2
          go_roundw
          case rel => exact ⟨k + 1, by omega, by go_num, HB2.out⟩
          case measure => simp [intOf]; omega
        · have d0 : decide (0 < x.len) = false := by simpa using h0
          clear hcx
          go_wp2
          go_roundw
          case rel => exact ⟨k + 1, by omega, by go_num, HB2.out⟩
          case measure => simp [intOf]; omega
      · have KR := Lib.hid (K1.out.trans (hbw.mono K1.out.size))
        clear hbw HD HC K1
        by_cases h4 : 4 ≤ xa.size
        · have d4 : decide ((4 : Int) ≤ (xa.size : Int)) = true := by simp; omega
          have CA := Lib.hid (diff_any wr xa xa (by omega) (by omega))
          go_wp2_with fail
          refine CA.out.mono ?_
          rintro e y1 ⟨v0, rfl, hr0, hb0'⟩
          have hq0 : diffD xa.data.toList xa.data.toList = [⟨0, (xa.size : Int), []⟩] := by rw [diffD_self (by rw [HLA.out]; exact h4), HLA.out]
          rw [hq0] at hr0
          have hal0 := (Below.refl y1.heap.size y1).alloc (Nat.le_refl _) (.cells #[.int .i64 0, .int .i64 xa.size, .string ⟨#[]⟩] 28)
          have hx0 : Dls (y1.alloc (.cells #[.int .i64 0, .int .i64 xa.size, .string ⟨#[]⟩] 28)) (.slice (some ⟨y1.heap.size, 0, none⟩) 1 1) [⟨0, (xa.size : Int), []⟩] := dls_new (xs := [⟨0, (xa.size : Int), []⟩]) rfl (by simp) (by simp)
          have CS0 := same_any _ ((dls_own hr0).keep (Keeps.of_below hal0)) hx0 (by simp)
          rw [eqB_true rfl] at CS0
          have CS0' := Lib.hid CS0
          have KB0 := Lib.hid ((KR.out.trans (hb0'.mono KR.out.size)).trans (hal0.mono (by have := KR.out.size; have := hb0'.size; omega)))
          obtain ⟨A0, c0, rfl⟩ := own_form hr0
          clear CS0 hr0 hb0' hq0 hal0 hx0 CA KR
          go_wp2_with fail
          refine CS0'.out.mono ?_
          rintro e y2 ⟨rfl, hd0⟩
          have KA := Lib.hid (KB0.out.trans (hd0.below _))
          clear KB0 hd0 CS0'
          by_cases hbe : xb.data.toList = []
          · have hz1 : xb.toList.isEmpty = true := by rw [ByteArray.toList_eq, hbe]; rfl
            have hz2 : (xb.toList == []) = true := by rw [ByteArray.toList_eq, hbe]; rfl
            have CF := Lib.hid (fun w' => diff_any w' xa ⟨#[]⟩ (by omega) (by decide))
            go_wp2_with fail
            refine (CF.out _).mono ?_
            rintro e u3 ⟨v3, rfl, hr3, hb3⟩
            have hq3 : diffD xa.data.toList (⟨#[]⟩ : ByteArray).data.toList = [] := diffD_none _
            rw [hq3] at hr3
            obtain ⟨A3, c3, rfl⟩ := own_form hr3
            have KC := Lib.hid (KA.out.trans (hb3.mono KA.out.size))
            clear hr3 hb3 hq3 CF KA
            have CW := Lib.hid (awake_any u3)
            go_wp2_with fail
            refine CW.out.mono ?_
            rintro e u4 ⟨rfl, hb4⟩
            have KD := Lib.hid (KC.out.trans (hb4.mono KC.out.size))
            clear hb4 CW KC
            go_wp2
            go_ret
            exact ⟨rfl, KD.out⟩
          · have hz1 : xb.toList.isEmpty = false := by rw [ByteArray.toList_eq]; simpa using hbe
            have hz2 : (xb.toList == []) = false := by rw [ByteArray.toList_eq]; simpa using hbe
            have CE := Lib.hid (fun w' => diff_any w' ⟨#[]⟩ xb (by decide) (by omega))
            go_wp2_with fail
            refine (CE.out _).mono ?_
            rintro e u1 ⟨v1, rfl, hr1, hb1⟩
            have hq1 : diffD (⟨#[]⟩ : ByteArray).data.toList xb.data.toList = [⟨0, 0, xb.data.toList⟩] := diffD_empty hbe
            rw [hq1] at hr1
            have hal1 := (Below.refl u1.heap.size u1).alloc (Nat.le_refl _) (.cells #[.int .i64 0, .int .i64 0, .string xb] 28)
            have hx1 : Dls (u1.alloc (.cells #[.int .i64 0, .int .i64 0, .string xb] 28)) (.slice (some ⟨u1.heap.size, 0, none⟩) 1 1) [⟨0, 0, xb.data.toList⟩] := dls_new (xs := [⟨0, 0, xb.data.toList⟩]) (by simp [dC, strB_of]) (by simp) (by simp)
            have CS1 := same_any _ ((dls_own hr1).keep (Keeps.of_below hal1)) hx1 (by simp)
            rw [eqB_true rfl] at CS1
            have CS1' := Lib.hid CS1
            have KB := Lib.hid ((KA.out.trans (hb1.mono KA.out.size)).trans (hal1.mono (by have := KA.out.size; have := hb1.size; omega)))
            obtain ⟨A1, c1, rfl⟩ := own_form hr1
            clear CS1 hr1 hb1 hq1 hal1 hx1 CE KA
            go_wp2_with fail
            refine CS1'.out.mono ?_
            rintro e u2 ⟨rfl, hd2⟩
            have KA := Lib.hid (KB.out.trans (hd2.below _))
            clear KB hd2 CS1'
            have CF := Lib.hid (fun w' => diff_any w' xa ⟨#[]⟩ (by omega) (by decide))
            go_wp2_with fail
            refine (CF.out _).mono ?_
            rintro e u3 ⟨v3, rfl, hr3, hb3⟩
            have hq3 : diffD xa.data.toList (⟨#[]⟩ : ByteArray).data.toList = [] := diffD_none _
            rw [hq3] at hr3
            obtain ⟨A3, c3, rfl⟩ := own_form hr3
            have KC := Lib.hid (KA.out.trans (hb3.mono KA.out.size))
            clear hr3 hb3 hq3 CF KA
            have CW := Lib.hid (awake_any u3)
            go_wp2_with fail
            refine CW.out.mono ?_
            rintro e u4 ⟨rfl, hb4⟩
            have KD := Lib.hid (KC.out.trans (hb4.mono KC.out.size))
            clear hb4 CW KC
            go_wp2
            go_ret
            exact ⟨rfl, KD.out⟩
        · have d4 : decide ((4 : Int) ≤ (xa.size : Int)) = false := by simp; omega
          have KA := KR
          clear KR
          by_cases hbe : xb.data.toList = []
          · have hz1 : xb.toList.isEmpty = true := by rw [ByteArray.toList_eq, hbe]; rfl
            have hz2 : (xb.toList == []) = true := by rw [ByteArray.toList_eq, hbe]; rfl
            have CF := Lib.hid (fun w' => diff_any w' xa ⟨#[]⟩ (by omega) (by decide))
            go_wp2_with fail
            refine (CF.out _).mono ?_
            rintro e u3 ⟨v3, rfl, hr3, hb3⟩
            have hq3 : diffD xa.data.toList (⟨#[]⟩ : ByteArray).data.toList = [] := diffD_none _
            rw [hq3] at hr3
            obtain ⟨A3, c3, rfl⟩ := own_form hr3
            have KC := Lib.hid (KA.out.trans (hb3.mono KA.out.size))
            clear hr3 hb3 hq3 CF KA
            have CW := Lib.hid (awake_any u3)
            go_wp2_with fail
            refine CW.out.mono ?_
            rintro e u4 ⟨rfl, hb4⟩
            have KD := Lib.hid (KC.out.trans (hb4.mono KC.out.size))
            clear hb4 CW KC
            go_wp2
            go_ret
            exact ⟨rfl, KD.out⟩
          · have hz1 : xb.toList.isEmpty = false := by rw [ByteArray.toList_eq]; simpa using hbe
            have hz2 : (xb.toList == []) = false := by rw [ByteArray.toList_eq]; simpa using hbe
            have CE := Lib.hid (fun w' => diff_any w' ⟨#[]⟩ xb (by decide) (by omega))
            go_wp2_with fail
            refine (CE.out _).mono ?_
            rintro e u1 ⟨v1, rfl, hr1, hb1⟩
            have hq1 : diffD (⟨#[]⟩ : ByteArray).data.toList xb.data.toList = [⟨0, 0, xb.data.toList⟩] := diffD_empty hbe
            rw [hq1] at hr1
            have hal1 := (Below.refl u1.heap.size u1).alloc (Nat.le_refl _) (.cells #[.int .i64 0, .int .i64 0, .string xb] 28)
            have hx1 : Dls (u1.alloc (.cells #[.int .i64 0, .int .i64 0, .string xb] 28)) (.slice (some ⟨u1.heap.size, 0, none⟩) 1 1) [⟨0, 0, xb.data.toList⟩] := dls_new (xs := [⟨0, 0, xb.data.toList⟩]) (by simp [dC, strB_of]) (by simp) (by simp)
            have CS1 := same_any _ ((dls_own hr1).keep (Keeps.of_below hal1)) hx1 (by simp)
            rw [eqB_true rfl] at CS1
            have CS1' := Lib.hid CS1
            have KB := Lib.hid ((KA.out.trans (hb1.mono KA.out.size)).trans (hal1.mono (by have := KA.out.size; have := hb1.size; omega)))
            obtain ⟨A1, c1, rfl⟩ := own_form hr1
            clear CS1 hr1 hb1 hq1 hal1 hx1 CE KA
            go_wp2_with fail
            refine CS1'.out.mono ?_
            rintro e u2 ⟨rfl, hd2⟩
            have KA := Lib.hid (KB.out.trans (hd2.below _))
            clear KB hd2 CS1'
            have CF := Lib.hid (fun w' => diff_any w' xa ⟨#[]⟩ (by omega) (by decide))
            go_wp2_with fail
            refine (CF.out _).mono ?_
            rintro e u3 ⟨v3, rfl, hr3, hb3⟩
            have hq3 : diffD xa.data.toList (⟨#[]⟩ : ByteArray).data.toList = [] := diffD_none _
            rw [hq3] at hr3
            obtain ⟨A3, c3, rfl⟩ := own_form hr3
            have KC := Lib.hid (KA.out.trans (hb3.mono KA.out.size))
            clear hr3 hb3 hq3 CF KA
            have CW := Lib.hid (awake_any u3)
            go_wp2_with fail
            refine CW.out.mono ?_
            rintro e u4 ⟨rfl, hb4⟩
            have KD := Lib.hid (KC.out.trans (hb4.mono KC.out.size))
            clear hb4 CW KC
            go_wp2
            go_ret
            exact ⟨rfl, KD.out⟩
end Go.Proofs.Ytiioebpmfjipeaa
