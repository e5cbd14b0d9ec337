/- The law DeltaDiff, walked. -/
import Derived.Test.YtiioebpmfjipeaaDeAwake
import Derived.Test.YtiioebpmfjipeaaDeRDiff
namespace Go.Proofs.Ytiioebpmfjipeaa
set_option linter.unusedVariables false
set_option linter.unusedSimpArgs false
open Go.RowKit

theorem addD_len (l : List DOp) (x : DOp) : (addD l x).length ≤ l.length + 1 := by
  rcases List.eq_nil_or_concat l with rfl | ⟨ys, y, rfl⟩
  · simp [addD]
  · rw [List.concat_eq_append, addD_last]
    split
    · simp
    · split <;> simp
theorem fold_len : ∀ (l xs : List DOp), (l.foldl addD xs).length ≤ xs.length + l.length
  | [], xs => by simp
  | x :: l, xs => by
    have h1 := addD_len xs x
    have h2 := fold_len l (addD xs x)
    rw [List.foldl_cons, List.length_cons]
    omega
theorem diffD_len (a b : ByteArray) (ha : a.size ≤ 65536) (hb : b.size ≤ 65536) : (diffD a.data.toList b.data.toList).length ≤ 9000000000000000000 := by
  have h1 : diffD a.data.toList b.data.toList = _ := joinD_eq (diffF_ok _ _ _ _)
  rw [h1]
  have h2 := fold_len (diffF a.data.toList b.data.toList (b.data.toList.length + 1) 0) []
  have h3 := (diffF_bd (a := a.data.toList) (b := b.data.toList) ha hb (b.data.toList.length + 1) 0).1
  have h4 : b.data.toList.length = b.size := rfl
  rw [List.length_nil] at h2
  omega

set_option maxRecDepth 100000 in
set_option maxHeartbeats 4000000 in
theorem law_diff (w : World) (xa : ByteArray) (ha0 : xa.size ≤ 9223372036854775807) (xb : ByteArray) (hb0 : xb.size ≤ 9223372036854775807) :
    Calls Try.prog 3 #[.string xa, .string xb] w fun e w' => e = .returned (.bool true) ∧ Below w.heap.size w w' := by
  by_cases hbig : 100 < xa.size ∨ 100 < xb.size
  · have CW := Lib.hid (awake_any w)
    rcases hbig with h | h
    · have h1 : decide ((100 : Int) < (xa.size : Int)) = true := by simp; omega
      go_enter Try.func3, Try.ntmps3
      go_wp2_with fail
      refine CW.out.mono ?_
      rintro e w1 ⟨rfl, hb⟩
      go_wp2
      go_ret
      exact ⟨rfl, hb⟩
    · by_cases h2 : 100 < xa.size
      · have h1 : decide ((100 : Int) < (xa.size : Int)) = true := by simp; omega
        go_enter Try.func3, Try.ntmps3
        go_wp2_with fail
        refine CW.out.mono ?_
        rintro e w1 ⟨rfl, hb⟩
        go_wp2
        go_ret
        exact ⟨rfl, hb⟩
      · have h1 : decide ((100 : Int) < (xa.size : Int)) = false := by simp; omega
        have h3 : decide ((100 : Int) < (xb.size : Int)) = true := by simp; omega
        go_enter Try.func3, Try.ntmps3
        go_wp2_with fail
        refine CW.out.mono ?_
        rintro e w1 ⟨rfl, hb⟩
        go_wp2
        go_ret
        exact ⟨rfl, hb⟩
  · have h1 : decide ((100 : Int) < (xa.size : Int)) = false := by simp; omega
    have h2 : decide ((100 : Int) < (xb.size : Int)) = false := by simp; omega
    have hsa : xa.size ≤ 100 := by omega
    have hsb : xb.size ≤ 100 := by omega
    have CD := Lib.hid (diff_any w xa xb (by omega) (by omega))
    clear hbig
    go_enter Try.func3, Try.ntmps3
    go_wp2_with fail
    refine CD.out.mono ?_
    rintro e w1 ⟨v, rfl, hr, hb1⟩
    have CR := Lib.hid (rdiff_any w1 xa xb (by omega) (by omega))
    have HD := Lib.hid (dls_own hr)
    have K1 := Lib.hid hb1
    have HL := Lib.hid (show (diffD xa.data.toList xb.data.toList).length ≤ 9000000000000000000 from diffD_len xa xb (by omega) (by omega))
    clear hr hb1 CD
    go_wp2_with fail
    refine CR.out.mono ?_
    rintro e w2 ⟨v2, rfl, h2', hb2⟩
    have hq := same_any w2 (HD.out.keep (Keeps.of_below hb2)) h2' HL.out
    rw [eqB_true rfl] at hq
    have CS := Lib.hid hq
    have K2 := Lib.hid (K1.out.trans (hb2.mono K1.out.size))
    clear hq h2' hb2 K1 CR HD HL
    go_wp2_with fail
    refine CS.out.mono ?_
    rintro e w3 ⟨rfl, hd3⟩
    have CW := Lib.hid (awake_any w3)
    have K3 := Lib.hid (K2.out.trans (hd3.below _))
    clear hd3 K2 CS
    go_wp2_with fail
    refine CW.out.mono ?_
    rintro e w4 ⟨rfl, hb4⟩
    have K4 := Lib.hid (K3.out.trans (hb4.mono K3.out.size))
    clear hb4 K3 CW
    go_wp2
    go_ret
    exact ⟨rfl, K4.out⟩
end Go.Proofs.Ytiioebpmfjipeaa
