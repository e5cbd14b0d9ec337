/- The law's awake. -/
import Derived.Test.YtiioebpmfjipeaaDeEnc
namespace Go.Proofs.Ytiioebpmfjipeaa
set_option linter.unusedVariables false
set_option linter.unusedSimpArgs false
open Go.RowKit

def awA : ByteArray := ⟨#[97, 98, 99, 100, 101, 102, 103, 104]⟩
def awB : ByteArray := ⟨#[120, 99, 100, 101, 102, 103, 104, 97, 98]⟩
def awL : List DOp := [⟨0, 0, [120]⟩, ⟨2, 6, []⟩, ⟨0, 0, [97, 98]⟩]
theorem aw_diff : diffD awA.data.toList awB.data.toList = awL := by decide +kernel
theorem dig_small {n : Nat} (h : n < 128) : digL n = [UInt8.ofNat n] := digL_last h
theorem aw_enc : encodeD [⟨5, 3, []⟩] = ([1, 3, 5], 0) := by
  have h1 : checkD [⟨5, 3, []⟩] 65536 = 0 := by decide +kernel
  have h2 : putI ((([⟨5, 3, []⟩] : List DOp).length : Nat) : Int) = ([1], 0) := by
    unfold putI
    rw [if_pos (by simp)]
    show (digL 1, 0) = _
    rw [dig_small (by omega)]; rfl
  have h3 : putI 3 = ([3], 0) := by
    unfold putI
    rw [if_pos (by omega)]
    show (digL 3, 0) = _
    rw [dig_small (by omega)]; rfl
  have h4 : putI 5 = ([5], 0) := by
    unfold putI
    rw [if_pos (by omega)]
    show (digL 5, 0) = _
    rw [dig_small (by omega)]; rfl
  have h5 : encX ⟨5, 3, []⟩ = [3, 5] := by
    unfold encX
    rw [if_pos ⟨by decide, rfl⟩]
    simp only [h3, h4]; rfl
  unfold encodeD
  rw [if_pos h1, h2]
  simp [h5]
theorem dls_new {w : World} {xs : List DOp} {cs : Array Value} (hc : cs.toList = xs.flatMap dC) (hx : xs ≠ []) (hm : xs.length ≤ 1000000) : Dls (w.alloc (.cells cs 28)) (.slice (some ⟨w.heap.size, 0, none⟩) xs.length xs.length) xs := by
  refine ⟨some ⟨w.heap.size, 0, none⟩, xs.length, cs.toList, rfl, Nat.le_refl _, by unfold maxLen; omega, CellsAt.of_new w cs _ (0, 0), ?_⟩
  rw [hc]
  exact elems_dC xs

set_option maxRecDepth 100000 in
set_option maxHeartbeats 2000000 in
theorem awake_any (w : World) : Calls Try.prog 13 #[] w fun e w' => e = .returned (.bool true) ∧ Below w.heap.size w w' := by
  have CD := Lib.hid (diff_any w awA awB (by decide +kernel) (by decide +kernel))
  rw [aw_diff] at CD
  unfold awA awB at CD
  go_enter Try.func13, Try.ntmps13
  go_wp2_with fail
  refine CD.out.mono ?_
  rintro e w1 ⟨v, rfl, hr, hb1⟩
  have hx1 : Dls (w1.alloc (.cells #[.int .i64 5, .int .i64 3, .string ⟨#[]⟩] 28)) (.slice (some ⟨w1.heap.size, 0, none⟩) 1 1) [⟨5, 3, []⟩] := dls_new (xs := [⟨5, 3, []⟩]) rfl (by simp) (by simp)
  have CE := encode_any _ hx1 (fun x hx => by
    obtain rfl : x = ⟨5, 3, []⟩ := by simpa using hx
    refine ⟨⟨by simp only; omega, by simp only; omega⟩, ⟨by simp only; omega, by simp only; omega⟩, by simp⟩) (by simp)
  rw [aw_enc] at CE
  have CE' := Lib.hid CE
  have K1 := Lib.hid hb1
  have hal := (Below.refl w1.heap.size w1).alloc (Nat.le_refl _) (.cells #[.int .i64 5, .int .i64 3, .string ⟨#[]⟩] 28)
  have HR := Lib.hid hr
  clear CD CE hb1 hx1 hr
  go_wp2_with fail
  refine CE'.out.mono ?_
  rintro e w2 ⟨rfl, hb2⟩
  have hdl := dls_own HR.out
  have hb12 : Below w1.heap.size w1 w2 := hal.trans (hb2.mono (by simp))
  have hx2 : Dls (w2.alloc (.cells #[.int .i64 0, .int .i64 0, .string ⟨#[120]⟩, .int .i64 2, .int .i64 6, .string ⟨#[]⟩, .int .i64 0, .int .i64 0, .string ⟨#[97, 98]⟩] 28)) (.slice (some ⟨w2.heap.size, 0, none⟩) 3 3) awL := dls_new (xs := awL) rfl (by simp [awL]) (by simp [awL])
  have hal2 := (Below.refl w2.heap.size w2).alloc (Nat.le_refl _) (.cells #[.int .i64 0, .int .i64 0, .string ⟨#[120]⟩, .int .i64 2, .int .i64 6, .string ⟨#[]⟩, .int .i64 0, .int .i64 0, .string ⟨#[97, 98]⟩] 28)
  have CS := same_any _ ((hdl.keep (Keeps.of_below hb12)).keep (Keeps.of_below hal2)) hx2 (by simp [awL])
  rw [eqB_true rfl] at CS
  have CS' := Lib.hid CS
  have K3 := Lib.hid ((K1.out.trans (hb12.mono K1.out.size)).trans (hal2.mono (by have := K1.out.size; have := hb12.size; omega)))
  obtain ⟨Av, cv, rfl⟩ := own_form HR.out
  clear CE' CS hb2 hb12 hx2 hal2 hal hdl HR K1
  simp only
  go_wp2_with fail
  refine CS'.out.mono ?_
  rintro e w3 ⟨rfl, hd⟩
  have hst : ((strB [1, 3, 5]).toList == [1, 3, 5]) = true := by rw [strB_toList]; rfl
  have K4 := Lib.hid (K3.out.trans (hd.below _))
  clear CS' K3 hd
  generalize strB [1, 3, 5] = s at *
  go_wp2
  go_ret
  exact ⟨rfl, K4.out⟩
end Go.Proofs.Ytiioebpmfjipeaa
