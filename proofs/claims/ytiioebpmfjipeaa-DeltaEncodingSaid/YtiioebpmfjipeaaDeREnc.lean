/- delta: the reference's Encode and Decode. -/
import Derived.Test.YtiioebpmfjipeaaCodRef
namespace Go.Proofs.Ytiioebpmfjipeaa
set_option linter.unusedVariables false
set_option linter.unusedSimpArgs false
open Go.RowKit

set_option maxRecDepth 100000 in
set_option maxHeartbeats 4000000 in
theorem rencode_any (w : World) {va : Value} {xs : List DOp} (ha : Dls w va xs) (hi : ∀ x ∈ xs, Int64 x.off ∧ Int64 x.len ∧ x.data.length ≤ 9000000000000000000) (hl : xs.length ≤ 100000) :
    Calls Try.prog 25 #[va] w (EncE (encodeD xs) w) := by
  have CK := Lib.hid (rcheck_any w ha 65536 hi)
  obtain ⟨A, c, rfl, h1, h2⟩ := ha.form
  by_cases hc : checkD xs 65536 = 0
  · have hr : encodeD xs = ((putI xs.length).1 ++ xs.flatMap encX, 0) := if_pos hc
    rw [hr]
    have HCan := Lib.hid (check_can hc)
    have HVal := Lib.hid (checkD_iff.1 hc).2.1
    rw [hc] at CK
    have HA := Lib.hid ha
    clear hr hc ha hi
    go_enter Try.func25, Try.ntmps25
    go_wp2_with fail
    refine CK.out.mono ?_
    rintro e w1 ⟨rfl, hb1⟩
    have C1 := Lib.hid (rputInt_any (xs.length : Int) w1)
    have K1 := Lib.hid hb1
    clear CK hb1
    go_wp2_with fail
    refine C1.out.mono ?_
    rintro e w2 ⟨rfl, hb2⟩
    have K2 := Lib.hid (K1.out.trans (hb2.mono K1.out.size))
    have hpl := putI_len (xs.length : Int)
    have HP0 : Hid ((putI (xs.length : Int)).1 ++ (xs.take 0).flatMap encX = (putI (xs.length : Int)).1) := by show _ = _; simp
    clear hb2 C1 K1
    go_wp2
    go_loopw [5, 7] (fun so i wr => ∃ k : Nat, k ≤ xs.length ∧ i = .int .i64 k ∧ so = .string (strB ((putI (xs.length : Int)).1 ++ (xs.take k).flatMap encX)) ∧ Below w.heap.size w wr) (fun _ i _ => xs.length - (intOf i).toNat)
    case atStart => exact ⟨0, by omega, rfl, by rw [HP0.out], K2.out⟩
    case round =>
      clear K2 HP0
      obtain ⟨k, hk, rfl, rfl, hbw⟩ := hrel
      by_cases hlt : k < xs.length
      · obtain ⟨x, hx⟩ : ∃ x, xs[k]? = some x := ⟨_, List.getElem?_eq_getElem hlt⟩
        obtain ⟨b1, o1, rfl, c0, c1, c2⟩ := (HA.out.keep (Keeps.of_below hbw)).get hx
        have hcan := HCan.out x (List.mem_of_getElem? hx)
        have hval := HVal.out x (List.mem_of_getElem? hx)
        have htl := encs_len (xs.take k)
        have htk : (xs.take k).length ≤ k := List.length_take_le _ _
        have HNX : Hid ((putI (xs.length : Int)).1 ++ (xs.take (k + 1)).flatMap encX = (putI (xs.length : Int)).1 ++ (xs.take k).flatMap encX ++ encX x) := by show _ = _; rw [take_succ_flat hx, List.append_assoc]
        have hPl : ((putI (xs.length : Int)).1 ++ (xs.take k).flatMap encX).length ≤ 6600000000 := by rw [List.length_append]; omega
        generalize (putI (xs.length : Int)).1 ++ (xs.take k).flatMap encX = P at *
        have hEX : Hid (encX x = (putI x.len).1 ++ (if x.cp then (putI x.off).1 else (putT x.data).1)) := rfl
        have hi1 := putI_len x.len
        have hi2 := putI_len x.off
        have hi3 := putT_len x.data
        have HX := Lib.hid hx
        have HG : Hid (∀ w', Below w.heap.size w w' → w'.cell? ⟨b1, o1 + k * 3, none⟩ = some (.int .i64 x.off) ∧ w'.cell? ⟨b1, o1 + k * 3 + 1, none⟩ = some (.int .i64 x.len) ∧ w'.cell? ⟨b1, o1 + k * 3 + 2, none⟩ = some (.string (strB x.data))) := fun w' hb => by
          obtain ⟨b1', o1', e, q0, q1, q2⟩ := (HA.out.keep (Keeps.of_below hb)).get hx
          cases e
          exact ⟨q0, q1, q2⟩
        have C1 := Lib.hid (rputInt_any x.len wr)
        have HB := Lib.hid hbw
        have hd1 := hcan.d1
        clear hx htl htk hbw hpl c0 c2
        go_wp2_with fail
        refine C1.out.mono ?_
        rintro e w3 ⟨rfl, hb3⟩
        have K3 := Lib.hid (HB.out.trans (hb3.mono HB.out.size))
        obtain ⟨d0, d1, d2⟩ := HG.out w3 K3.out
        have C2 := Lib.hid (rputText_any x.data w3 (by omega))
        clear C1 hb3 HB c1 d0 d1
        go_wp2_with fail
        refine C2.out.mono ?_
        rintro e w4 ⟨rfl, hb4⟩
        have K4 := Lib.hid (K3.out.trans (hb4.mono K3.out.size))
        obtain ⟨d0, d1, d3⟩ := HG.out w4 K4.out
        clear C2 hb4 K3 d2 d3
        have hap1 := strB_append P (putI x.len).1
        have hsz1 : ¬ 9223372036854775807 < (strB P).size + (strB (putI x.len).1).size := by rw [strB_size, strB_size]; omega
        by_cases hcl : 0 < x.len
        · have hq : decide ((0 : Int) < x.len) = true := by simp; omega
          have hcp : x.cp := ⟨hcl, hcan.cpy hcl⟩
          have HEX : Hid (encX x = (putI x.len).1 ++ (putI x.off).1) := by show _ = _; rw [hEX.out, if_pos hcp]
          have C5 := Lib.hid (rputInt_any x.off w4)
          have hap2 := strB_append (P ++ (putI x.len).1) (putI x.off).1
          have hsz2 : ¬ 9223372036854775807 < (strB (P ++ (putI x.len).1)).size + (strB (putI x.off).1).size := by rw [strB_size, strB_size, List.length_append]; omega
          clear hcan hval hcp hEX
          generalize (putI x.len).1 = a1 at *
          generalize (putI x.off).1 = a2 at *
          go_wp2_with fail
          refine C5.out.mono ?_
          rintro e w5 ⟨rfl, hb5⟩
          have K5 := Lib.hid (K4.out.trans (hb5.mono K4.out.size))
          clear C5 hb5 K4 d0 d1
          go_wp2
          go_roundw
          case rel => exact ⟨k + 1, by omega, by go_num, by rw [HNX.out, HEX.out, ← List.append_assoc], K5.out⟩
          case measure => simp [intOf]; omega
        · have hq : decide ((0 : Int) < x.len) = false := by simp; omega
          have hcp : ¬ x.cp := fun h => hcl h.1
          have HEX : Hid (encX x = (putI x.len).1 ++ (putT x.data).1) := by show _ = _; rw [hEX.out, if_neg hcp]
          have hap2 := strB_append (P ++ (putI x.len).1) (putT x.data).1
          have hsz2 : ¬ 9223372036854775807 < (strB (P ++ (putI x.len).1)).size + (strB (putT x.data).1).size := by rw [strB_size, strB_size, List.length_append]; omega
          clear hcan hval hcp hEX hcl
          generalize (putI x.len).1 = a1 at *
          generalize (putT x.data).1 = a2 at *
          go_wp2
          go_roundw
          case rel => exact ⟨k + 1, by omega, by go_num, by rw [HNX.out, HEX.out, ← List.append_assoc], K4.out⟩
          case measure => simp [intOf]; omega
      · have hks : xs.take k = xs := List.take_of_length_le (by omega)
        have HE := Lib.hid (show EncE ((putI (xs.length : Int)).1 ++ xs.flatMap encX, 0) w (.returned (.tuple #[.string (strB ((putI (xs.length : Int)).1 ++ (xs.take k).flatMap encX)), .int .i64 0])) wr from ⟨by rw [hks], hbw⟩)
        clear hks hbw HCan HVal
        go_wp2
        go_ret2
        exact HE.out
  · have hr : encodeD xs = ([], checkD xs 65536) := if_neg hc
    rw [hr]
    have hne : ((checkD xs 65536) != 0) = true := by simpa using hc
    generalize checkD xs 65536 = q at *
    clear hr ha hi hc
    go_enter Try.func25, Try.ntmps25
    go_wp2_with fail
    refine CK.out.mono ?_
    rintro e w1 ⟨rfl, hb1⟩
    have HE := Lib.hid (show EncE ([], q) w (.returned (.tuple #[.string ⟨#[]⟩, .int .i64 q])) w1 from ⟨rfl, hb1⟩)
    clear hb1 CK
    go_wp2
    go_ret2
    exact HE.out
end Go.Proofs.Ytiioebpmfjipeaa
