/- delta: Compose. -/
import Derived.Test.YtiioebpmfjipeaaDeCmp2
import Derived.Test.YtiioebpmfjipeaaDeRComp
namespace Go.Proofs.Ytiioebpmfjipeaa
set_option linter.unusedVariables false
set_option linter.unusedSimpArgs false
open Go.RowKit

theorem comp_ok {n : Int} {xs ys : List DOp} (hn : n ≤ 65536) (hx : ValL n xs) (hy : ValL (sumD xs) ys) (hs : sumD ys ≤ 65536) : (∀ x ∈ compRaw xs ys, OkD x) ∧ (compRaw xs ys).length ≤ 1048576 := by
  obtain ⟨q1, q2, _⟩ := comp_all hx ys hy
  refine ⟨fun x h => ?_, by have := val_count q1; omega⟩
  have hv := q1 x h
  have hm := sumD_mem h
  have hz := szD_form hv.1
  have h1 := hv.len0
  unfold OkD
  rcases hv.1 with hc | hi
  · have := hv.2 hc; omega
  · have h2 := hi.1
    have h3 := hi.2.1
    omega

set_option maxRecDepth 100000 in
set_option maxHeartbeats 8000000 in
theorem compose_any (w : World) (n : Int) {va vb : Value} {xs ys : List DOp} (ha : Dls w va xs) (hb : Dls w vb ys) (hi : ∀ x ∈ xs, Int64 x.off ∧ Int64 x.len ∧ x.data.length ≤ 9000000000000000000) (hi2 : ∀ x ∈ ys, Int64 x.off ∧ Int64 x.len ∧ x.data.length ≤ 9000000000000000000) :
    Calls Try.prog 28 #[.int .i64 n, va, vb] w (ComE (composeD n xs ys) w) := by
  have CK := Lib.hid (check_any w ha n hi)
  obtain ⟨A, c, rfl, h1, h2⟩ := ha.form
  obtain ⟨B, d, rfl, h3, h4⟩ := hb.form
  have HA := Lib.hid ha
  have HB := Lib.hid hb
  by_cases hc : checkD xs n = 0
  · have CK2 := Lib.hid (fun w' h => check_any w' (va := .slice B ys.length d) (xs := ys) h (sumD xs) hi2)
    obtain ⟨⟨hn0, hn1⟩, hvx, hsx⟩ := checkD_iff.1 hc
    have hxl : xs.length ≤ 65536 := by have := val_count hvx; omega
    have CS := Lib.hid (fun w' h => total_any w' (va := .slice A xs.length c) (xs := xs) h (by omega))
    have hr : composeD n xs ys = if checkD ys (sumD xs) ≠ 0 then ([], checkD ys (sumD xs)) else (joinD (compRaw xs ys), 0) := if_neg (fun e => e hc)
    have HR := Lib.hid hr
    generalize composeD n xs ys = rr at *
    rw [hc] at CK
    have hsx0 := sumD_pos xs
    have HVX := Lib.hid hvx
    clear hr hc ha hb hi hi2 hvx
    go_enter Try.func28, Try.ntmps28
    go_wp2_with fail
    refine CK.out.mono ?_
    rintro e w1 ⟨rfl, hb1⟩
    have CS' := Lib.hid (CS.out w1 (HA.out.keep (Keeps.of_below hb1)))
    have K1 := Lib.hid hb1
    clear CK CS hb1
    unfold CheckE at CS' CK2
    go_wp2_with fail
    refine CS'.out.mono ?_
    rintro e w2 ⟨rfl, hb2⟩
    have K2 := Lib.hid (K1.out.trans (hb2.mono K1.out.size))
    have CK3 := Lib.hid (CK2.out w2 (HB.out.keep (Keeps.of_below K2.out)))
    clear hb2 K1 CS' CK2
    go_wp2_with fail
    refine CK3.out.mono ?_
    rintro e w3 ⟨rfl, hb3⟩
    have K3 := Lib.hid (K2.out.trans (hb3.mono K2.out.size))
    clear hb3 K2 CK3
    by_cases hc2 : checkD ys (sumD xs) = 0
    · obtain ⟨_, hvy, hsy⟩ := checkD_iff.1 hc2
      have hq0 : ((checkD ys (sumD xs)) != 0) = false := by simpa using hc2
      have HR2 : Hid (rr = (joinD (compRaw xs ys), 0)) := by show _ = _; rw [HR.out, if_neg (fun e => e hc2)]
      have CC := Lib.hid (composition_any w3 (B := B) (m := ys.length) (d := d) (HA.out.keep (Keeps.of_below K3.out)) hsx hxl)
      have HVY := Lib.hid hvy
      clear HR hvy
      generalize checkD ys (sumD xs) = qq at *
      clear hc2
      go_wp2_with fail
      refine CC.out.mono ?_
      rintro e w4 ⟨b1, b2, b5, g, rfl, hcb, hb4⟩
      have K4 := Lib.hid (K3.out.trans (hb4.mono K3.out.size))
      have HU := comp1_in w4 hcb (HA.out.keep (Keeps.of_below K4.out)) (HB.out.keep (Keeps.of_below K4.out)) hn1 HVX.out hsx HVY.out hsy
      obtain ⟨o1, o2⟩ := comp_ok hn1 HVX.out HVY.out hsy
      have CJ := Lib.hid (join_any w4 66 #[.pointer (some ⟨b2, 0, none⟩), .pointer (some ⟨b5, 0, none⟩), .pointer (some ⟨b1, 0, none⟩)] (enters_of Try.func66 (by kernel_rfl) rfl) _ o1 o2 HU)
      clear hcb hb4 HU o1 o2 CC K3
      unfold compV
      go_wp2_with fail
      refine CJ.out.mono ?_
      rintro e w5 ⟨v, rfl, hr, hb5⟩
      have HE := Lib.hid (show ComE rr w (.returned (.tuple #[v, .int .i64 0])) w5 from by rw [HR2.out]; exact ⟨v, rfl, dls_own hr, K4.out.trans (hb5.mono K4.out.size)⟩)
      clear hr hb5 CJ K4 HR2
      go_wp2
      go_ret2
      exact HE.out
    · have hq0 : ((checkD ys (sumD xs)) != 0) = true := by simpa using hc2
      have HE := Lib.hid (show ComE rr w (.returned (.tuple #[.slice none 0 0, .int .i64 (checkD ys (sumD xs))])) w3 from by rw [HR.out, if_pos hc2]; exact ComE.nil K3.out)
      generalize checkD ys (sumD xs) = qq at *
      clear K3 hc2 HR
      go_wp2
      go_ret2
      exact HE.out
  · have hr : composeD n xs ys = ([], checkD xs n) := if_pos hc
    rw [hr]
    have hne : ((checkD xs n) != 0) = true := by simpa using hc
    generalize checkD xs n = q at *
    clear hr ha hb hi hi2 hc
    go_enter Try.func28, Try.ntmps28
    go_wp2_with fail
    refine CK.out.mono ?_
    rintro e w1 ⟨rfl, hb1⟩
    have HE := Lib.hid (show ComE ([], q) w (.returned (.tuple #[.slice none 0 0, .int .i64 q])) w1 from ComE.nil hb1)
    clear hb1 CK
    go_wp2
    go_ret2
    exact HE.out
end Go.Proofs.Ytiioebpmfjipeaa
