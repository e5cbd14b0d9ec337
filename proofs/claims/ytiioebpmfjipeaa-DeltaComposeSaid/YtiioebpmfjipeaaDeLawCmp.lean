/- The law DeltaCompose, walked. (Printed by wip/gen/gen_delaws2.py.) -/
import Derived.Test.YtiioebpmfjipeaaDeAwake
import Derived.Test.YtiioebpmfjipeaaDeComp
import Derived.Test.YtiioebpmfjipeaaCompL
import Derived.Test.YtiioebpmfjipeaaDeGreat
namespace Go.Proofs.Ytiioebpmfjipeaa
set_option linter.unusedVariables false
set_option linter.unusedSimpArgs false
open Go.RowKit

set_option maxRecDepth 100000 in
set_option maxHeartbeats 4000000 in
theorem law_compose (w : World) (n : Int) (hn0 : -9223372036854775808 ≤ n) (hn1 : n ≤ 9223372036854775807) (va : Value) (xs : List DOp) (hv : Dls w va xs ∧ ∀ x ∈ xs, Int64 x.off ∧ Int64 x.len) (vb : Value) (ys : List DOp) (hv2 : Dls w vb ys ∧ ∀ x ∈ ys, Int64 x.off ∧ Int64 x.len) :
    Calls Try.prog 10 #[.int .i64 n, va, vb] w fun e w' => e = .returned (.bool true) ∧ Below w.heap.size w w' := by
  have K0 := Lib.hid (Below.refl w.heap.size w)
  obtain ⟨ha, hi64⟩ := hv
  obtain ⟨hb, hj64⟩ := hv2
  have CG := Lib.hid (great_any w ha)
  have CH := Lib.hid (great_any w hb)
  obtain ⟨A, c, rfl, hac, _⟩ := ha.form
  obtain ⟨B, d, rfl, hbc, _⟩ := hb.form
  by_cases hg : greatB xs = true
  · rw [hg] at CG
    clear ha hi64 hb hj64 hg CH
    go_enter Try.func10, Try.ntmps10
    have C1 := Lib.hid (CG.out)
    go_wp2_with fail
    refine C1.out.mono ?_
    rintro e v1 ⟨rfl, rfl⟩
    clear C1
    have C2 := Lib.hid (awake_any w)
    go_wp2_with fail
    refine C2.out.mono ?_
    rintro e w2 ⟨rfl, hb2⟩
    have K2 := Lib.hid (K0.out.trans (hb2.mono K0.out.size))
    clear C2 hb2 K0
    go_wp2
    go_ret
    exact ⟨rfl, K2.out⟩
  · have hg' : greatB xs = false := by simpa using hg
    have HI := Lib.hid (show ∀ x ∈ xs, Int64 x.off ∧ Int64 x.len ∧ x.data.length ≤ 9000000000000000000 from fun x hx => ⟨(hi64 x hx).1, (hi64 x hx).2, by have := ((greatB_false hg').2 x hx).1; omega⟩)
    rw [hg'] at CG
    by_cases hg2 : greatB ys = true
    · rw [hg2] at CH
      clear ha hi64 hb hj64 hg hg' hg2
      go_enter Try.func10, Try.ntmps10
      have C1 := Lib.hid (CG.out)
      go_wp2_with fail
      refine C1.out.mono ?_
      rintro e v1 ⟨rfl, rfl⟩
      clear C1
      have C2 := Lib.hid (CH.out)
      go_wp2_with fail
      refine C2.out.mono ?_
      rintro e v2 ⟨rfl, rfl⟩
      clear C2
      have C3 := Lib.hid (awake_any w)
      go_wp2_with fail
      refine C3.out.mono ?_
      rintro e w3 ⟨rfl, hb3⟩
      have K3 := Lib.hid (K0.out.trans (hb3.mono K0.out.size))
      clear C3 hb3 K0
      go_wp2
      go_ret
      exact ⟨rfl, K3.out⟩
    · have hg2' : greatB ys = false := by simpa using hg2
      have HI2 := Lib.hid (show ∀ x ∈ ys, Int64 x.off ∧ Int64 x.len ∧ x.data.length ≤ 9000000000000000000 from fun x hx => ⟨(hj64 x hx).1, (hj64 x hx).2, by have := ((greatB_false hg2').2 x hx).1; omega⟩)
      rw [hg2'] at CH
      have HA := Lib.hid ha
      have HB := Lib.hid hb
      clear ha hi64 hb hj64 hg hg' hg2 hg2'
      have HLL := Lib.hid (composeD_len n xs ys)
      go_enter Try.func10, Try.ntmps10
      have C1 := Lib.hid (CG.out)
      go_wp2_with fail
      refine C1.out.mono ?_
      rintro e v1 ⟨rfl, rfl⟩
      clear C1
      have C2 := Lib.hid (CH.out)
      go_wp2_with fail
      refine C2.out.mono ?_
      rintro e v2 ⟨rfl, rfl⟩
      clear C2
      have C3 := Lib.hid (compose_any w n HA.out HB.out HI.out HI2.out)
      go_wp2_with fail
      refine C3.out.mono ?_
      rintro e w3 ⟨v3, rfl, hv3, hb3⟩
      have K3 := Lib.hid (K0.out.trans (hb3.mono K0.out.size))
      have F1 := Lib.hid (HA.out.keep (Keeps.of_below hb3))
      clear HA
      have F2 := Lib.hid (HB.out.keep (Keeps.of_below hb3))
      clear HB
      clear C3 hb3 K0
      have F3 := Lib.hid (hv3)
      clear hv3
      have C4 := Lib.hid (rcompose_any w3 n F1.out F2.out HI.out HI2.out)
      clear F1
      clear F2
      go_wp2_with fail
      refine C4.out.mono ?_
      rintro e w4 ⟨v4, rfl, hv4, hb4⟩
      have K4 := Lib.hid (K3.out.trans (hb4.mono K3.out.size))
      have F4 := Lib.hid (F3.out.keep (Keeps.of_below hb4))
      clear F3
      clear C4 hb4 K3
      have F5 := Lib.hid (hv4)
      clear hv4
      have C5x := same_any w4 F4.out F5.out (by have := HLL.out; omega)
      rw [eqB_true rfl] at C5x
      have C5 := Lib.hid C5x
      clear C5x
      clear F4
      clear F5
      go_wp2_with fail
      refine C5.out.mono ?_
      rintro e w5 ⟨rfl, hb5⟩
      have K5 := Lib.hid (K4.out.trans (hb5.below _))
      clear C5 hb5 K4
      generalize composeD n xs ys = q at *
      have C6 := Lib.hid (awake_any w5)
      go_wp2_with fail
      refine C6.out.mono ?_
      rintro e w6 ⟨rfl, hb6⟩
      have K6 := Lib.hid (K5.out.trans (hb6.mono K5.out.size))
      clear C6 hb6 K5
      go_wp2
      go_ret
      exact ⟨rfl, K6.out⟩
end Go.Proofs.Ytiioebpmfjipeaa
