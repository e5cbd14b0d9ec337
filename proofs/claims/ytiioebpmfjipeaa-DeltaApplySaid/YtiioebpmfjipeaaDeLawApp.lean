/- The law DeltaApply, walked. (Printed by wip/gen/gen_delaws.py.) -/
import Derived.Test.YtiioebpmfjipeaaDeAwake
import Derived.Test.YtiioebpmfjipeaaDeApply
namespace Go.Proofs.Ytiioebpmfjipeaa
set_option linter.unusedVariables false
set_option linter.unusedSimpArgs false
open Go.RowKit

set_option maxRecDepth 100000 in
set_option maxHeartbeats 4000000 in
theorem law_apply (w : World) (xa : ByteArray) (ha0 : xa.size ≤ 9223372036854775807) (va : Value) (xs : List DOp) (hv : Dls w va xs ∧ ∀ x ∈ xs, Int64 x.off ∧ Int64 x.len) :
    Calls Try.prog 6 #[.string xa, va] w fun e w' => e = .returned (.bool true) ∧ Below w.heap.size w w' := by
  have K0 := Lib.hid (Below.refl w.heap.size w)
  obtain ⟨ha, hi64⟩ := hv
  have CG := Lib.hid (great_any w ha)
  obtain ⟨A, c, rfl, _, _⟩ := ha.form
  by_cases hbig : 200 < xa.size
  · have h1 : decide ((200 : Int) < (xa.size : Int)) = true := by simp; omega
    clear ha hi64 CG
    go_enter Try.func6, Try.ntmps6
    have C1 := Lib.hid (awake_any w)
    go_wp2_with fail
    refine C1.out.mono ?_
    rintro e w1 ⟨rfl, hb1⟩
    have K1 := Lib.hid (K0.out.trans (hb1.mono K0.out.size))
    clear C1 hb1 K0
    go_wp2
    go_ret
    exact ⟨rfl, K1.out⟩
  · have h1 : decide ((200 : Int) < (xa.size : Int)) = false := by simp; omega
    by_cases hg : greatB xs = true
    · rw [hg] at CG
      clear ha hi64 hg
      go_enter Try.func6, Try.ntmps6
      have C1 := Lib.hid (CG.out)
      go_wp2_with fail
      refine C1.out.mono ?_
      rintro e v1 ⟨rfl, rfl⟩
      clear C1
      have C2 := Lib.hid (awake_any w)
      go_wp2_with fail
      refine C2.out.mono ?_
      rintro e w2 ⟨rfl, hb2⟩
      have K2 := Lib.hid (K0.out.trans (hb2.mono K0.out.size))
      clear C2 hb2 K0
      go_wp2
      go_ret
      exact ⟨rfl, K2.out⟩
    · have hg' : greatB xs = false := by simpa using hg
      have HI := Lib.hid (show ∀ x ∈ xs, Int64 x.off ∧ Int64 x.len ∧ x.data.length ≤ 9000000000000000000 from fun x hx => ⟨(hi64 x hx).1, (hi64 x hx).2, by have := ((greatB_false hg').2 x hx).1; omega⟩)
      rw [hg'] at CG
      have HA := Lib.hid ha
      clear ha hi64 hg hg'
      go_enter Try.func6, Try.ntmps6
      have C1 := Lib.hid (CG.out)
      go_wp2_with fail
      refine C1.out.mono ?_
      rintro e v1 ⟨rfl, rfl⟩
      clear C1
      have C2x := apply_any w xa (HA.out.keep (Keeps.of_below K0.out)) HI.out (by omega)
      unfold EncE at C2x
      have C2 := Lib.hid C2x
      clear C2x
      go_wp2_with fail
      refine C2.out.mono ?_
      rintro e w2 ⟨rfl, hb2⟩
      have K2 := Lib.hid (K0.out.trans (hb2.mono K0.out.size))
      clear C2 hb2 K0
      have C3x := rapply_any w2 xa (HA.out.keep (Keeps.of_below K2.out)) HI.out (by omega)
      unfold EncE at C3x
      have C3 := Lib.hid C3x
      clear C3x
      go_wp2_with fail
      refine C3.out.mono ?_
      rintro e w3 ⟨rfl, hb3⟩
      have K3 := Lib.hid (K2.out.trans (hb3.mono K2.out.size))
      clear C3 hb3 K2
      generalize applyD xa.data.toList xs = q at *
      have C4 := Lib.hid (awake_any w3)
      go_wp2_with fail
      refine C4.out.mono ?_
      rintro e w4 ⟨rfl, hb4⟩
      have K4 := Lib.hid (K3.out.trans (hb4.mono K3.out.size))
      clear C4 hb4 K3
      go_wp2
      go_ret
      exact ⟨rfl, K4.out⟩
end Go.Proofs.Ytiioebpmfjipeaa
