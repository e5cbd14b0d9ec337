/- The law DeltaCheck, walked. -/
import Derived.Test.YtiioebpmfjipeaaDeAwake
import Derived.Test.YtiioebpmfjipeaaDeSize
namespace Go.Proofs.Ytiioebpmfjipeaa
set_option linter.unusedVariables false
set_option linter.unusedSimpArgs false
open Go.RowKit

set_option maxRecDepth 100000 in
set_option maxHeartbeats 4000000 in
theorem law_check (w : World) (va : Value) (xs : List DOp) (hv : Dls w va xs ∧ ∀ x ∈ xs, Int64 x.off ∧ Int64 x.len) (n : Int) (hn0 : -9223372036854775808 ≤ n) (hn1 : n ≤ 9223372036854775807) :
    Calls Try.prog 5 #[va, .int .i64 n] w fun e w' => e = .returned (.bool true) ∧ Below w.heap.size w w' := by
  obtain ⟨ha, hi64⟩ := hv
  have CG := Lib.hid (great_any w ha)
  obtain ⟨A, c, rfl, _, _⟩ := ha.form
  by_cases hg : greatB xs = true
  · rw [hg] at CG
    have CW := Lib.hid (awake_any w)
    clear ha hi64 hg
    go_enter Try.func5, Try.ntmps5
    go_wp2_with fail
    refine CG.out.mono ?_
    rintro e w1 ⟨rfl, rfl⟩
    go_wp2_with fail
    refine CW.out.mono ?_
    rintro e w1 ⟨rfl, hb⟩
    go_wp2
    go_ret
    exact ⟨rfl, hb⟩
  · have hg' : greatB xs = false := by simpa using hg
    have hi : ∀ x ∈ xs, Int64 x.off ∧ Int64 x.len ∧ x.data.length ≤ 9000000000000000000 := fun x hx => ⟨(hi64 x hx).1, (hi64 x hx).2, by have := ((greatB_false hg').2 x hx).1; omega⟩
    rw [hg'] at CG
    have HA := Lib.hid ha
    have HI := Lib.hid hi
    have CK := Lib.hid (check_any w ha n hi)
    clear ha hi64 hg hg' hi
    go_enter Try.func5, Try.ntmps5
    go_wp2_with fail
    refine CG.out.mono ?_
    rintro e w1 ⟨rfl, rfl⟩
    go_wp2_with fail
    refine CK.out.mono ?_
    rintro e w2 ⟨rfl, hb2⟩
    have CR := Lib.hid (rcheck_any w2 (HA.out.keep (Keeps.of_below hb2)) n HI.out)
    have K2 := Lib.hid hb2
    clear hb2 CK CG
    generalize checkD xs n = q at *
    go_wp2_with fail
    refine CR.out.mono ?_
    rintro e w3 ⟨rfl, hb3⟩
    have K3 := Lib.hid (K2.out.trans (hb3.mono K2.out.size))
    have CS := Lib.hid (size_all w3 (HA.out.keep (Keeps.of_below K3.out)) HI.out)
    clear hb3 K2 CR
    go_wp2_with fail
    refine CS.out.mono ?_
    rintro e w4 ⟨rfl, hb4⟩
    have K4 := Lib.hid (K3.out.trans (hb4.mono K3.out.size))
    have CT := rsize_all w4 (HA.out.keep (Keeps.of_below K4.out)) HI.out
    have CT' := Lib.hid CT
    clear hb4 K3 CS CT
    generalize sizeD xs = z at *
    go_wp2_with fail
    refine CT'.out.mono ?_
    rintro e w5 ⟨rfl, hb5⟩
    have K5 := Lib.hid (K4.out.trans (hb5.mono K4.out.size))
    have CW := Lib.hid (awake_any w5)
    clear hb5 K4 CT'
    go_wp2_with fail
    refine CW.out.mono ?_
    rintro e w6 ⟨rfl, hb6⟩
    have K6 := Lib.hid (K5.out.trans (hb6.mono K5.out.size))
    clear hb6 K5 CW
    go_wp2
    go_ret
    exact ⟨rfl, K6.out⟩
end Go.Proofs.Ytiioebpmfjipeaa
