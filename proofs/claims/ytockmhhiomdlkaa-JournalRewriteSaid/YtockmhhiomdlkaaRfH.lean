/- The reference's Records and Room. -/
import Derived.Test.YtockmhhiomdlkaaRfG
namespace Go.Proofs.Ytockmhhiomdlkaa
set_option linter.unusedVariables false
set_option linter.unusedSimpArgs false
open Go.RowKit

set_option maxRecDepth 100000 in
set_option maxHeartbeats 1000000 in
theorem rrecords_any (W : World) (vs vp : Value) (d : Dk) (h : DskP W vs vp d) :
    Calls Try.prog 18 #[.agg #[.int .i64 d.size, vs, vp, .int .i64 d.left]] W (RecE (recD d) W) := by
  obtain ⟨A, c, P, cp, rfl, rfl, hc, hcp, hm, hmp⟩ := h.form
  have hbk := Blk.new W #[.int .i64 d.size, .slice A d.secs.length c, .slice P d.pend.length cp, .int .i64 d.left] 25
  have K1 := (Below.refl W.heap.size W).alloc (Nat.le_refl _) (.cells #[.int .i64 d.size, .slice A d.secs.length c, .slice P d.pend.length cp, .int .i64 d.left] 25)
  have CO := Lib.hid (ropen_any _ _ _ d (h.keep (Keeps.of_below K1)))
  have HE : Hid (recD d = ((openD d).1.2.1, (openD d).2)) := rfl
  generalize openD d = r at *
  obtain ⟨⟨a0, l, u⟩, e0⟩ := r
  simp only at HE
  go_enter Try.func18, Try.ntmps18
  go_upto_region 1 with (fail)
  generalize W.alloc (.cells #[.int .i64 d.size, .slice A d.secs.length c, .slice P d.pend.length cp, .int .i64 d.left] 25) = w1 at *
  obtain ⟨q0, q1, q2, q3⟩ := box4 hbk (Below.refl _ _)
  go_wp2_with fail
  refine CO.out.mono ?_
  rintro e w2 ⟨v, rfl, ht, hb2⟩
  have HT := Lib.hid ht
  have K2 := Lib.hid (K1.trans (hb2.mono K1.size))
  clear CO q0 q1 q2 q3 hbk K1 hb2 ht
  simp only
  go_wp2
  go_ret2
  rw [HE.out]
  exact ⟨v, rfl, HT.out, K2.out⟩
set_option maxRecDepth 100000 in
set_option maxHeartbeats 1000000 in
theorem rroom_any (W : World) (vs vp : Value) (d : Dk) (h : DskP W vs vp d) :
    Calls Try.prog 20 #[.agg #[.int .i64 d.size, vs, vp, .int .i64 d.left]] W (RoomE (roomD d) W) := by
  obtain ⟨A, c, P, cp, rfl, rfl, hc, hcp, hm, hmp⟩ := h.form
  have hbk := Blk.new W #[.int .i64 d.size, .slice A d.secs.length c, .slice P d.pend.length cp, .int .i64 d.left] 25
  have K1 := (Below.refl W.heap.size W).alloc (Nat.le_refl _) (.cells #[.int .i64 d.size, .slice A d.secs.length c, .slice P d.pend.length cp, .int .i64 d.left] 25)
  have CO := Lib.hid (ropen_any _ _ _ d (h.keep (Keeps.of_below K1)))
  have HR : Hid (roomD d = if (openD d).2 ≠ 0 then (0, (openD d).2) else (halfN d.secs.length - (openD d).1.2.2, 0)) := rfl
  have HU : Hid ((openD d).2 = 0 → (openD d).1.2.2 ≤ halfN d.secs.length ∧ halfN d.secs.length ≤ 1000) := recU_le
  generalize openD d = r at *
  obtain ⟨⟨a0, l, u⟩, e0⟩ := r
  simp only at HR HU
  go_enter Try.func20, Try.ntmps20
  go_upto_region 1 with (fail)
  generalize W.alloc (.cells #[.int .i64 d.size, .slice A d.secs.length c, .slice P d.pend.length cp, .int .i64 d.left] 25) = w1 at *
  obtain ⟨q0, q1, q2, q3⟩ := box4 hbk (Below.refl _ _)
  go_wp2_with fail
  refine CO.out.mono ?_
  rintro e w2 ⟨v, rfl, ht, hb2⟩
  have HB2 := Lib.hid (hbk.keep hb2)
  have K2 := Lib.hid (K1.trans (hb2.mono K1.size))
  clear CO q0 q1 q2 q3 hbk K1 hb2 ht
  simp only
  by_cases he : e0 = 0
  · subst he
    obtain ⟨hu1, hu2⟩ := HU.out rfl
    have HE : Hid (roomD d = (halfN d.secs.length - u, 0)) := by show _ = _; rw [HR.out, if_neg (by simp)]
    have CH := Lib.hid (rhalf_any w2 _ _ d (h.keep (Keeps.of_below K2.out)))
    obtain ⟨q0, q1, q2, q3⟩ := box4 HB2.out (Below.refl _ _)
    clear HR HU
    generalize halfN d.secs.length = hf at *
    go_wp2_with fail
    refine CH.out.mono ?_
    rintro e w3 ⟨rfl, hb3⟩
    have K3 := Lib.hid (K2.out.trans (hb3.mono K2.out.size))
    clear CH q0 q1 q2 q3 hb3 HB2
    obtain ⟨m, hm9⟩ : ∃ m, m = hf - u := ⟨_, rfl⟩
    rw [← hm9] at HE
    have hsub : (hf : Int) - (u : Int) = (m : Int) := by omega
    clear hm9
    go_wp2
    go_ret2
    rw [HE.out]
    exact ⟨by first | rfl | (simp only [hsub]), K3.out⟩
  · have hne : (e0 != 0) = true := by simpa using he
    have HE : Hid (roomD d = (0, e0)) := by show _ = _; rw [HR.out, if_pos he]
    clear HR HU
    go_wp2
    go_ret2
    rw [HE.out]
    exact ⟨rfl, K2.out⟩
end Go.Proofs.Ytockmhhiomdlkaa
