/- The walk of the law DiskOperations: it returns true for any disk, number and string. -/
import Derived.Test.YtpihapkclnhklaaDkLawCut
import Derived.Test.YtpihapkclnhklaaDkRef4
namespace Go.Proofs.Ytpihapkclnhklaa
open Go.RowKit

set_option maxRecDepth 100000 in
set_option maxHeartbeats 8000000 in
theorem law_ops (W : World) (v : Value) (d : Dk) (hd : Dsk W v d) (i : Int) (hi0 : -9223372036854775808 ≤ i) (hi1 : i ≤ 9223372036854775807) (s : ByteArray) (hs : s.size ≤ 9223372036854775807) :
    Calls Try.prog 6 #[v, .int .i64 i, .string s] W fun e w' => e = .returned (.bool true) ∧ Below W.heap.size W w' := by
  obtain ⟨vs, vp, rfl, hD⟩ := hd
  obtain ⟨A, c, P, cp, rfl, rfl, hc, hcp, hm, hmp⟩ := hD.form
  have hv := Var.new hD
  have hb := (Below.refl W.heap.size W).alloc (Nat.le_refl _) (.cells #[.int .i64 d.size, .slice A d.secs.length c, .slice P d.pend.length cp, .int .i64 d.left] 26)
  have cg := great_any _ _ _ d hv.dk
  clear hc hcp hm hmp hD
  go_enter Try.func6, Try.ntmps6
  go_wp2_with fail
  refine cg.mono ?_
  clear cg
  generalize W.alloc (.cells #[.int .i64 d.size, .slice A d.secs.length c, .slice P d.pend.length cp, .int .i64 d.left] 26) = w1 at *
  rintro e w2 ⟨rfl, hb2⟩
  have hv2 := hv.keep hb2
  have hb3 := hb.trans (hb2.mono (by have := hb.size; omega))
  clear hv hb hb2
  cases hgr : greatB d
  · have hgb := greatB_false hgr
    clear hgr
    by_cases hl : 60 < (s.size : Int)
    · have aw := awake_any w2
      go_wp2_with fail
      refine aw.mono ?_
      clear aw
      rintro e w4 ⟨rfl, hb4⟩
      have hb5 := hb3.trans (hb4.mono (by have := hb3.size; omega))
      go_wp2
      go_ret
      exact ⟨rfl, hb5⟩
    · have hpl : d.pend.length ≤ 100000 := by omega
      clear hgb
      obtain ⟨q12_0, q12_1, q12_2, q12_3, q12_4, q12_5, q12_6, q12_7⟩ := hv2.facts
      go_wp2_with fail
      have c11 := read_any _ _ _ d hv2.dk hpl i hi0 hi1
      refine c11.mono ?_
      clear c11
      clear q12_0 q12_1 q12_2 q12_3 q12_4 q12_5 q12_6 q12_7
      rintro e w11 ⟨rfl, hb11⟩
      have f13 := hv2.keep hb11
      have hB14 := hb3.trans (hb11.mono (by first | exact hb3.size | (have := hb3.size; omega)))
      clear hv2 hb3 hb11
      obtain ⟨q16_0, q16_1, q16_2, q16_3, q16_4, q16_5, q16_6, q16_7⟩ := f13.facts
      go_wp2_with fail
      have c15 := rread_any _ _ _ d f13.dk i hi0 hi1
      refine c15.mono ?_
      clear c15
      clear q16_0 q16_1 q16_2 q16_3 q16_4 q16_5 q16_6 q16_7
      rintro e w15 ⟨rfl, hb15⟩
      have f17 := f13.keep hb15
      have hB18 := hB14.trans (hb15.mono (by first | exact hB14.size | (have := hB14.size; omega)))
      clear f13 hB14 hb15
      obtain ⟨q21_0, q21_1, q21_2, q21_3, q21_4, q21_5, q21_6, q21_7⟩ := f17.facts
      go_wp2_with fail
      have c20 := write_any _ _ _ d f17.dk hpl i hi0 hi1 s
      refine c20.mono ?_
      clear c20
      clear q21_0 q21_1 q21_2 q21_3 q21_4 q21_5 q21_6 q21_7
      rintro e w20 ⟨vs19, vp19, rfl, hD19, hb20⟩
      have f22 := f17.keep hb20
      have hB23 := hB18.trans (hb20.mono (by first | exact hB18.size | (have := hB18.size; omega)))
      clear f17 hB18 hb20
      obtain ⟨A19, cc19, P19, cp19, rfl, rfl, _, _, _, _⟩ := hD19.form
      have f24 := f22.alloc (.cells #[.int .i64 (wrD d i s).size, .slice A19 (wrD d i s).secs.length cc19, .slice P19 (wrD d i s).pend.length cp19, .int .i64 (wrD d i s).left] 26)
      have f25 := Var.new hD19
      have hB26 := hB23.alloc (by first | exact hB23.size | (have := hB23.size; omega)) (.cells #[.int .i64 (wrD d i s).size, .slice A19 (wrD d i s).secs.length cc19, .slice P19 (wrD d i s).pend.length cp19, .int .i64 (wrD d i s).left] 26)
      clear f22 hB23 hD19
      obtain ⟨q30_0, q30_1, q30_2, q30_3, q30_4, q30_5, q30_6, q30_7⟩ := f24.facts
      obtain ⟨q31_0, q31_1, q31_2, q31_3, q31_4, q31_5, q31_6, q31_7⟩ := f25.facts
      go_wp2_with fail
      generalize w20.alloc (.cells #[.int .i64 (wrD d i s).size, .slice A19 (wrD d i s).secs.length cc19, .slice P19 (wrD d i s).pend.length cp19, .int .i64 (wrD d i s).left] 26) = w27 at *
      generalize w20.heap.size = g27 at *
      have c29 := rwrite_any _ _ _ d f24.dk hpl i hi0 hi1 s
      refine c29.mono ?_
      clear c29
      clear q30_0 q30_1 q30_2 q30_3 q30_4 q30_5 q30_6 q30_7 q31_0 q31_1 q31_2 q31_3 q31_4 q31_5 q31_6 q31_7
      rintro e w29 ⟨vs28, vp28, rfl, hD28, hb29⟩
      have f32 := f24.keep hb29
      have f33 := f25.keep hb29
      have hB34 := hB26.trans (hb29.mono (by first | exact hB26.size | (have := hB26.size; omega)))
      clear f24 f25 hB26 hb29
      obtain ⟨A28, cc28, P28, cp28, rfl, rfl, _, _, _, _⟩ := hD28.form
      have f35 := f32.alloc (.cells #[.int .i64 (wrD d i s).size, .slice A28 (wrD d i s).secs.length cc28, .slice P28 (wrD d i s).pend.length cp28, .int .i64 (wrD d i s).left] 26)
      have f36 := f33.alloc (.cells #[.int .i64 (wrD d i s).size, .slice A28 (wrD d i s).secs.length cc28, .slice P28 (wrD d i s).pend.length cp28, .int .i64 (wrD d i s).left] 26)
      have f37 := Var.new hD28
      have hB38 := hB34.alloc (by first | exact hB34.size | (have := hB34.size; omega)) (.cells #[.int .i64 (wrD d i s).size, .slice A28 (wrD d i s).secs.length cc28, .slice P28 (wrD d i s).pend.length cp28, .int .i64 (wrD d i s).left] 26)
      clear f32 f33 hB34 hD28
      obtain ⟨q42_0, q42_1, q42_2, q42_3, q42_4, q42_5, q42_6, q42_7⟩ := f35.facts
      obtain ⟨q43_0, q43_1, q43_2, q43_3, q43_4, q43_5, q43_6, q43_7⟩ := f36.facts
      obtain ⟨q44_0, q44_1, q44_2, q44_3, q44_4, q44_5, q44_6, q44_7⟩ := f37.facts
      go_wp2_with fail
      generalize w29.alloc (.cells #[.int .i64 (wrD d i s).size, .slice A28 (wrD d i s).secs.length cc28, .slice P28 (wrD d i s).pend.length cp28, .int .i64 (wrD d i s).left] 26) = w39 at *
      generalize w29.heap.size = g39 at *
      have c41 := sync_any _ _ _ d f35.dk
      refine c41.mono ?_
      clear c41
      clear q42_0 q42_1 q42_2 q42_3 q42_4 q42_5 q42_6 q42_7 q43_0 q43_1 q43_2 q43_3 q43_4 q43_5 q43_6 q43_7 q44_0 q44_1 q44_2 q44_3 q44_4 q44_5 q44_6 q44_7
      rintro e w41 ⟨vs40, vp40, rfl, hD40, hb41⟩
      have f45 := f35.keep hb41
      have f46 := f36.keep hb41
      have f47 := f37.keep hb41
      have hB48 := hB38.trans (hb41.mono (by first | exact hB38.size | (have := hB38.size; omega)))
      clear f35 f36 f37 hB38 hb41
      obtain ⟨A40, cc40, P40, cp40, rfl, rfl, _, _, _, _⟩ := hD40.form
      have f49 := f45.alloc (.cells #[.int .i64 (syD d).size, .slice A40 (syD d).secs.length cc40, .slice P40 (syD d).pend.length cp40, .int .i64 (syD d).left] 26)
      have f50 := f46.alloc (.cells #[.int .i64 (syD d).size, .slice A40 (syD d).secs.length cc40, .slice P40 (syD d).pend.length cp40, .int .i64 (syD d).left] 26)
      have f51 := f47.alloc (.cells #[.int .i64 (syD d).size, .slice A40 (syD d).secs.length cc40, .slice P40 (syD d).pend.length cp40, .int .i64 (syD d).left] 26)
      have f52 := Var.new hD40
      have hB53 := hB48.alloc (by first | exact hB48.size | (have := hB48.size; omega)) (.cells #[.int .i64 (syD d).size, .slice A40 (syD d).secs.length cc40, .slice P40 (syD d).pend.length cp40, .int .i64 (syD d).left] 26)
      clear f45 f46 f47 hB48 hD40
      obtain ⟨q57_0, q57_1, q57_2, q57_3, q57_4, q57_5, q57_6, q57_7⟩ := f49.facts
      obtain ⟨q58_0, q58_1, q58_2, q58_3, q58_4, q58_5, q58_6, q58_7⟩ := f50.facts
      obtain ⟨q59_0, q59_1, q59_2, q59_3, q59_4, q59_5, q59_6, q59_7⟩ := f51.facts
      obtain ⟨q60_0, q60_1, q60_2, q60_3, q60_4, q60_5, q60_6, q60_7⟩ := f52.facts
      go_wp2_with fail
      generalize w41.alloc (.cells #[.int .i64 (syD d).size, .slice A40 (syD d).secs.length cc40, .slice P40 (syD d).pend.length cp40, .int .i64 (syD d).left] 26) = w54 at *
      generalize w41.heap.size = g54 at *
      have c56 := rsync_any _ _ _ d f49.dk
      refine c56.mono ?_
      clear c56
      clear q57_0 q57_1 q57_2 q57_3 q57_4 q57_5 q57_6 q57_7 q58_0 q58_1 q58_2 q58_3 q58_4 q58_5 q58_6 q58_7 q59_0 q59_1 q59_2 q59_3 q59_4 q59_5 q59_6 q59_7 q60_0 q60_1 q60_2 q60_3 q60_4 q60_5 q60_6 q60_7
      rintro e w56 ⟨vs55, vp55, rfl, hD55, hb56⟩
      have f61 := f49.keep hb56
      have f62 := f50.keep hb56
      have f63 := f51.keep hb56
      have f64 := f52.keep hb56
      have hB65 := hB53.trans (hb56.mono (by first | exact hB53.size | (have := hB53.size; omega)))
      clear f49 f50 f51 f52 hB53 hb56
      obtain ⟨A55, cc55, P55, cp55, rfl, rfl, _, _, _, _⟩ := hD55.form
      have f66 := f61.alloc (.cells #[.int .i64 (syD d).size, .slice A55 (syD d).secs.length cc55, .slice P55 (syD d).pend.length cp55, .int .i64 (syD d).left] 26)
      have f67 := f62.alloc (.cells #[.int .i64 (syD d).size, .slice A55 (syD d).secs.length cc55, .slice P55 (syD d).pend.length cp55, .int .i64 (syD d).left] 26)
      have f68 := f63.alloc (.cells #[.int .i64 (syD d).size, .slice A55 (syD d).secs.length cc55, .slice P55 (syD d).pend.length cp55, .int .i64 (syD d).left] 26)
      have f69 := f64.alloc (.cells #[.int .i64 (syD d).size, .slice A55 (syD d).secs.length cc55, .slice P55 (syD d).pend.length cp55, .int .i64 (syD d).left] 26)
      have f70 := Var.new hD55
      have hB71 := hB65.alloc (by first | exact hB65.size | (have := hB65.size; omega)) (.cells #[.int .i64 (syD d).size, .slice A55 (syD d).secs.length cc55, .slice P55 (syD d).pend.length cp55, .int .i64 (syD d).left] 26)
      clear f61 f62 f63 f64 hB65 hD55
      go_upto_region 9 with (fail)
      generalize w56.alloc (.cells #[.int .i64 (syD d).size, .slice A55 (syD d).secs.length cc55, .slice P55 (syD d).pend.length cp55, .int .i64 (syD d).left] 26) = w72 at *
      generalize w56.heap.size = g72 at *
      generalize hdw : wrD d i s = dw at *
      generalize hdy : syD d = dy at *
      generalize wrE d i s = ew at *
      generalize syE d = ey at *
      generalize rdB d i = rb at *
      generalize rdE d i = re at *
      clear hdw hdy
      have KEY : Hid (∀ w', Below w72.heap.size w72 w' → w'.cell? ⟨W.heap.size, 0, none⟩ = some (.int .i64 d.size) ∧ w'.cell? ⟨W.heap.size, 1, none⟩ = some (.slice A d.secs.length c) ∧ w'.cell? ⟨W.heap.size, 2, none⟩ = some (.slice P d.pend.length cp) ∧ w'.cell? ⟨W.heap.size, 3, none⟩ = some (.int .i64 d.left) ∧ w'.cell? ⟨g27, 0, none⟩ = some (.int .i64 dw.size) ∧ w'.cell? ⟨g27, 1, none⟩ = some (.slice A19 dw.secs.length cc19) ∧ w'.cell? ⟨g27, 2, none⟩ = some (.slice P19 dw.pend.length cp19) ∧ w'.cell? ⟨g27, 3, none⟩ = some (.int .i64 dw.left) ∧ w'.cell? ⟨g39, 0, none⟩ = some (.int .i64 dw.size) ∧ w'.cell? ⟨g39, 1, none⟩ = some (.slice A28 dw.secs.length cc28) ∧ w'.cell? ⟨g39, 2, none⟩ = some (.slice P28 dw.pend.length cp28) ∧ w'.cell? ⟨g39, 3, none⟩ = some (.int .i64 dw.left) ∧ w'.cell? ⟨g54, 0, none⟩ = some (.int .i64 dy.size) ∧ w'.cell? ⟨g54, 1, none⟩ = some (.slice A40 dy.secs.length cc40) ∧ w'.cell? ⟨g54, 2, none⟩ = some (.slice P40 dy.pend.length cp40) ∧ w'.cell? ⟨g54, 3, none⟩ = some (.int .i64 dy.left) ∧ w'.cell? ⟨g72, 0, none⟩ = some (.int .i64 dy.size) ∧ w'.cell? ⟨g72, 1, none⟩ = some (.slice A55 dy.secs.length cc55) ∧ w'.cell? ⟨g72, 2, none⟩ = some (.slice P55 dy.pend.length cp55) ∧ w'.cell? ⟨g72, 3, none⟩ = some (.int .i64 dy.left)) := fun w' h => by
        obtain ⟨z0_0, z0_1, z0_2, z0_3, _⟩ := (f66.keep h).facts
        obtain ⟨z1_0, z1_1, z1_2, z1_3, _⟩ := (f67.keep h).facts
        obtain ⟨z2_0, z2_1, z2_2, z2_3, _⟩ := (f68.keep h).facts
        obtain ⟨z3_0, z3_1, z3_2, z3_3, _⟩ := (f69.keep h).facts
        obtain ⟨z4_0, z4_1, z4_2, z4_3, _⟩ := (f70.keep h).facts
        exact ⟨z0_0, z0_1, z0_2, z0_3, z1_0, z1_1, z1_2, z1_3, z2_0, z2_1, z2_2, z2_3, z3_0, z3_1, z3_2, z3_3, z4_0, z4_1, z4_2, z4_3⟩
      have C1 : Hid (∀ w', Below w72.heap.size w72 w' → Calls Try.prog 24 #[.agg #[.int .i64 d.size, .slice A d.secs.length c, .slice P d.pend.length cp, .int .i64 d.left]] w' (ErrPost w' (chk d))) := fun w' h => check_any w' _ _ d (f66.keep h).dk
      have C2 : Hid (∀ w', Below w72.heap.size w72 w' → Calls Try.prog 25 #[.agg #[.int .i64 d.size, .slice A d.secs.length c, .slice P d.pend.length cp, .int .i64 d.left]] w' (ErrPost w' (chk d))) := fun w' h => rcheck_any w' _ _ d (f66.keep h).dk
      have C3 : Hid (∀ w', Below w72.heap.size w72 w' → Calls Try.prog 14 #[.agg #[.int .i64 dw.size, .slice A19 dw.secs.length cc19, .slice P19 dw.pend.length cp19, .int .i64 dw.left], .agg #[.int .i64 dw.size, .slice A28 dw.secs.length cc28, .slice P28 dw.pend.length cp28, .int .i64 dw.left]] w' (fun e w2' => e = .returned (.bool true) ∧ Below w'.heap.size w' w2')) := fun w' h => same_any w' _ _ _ _ dw (f67.keep h).dk (f68.keep h).dk
      have C4 : Hid (∀ w', Below w72.heap.size w72 w' → Calls Try.prog 14 #[.agg #[.int .i64 dy.size, .slice A40 dy.secs.length cc40, .slice P40 dy.pend.length cp40, .int .i64 dy.left], .agg #[.int .i64 dy.size, .slice A55 dy.secs.length cc55, .slice P55 dy.pend.length cp55, .int .i64 dy.left]] w' (fun e w2' => e = .returned (.bool true) ∧ Below w'.heap.size w' w2')) := fun w' h => same_any w' _ _ _ _ dy (f69.keep h).dk (f70.keep h).dk
      generalize chk d = ck at *
      have k0 : Below w72.heap.size w72 w72 := Below.refl _ _
      have k1 : Below w72.heap.size w72 w72.drew := below_drew1 (Below.refl _ _)
      clear f66 f67 f68 f69 f70 hpl
      go_region_held3 (fun w' => w'.cell? ⟨W.heap.size, 0, none⟩ = some (.int .i64 d.size) ∧ w'.cell? ⟨W.heap.size, 1, none⟩ = some (.slice A d.secs.length c) ∧ w'.cell? ⟨W.heap.size, 2, none⟩ = some (.slice P d.pend.length cp) ∧ w'.cell? ⟨W.heap.size, 3, none⟩ = some (.int .i64 d.left) ∧ w'.cell? ⟨g27, 0, none⟩ = some (.int .i64 dw.size) ∧ w'.cell? ⟨g27, 1, none⟩ = some (.slice A19 dw.secs.length cc19) ∧ w'.cell? ⟨g27, 2, none⟩ = some (.slice P19 dw.pend.length cp19) ∧ w'.cell? ⟨g27, 3, none⟩ = some (.int .i64 dw.left) ∧ w'.cell? ⟨g39, 0, none⟩ = some (.int .i64 dw.size) ∧ w'.cell? ⟨g39, 1, none⟩ = some (.slice A28 dw.secs.length cc28) ∧ w'.cell? ⟨g39, 2, none⟩ = some (.slice P28 dw.pend.length cp28) ∧ w'.cell? ⟨g39, 3, none⟩ = some (.int .i64 dw.left) ∧ w'.cell? ⟨g54, 0, none⟩ = some (.int .i64 dy.size) ∧ w'.cell? ⟨g54, 1, none⟩ = some (.slice A40 dy.secs.length cc40) ∧ w'.cell? ⟨g54, 2, none⟩ = some (.slice P40 dy.pend.length cp40) ∧ w'.cell? ⟨g54, 3, none⟩ = some (.int .i64 dy.left) ∧ w'.cell? ⟨g72, 0, none⟩ = some (.int .i64 dy.size) ∧ w'.cell? ⟨g72, 1, none⟩ = some (.slice A55 dy.secs.length cc55) ∧ w'.cell? ⟨g72, 2, none⟩ = some (.slice P55 dy.pend.length cp55) ∧ w'.cell? ⟨g72, 3, none⟩ = some (.int .i64 dy.left)) (first | exact KEY.out _ (by assumption) | go_keep)
        (first
          | (go_at_call 24; refine (C1.out _ (by assumption)).mono ?_; rintro e x1 ⟨rfl, y1⟩; have z1 := below_chain (a := w72) (by assumption) y1)
          | (go_at_call 25; refine (C2.out _ (by assumption)).mono ?_; rintro e x2 ⟨rfl, y2⟩; have z2 := below_chain (a := w72) (by assumption) y2)
          | (go_at_call_of 14 dw; refine (C3.out _ (by assumption)).mono ?_; rintro e x3 ⟨rfl, y3⟩; have z3 := below_chain (a := w72) (by assumption) y3)
          | (go_at_call_of 14 dy; refine (C4.out _ (by assumption)).mono ?_; rintro e x4 ⟨rfl, y4⟩; have z4 := below_chain (a := w72) (by assumption) y4)
          | (go_at_call 11; refine (awake_any _).mono ?_; rintro e x5 ⟨rfl, y5⟩; have z5 := below_chain (a := w72) (by assumption) y5))
      all_goals
        have hq := hB71.trans (Below.mono z5 (by have := hB71.size; omega))
        go_wp2
        go_ret
        exact ⟨rfl, hq⟩
  · have aw := awake_any w2
    go_wp2_with fail
    refine aw.mono ?_
    clear aw
    rintro e w4 ⟨rfl, hb4⟩
    have hb5 := hb3.trans (hb4.mono (by have := hb3.size; omega))
    go_wp2
    go_ret
    exact ⟨rfl, hb5⟩
end Go.Proofs.Ytpihapkclnhklaa
