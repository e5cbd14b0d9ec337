/- The walk of the law DiskReads: it returns true for any disk, two bytes and a string. -/
import Derived.Test.YtpihapkclnhklaaDkLawCut
import Derived.Test.YtpihapkclnhklaaDkLaws
namespace Go.Proofs.Ytpihapkclnhklaa
open Go.RowKit

theorem Var.drewN {w : World} {g : Nat} {A : Option Addr} {c : Nat} {P : Option Addr} {cp : Nat} {d : Dk} (h : Var w g A c P cp d) (n : Nat) : Var (w.drewN n) g A c P cp d := ⟨h.blk.drewN n, h.dk.keep (Keeps.drewN _ _)⟩

set_option maxRecDepth 100000 in
set_option maxHeartbeats 8000000 in
theorem law_reads (W : World) (v : Value) (d : Dk) (hd : Dsk W v d) (i : Int) (hi0 : 0 ≤ i) (hi1 : i ≤ 255) (o : Int) (ho0 : 0 ≤ o) (ho1 : o ≤ 255) (s : ByteArray) (hs : s.size ≤ 9223372036854775807) :
    Calls Try.prog 7 #[v, .int .u8 i, .int .u8 o, .string s] W fun e w' => e = .returned (.bool true) ∧ Below W.heap.size W w' := by
  obtain ⟨vs, vp, rfl, hD⟩ := hd
  obtain ⟨A, c, P, cp, rfl, rfl, hc, hcp, hm, hmp⟩ := hD.form
  have hv := Var.new hD
  have hb := (Below.refl W.heap.size W).alloc (Nat.le_refl _) (.cells #[.int .i64 d.size, .slice A d.secs.length c, .slice P d.pend.length cp, .int .i64 d.left] 26)
  have cg := great_any _ _ _ d hv.dk
  clear hm hmp hD
  go_enter Try.func7, Try.ntmps7
  go_wp2_with fail
  refine cg.mono ?_
  clear cg
  generalize W.alloc (.cells #[.int .i64 d.size, .slice A d.secs.length c, .slice P d.pend.length cp, .int .i64 d.left] 26) = w1 at *
  rintro e w2 ⟨rfl, hb2⟩
  have hv2 := hv.keep hb2
  have hb3 := hb.trans (hb2.mono hb.size)
  clear hv hb hb2
  cases hgr : greatB d
  · have hgb := greatB_false hgr
    have hp12 := hgb.2.1
    have hpl : d.pend.length ≤ 100000 := by omega
    clear hgr hgb hc hcp
    obtain ⟨q0, q1, q2, q3, _⟩ := hv2.facts
    have c2 := check_any _ _ _ d hv2.dk
    go_wp2_with fail
    refine c2.mono ?_
    clear c2 q0 q1 q2 q3
    rintro e w3 ⟨rfl, hb4⟩
    have hv3 := hv2.keep hb4
    have hb5 := hb3.trans (hb4.mono hb3.size)
    clear hv2 hb3 hb4
    obtain ⟨q0, q1, q2, q3, _⟩ := hv3.facts
    by_cases hk : chk d = 0
    · have V := Lib.hid (chk_zero.1 hk)
      rw [hk]
      clear hk
      by_cases hl : 60 < (s.size : Int)
      · have aw := awake_any w3
        go_wp2_with fail
        refine aw.mono ?_
        clear aw
        rintro e w9 ⟨rfl, hb9⟩
        have hb10 := hb5.trans (hb9.mono hb5.size)
        go_wp2
        go_ret
        exact ⟨rfl, hb10⟩
      · by_cases hlf : d.left = 0
        · have hlb : (d.left == 0) = true := by simp [hlf]
          clear hlf
          have aw := awake_any w3
          go_wp2_with fail
          refine aw.mono ?_
          clear aw
          rintro e w9 ⟨rfl, hb9⟩
          have hb10 := hb5.trans (hb9.mono hb5.size)
          go_wp2
          go_ret
          exact ⟨rfl, hb10⟩
        · have HLF := Lib.hid hlf
          have hlb : (d.left == 0) = false := by simp [hlf]
          clear hlf
          obtain ⟨i', rfl⟩ := Int.eq_ofNat_of_zero_le hi0
          obtain ⟨o', rfl⟩ := Int.eq_ofNat_of_zero_le ho0
          have hn1 := V.out.n1
          have hn2 := V.out.n2
          have hz1 := V.out.s1
          have hz2 := V.out.s2
          have hn0 : ((d.secs.length : Int) == 0) = false := by rw [beq_eq_false_iff_ne]; omega
          obtain ⟨k, hk⟩ : ∃ k, k = i' % d.secs.length := ⟨_, rfl⟩
          obtain ⟨m, hm⟩ : ∃ m, m = o' % d.secs.length := ⟨_, rfl⟩
          have hkl : k < d.secs.length := by rw [hk]; exact Nat.mod_lt _ (by omega)
          have hml : m < d.secs.length := by rw [hm]; exact Nat.mod_lt _ (by omega)
          have hk1 : (i' : Int) % (d.secs.length : Int) = (k : Int) := by rw [hk]; simp
          have hm1 : (o' : Int) % (d.secs.length : Int) = (m : Int) := by rw [hm]; simp
          clear hk hm
          go_wp2
          go_quiet (fail)
          rename Nat => nq
          simp only [hk1, hm1]
          have hv4 := hv3.drewN nq
          have hb6 := below_drewN' hb5 nq
          clear hv3 hb5 q0 q1 q2 q3 hk1 hm1 hi0 ho0 hi1 ho1
          generalize w3.drewN nq = w4 at *
          obtain ⟨q12_0, q12_1, q12_2, q12_3, q12_4, q12_5, q12_6, q12_7⟩ := hv4.facts
          go_wp2_with fail
          have c11 := read_in _ _ _ d hv4.dk m (chk_zero.2 V.out) hml hpl
          refine c11.mono ?_
          clear c11
          clear q12_0 q12_1 q12_2 q12_3 q12_4 q12_5 q12_6 q12_7
          rintro e w11 ⟨rfl, hb11⟩
          have f13 := hv4.keep hb11
          have hB14 := hb6.trans (hb11.mono (by first | exact hb6.size | (have := hb6.size; omega)))
          clear hv4 hb6 hb11
          by_cases hsz : (s.size : Int) = d.size
          · have HSZ := Lib.hid hsz
            have hzb : ((s.size : Int) == d.size) = true := by simp [hsz]
            clear hsz
            have hwo := wr_ok (i := (k : Int)) (chk_zero.2 V.out) (by omega) HSZ.out HLF.out
            have hge := lessZ_ge V.out.lf
            have HV1 := Lib.hid (V.out.write (i := (k : Int)) (by omega) (by omega) HSZ.out hge)
            have HR1 := Lib.hid (rd_write_same V.out hkl HSZ.out hge)
            have HR2 : Hid (m ≠ k → rdB { d with pend := d.pend ++ [((k : Int), s)], left := lessZ d.left } m = rdB d m) := fun hne => rd_write_other V.out hkl hml hne HSZ.out hge
            have hl1 : ({ d with pend := d.pend ++ [((k : Int), s)], left := lessZ d.left } : Dk).secs.length = d.secs.length := rfl
            have hp1 : ({ d with pend := d.pend ++ [((k : Int), s)], left := lessZ d.left } : Dk).pend.length = d.pend.length + 1 := by simp
            have HW := Lib.hid hwo
            clear hwo hge
            generalize ({ d with pend := d.pend ++ [((k : Int), s)], left := lessZ d.left } : Dk) = d1 at *
            have hp1l : d1.pend.length ≤ 100001 := by omega
            have hkl1 : k < d1.secs.length := by omega
            have hml1 : m < d1.secs.length := by omega
            have hpl1 : d1.pend.length ≤ 100000 := by omega
            clear hl1 hp1
            obtain ⟨q17_0, q17_1, q17_2, q17_3, q17_4, q17_5, q17_6, q17_7⟩ := f13.facts
            go_wp2_with fail
            have c16 := write_any _ _ _ d f13.dk hpl k (by omega) (by omega) s
            rw [HW.out.1, HW.out.2] at c16
            refine c16.mono ?_
            clear c16
            clear q17_0 q17_1 q17_2 q17_3 q17_4 q17_5 q17_6 q17_7
            rintro e w16 ⟨vs15, vp15, rfl, hD15, hb16⟩
            have f18 := f13.keep hb16
            have hB19 := hB14.trans (hb16.mono (by first | exact hB14.size | (have := hB14.size; omega)))
            clear f13 hB14 hb16
            obtain ⟨A15, cc15, P15, cp15, rfl, rfl, _, _, _, _⟩ := hD15.form
            have g20le : W.heap.size ≤ w16.heap.size := by first | exact hB19.size | (have := hB19.size; omega)
            have f21 := f18.alloc (.cells #[.int .i64 d1.size, .slice A15 d1.secs.length cc15, .slice P15 d1.pend.length cp15, .int .i64 d1.left] 26)
            have f22 := Var.new hD15
            have hB23 := hB19.alloc (by first | exact hB19.size | (have := hB19.size; omega)) (.cells #[.int .i64 d1.size, .slice A15 d1.secs.length cc15, .slice P15 d1.pend.length cp15, .int .i64 d1.left] 26)
            clear f18 hB19 hD15
            obtain ⟨q25_0, q25_1, q25_2, q25_3, q25_4, q25_5, q25_6, q25_7⟩ := f21.facts
            obtain ⟨q26_0, q26_1, q26_2, q26_3, q26_4, q26_5, q26_6, q26_7⟩ := f22.facts
            go_wp2_with fail
            generalize w16.alloc (.cells #[.int .i64 d1.size, .slice A15 d1.secs.length cc15, .slice P15 d1.pend.length cp15, .int .i64 d1.left] 26) = w20 at *
            generalize w16.heap.size = g20 at *
            have c24 := read_in _ _ _ d1 f22.dk k (chk_zero.2 HV1.out) hkl1 hpl1
            rw [HR1.out] at c24
            refine c24.mono ?_
            clear c24
            clear q25_0 q25_1 q25_2 q25_3 q25_4 q25_5 q25_6 q25_7 q26_0 q26_1 q26_2 q26_3 q26_4 q26_5 q26_6 q26_7
            rintro e w24 ⟨rfl, hb24⟩
            have f27 := f21.keep hb24
            have f28 := f22.keep hb24
            have hB29 := hB23.trans (hb24.mono (by first | exact hB23.size | (have := hB23.size; omega)))
            clear f21 f22 hB23 hb24
            by_cases hmk : m = k
            · have hmb : ((m : Int) != (k : Int)) = false := by simp [hmk]
              have HM : Hid (rdB d1 m = s) := by show _ = _; rw [hmk]; exact HR1.out
              clear hmk
              generalize hob : rdB d m = ob at *
              clear hob
              obtain ⟨q31_0, q31_1, q31_2, q31_3, q31_4, q31_5, q31_6, q31_7⟩ := f27.facts
              obtain ⟨q32_0, q32_1, q32_2, q32_3, q32_4, q32_5, q32_6, q32_7⟩ := f28.facts
              go_wp2_with fail
              have c30 := read_in _ _ _ d1 f28.dk m (chk_zero.2 HV1.out) hml1 hpl1
              rw [HM.out] at c30
              refine c30.mono ?_
              clear c30
              clear q31_0 q31_1 q31_2 q31_3 q31_4 q31_5 q31_6 q31_7 q32_0 q32_1 q32_2 q32_3 q32_4 q32_5 q32_6 q32_7
              rintro e w30 ⟨rfl, hb30⟩
              have f33 := f27.keep hb30
              have f34 := f28.keep hb30
              have hB35 := hB29.trans (hb30.mono (by first | exact hB29.size | (have := hB29.size; omega)))
              clear f27 f28 hB29 hb30
              obtain ⟨q36_0, q36_1, q36_2, q36_3, q36_4, q36_5, q36_6, q36_7⟩ := f33.facts
              obtain ⟨q37_0, q37_1, q37_2, q37_3, q37_4, q37_5, q37_6, q37_7⟩ := f34.facts
              go_upto_region 15 with (fail)
              have hx1 := f34.left (-1) (by omega) (by omega)
              have hB1 := hB35.setCell (p := ⟨g20, 3, none⟩) g20le (.int .i64 (-1))
              clear q36_0 q36_1 q36_2 q36_3 q36_4 q36_5 q36_6 q36_7 q37_0 q37_1 q37_2 q37_3 q37_4 q37_5 q37_6 q37_7
              clear f33 f34 hB35
              generalize w30.setCell ⟨g20, 3, none⟩ (.int .i64 (-1)) = wl at *
              have hsy := sy_valid (HV1.out.left (l := -1) (by omega)) (by simp)
              have HV3 := Lib.hid ((HV1.out.left (l := -1) (by omega)).sync (l := lessZ (-1)) (by decide))
              have HK3 := Lib.hid ((rd_sync (HV1.out.left (l := -1) (by omega)) (l := lessZ (-1)) (m := k) hkl1 (by decide)).trans ((rd_left HV1.out hkl1 (by omega)).trans HR1.out))
              have HM3 := Lib.hid ((rd_sync (HV1.out.left (l := -1) (by omega)) (l := lessZ (-1)) (m := m) hml1 (by decide)).trans ((rd_left HV1.out hml1 (by omega)).trans HM.out))
              have hl3 : (⟨d1.size, cur { d1 with left := -1 }, [], lessZ (-1)⟩ : Dk).secs.length = d1.secs.length := cur_length _
              have hp3 : (((⟨d1.size, cur { d1 with left := -1 }, [], lessZ (-1)⟩ : Dk).pend.length : Int) == 0) = true := rfl
              have hp3l : (⟨d1.size, cur { d1 with left := -1 }, [], lessZ (-1)⟩ : Dk).pend.length ≤ 100000 := by simp
              have HSY := Lib.hid hsy
              clear hsy
              generalize (⟨d1.size, cur { d1 with left := -1 }, [], lessZ (-1)⟩ : Dk) = d3 at *
              have hkl3 : k < d3.secs.length := by omega
              have hml3 : m < d3.secs.length := by omega
              clear hl3
              obtain ⟨q40_0, q40_1, q40_2, q40_3, q40_4, q40_5, q40_6, q40_7⟩ := hx1.facts
              go_wp2_with fail
              have c39 := sync_any _ _ _ _ hx1.dk
              rw [HSY.out.1, HSY.out.2] at c39
              refine c39.mono ?_
              clear c39
              clear q40_0 q40_1 q40_2 q40_3 q40_4 q40_5 q40_6 q40_7
              rintro e w39 ⟨vs38, vp38, rfl, hD38, hb39⟩
              have f41 := hx1.keep hb39
              have hB42 := hB1.trans (hb39.mono (by first | exact hB1.size | (have := hB1.size; omega)))
              clear hx1 hB1 hb39
              obtain ⟨A38, cc38, P38, cp38, rfl, rfl, _, _, _, _⟩ := hD38.form
              have g43le : W.heap.size ≤ w39.heap.size := by first | exact hB42.size | (have := hB42.size; omega)
              have f44 := f41.alloc (.cells #[.int .i64 d3.size, .slice A38 d3.secs.length cc38, .slice P38 d3.pend.length cp38, .int .i64 d3.left] 26)
              have f45 := Var.new hD38
              have hB46 := hB42.alloc (by first | exact hB42.size | (have := hB42.size; omega)) (.cells #[.int .i64 d3.size, .slice A38 d3.secs.length cc38, .slice P38 d3.pend.length cp38, .int .i64 d3.left] 26)
              clear f41 hB42 hD38
              obtain ⟨q48_0, q48_1, q48_2, q48_3, q48_4, q48_5, q48_6, q48_7⟩ := f44.facts
              obtain ⟨q49_0, q49_1, q49_2, q49_3, q49_4, q49_5, q49_6, q49_7⟩ := f45.facts
              go_wp2_with fail
              generalize w39.alloc (.cells #[.int .i64 d3.size, .slice A38 d3.secs.length cc38, .slice P38 d3.pend.length cp38, .int .i64 d3.left] 26) = w43 at *
              generalize w39.heap.size = g43 at *
              have c47 := read_in _ _ _ d3 f45.dk k (chk_zero.2 HV3.out) hkl3 hp3l
              rw [HK3.out] at c47
              refine c47.mono ?_
              clear c47
              clear q48_0 q48_1 q48_2 q48_3 q48_4 q48_5 q48_6 q48_7 q49_0 q49_1 q49_2 q49_3 q49_4 q49_5 q49_6 q49_7
              rintro e w47 ⟨rfl, hb47⟩
              have f50 := f44.keep hb47
              have f51 := f45.keep hb47
              have hB52 := hB46.trans (hb47.mono (by first | exact hB46.size | (have := hB46.size; omega)))
              clear f44 f45 hB46 hb47
              obtain ⟨q54_0, q54_1, q54_2, q54_3, q54_4, q54_5, q54_6, q54_7⟩ := f50.facts
              obtain ⟨q55_0, q55_1, q55_2, q55_3, q55_4, q55_5, q55_6, q55_7⟩ := f51.facts
              go_wp2_with fail
              have c53 := read_in _ _ _ d3 f51.dk m (chk_zero.2 HV3.out) hml3 hp3l
              rw [HM3.out] at c53
              refine c53.mono ?_
              clear c53
              clear q54_0 q54_1 q54_2 q54_3 q54_4 q54_5 q54_6 q54_7 q55_0 q55_1 q55_2 q55_3 q55_4 q55_5 q55_6 q55_7
              rintro e w53 ⟨rfl, hb53⟩
              have f56 := f50.keep hb53
              have f57 := f51.keep hb53
              have hB58 := hB52.trans (hb53.mono (by first | exact hB52.size | (have := hB52.size; omega)))
              clear f50 f51 hB52 hb53
              obtain ⟨q60_0, q60_1, q60_2, q60_3, q60_4, q60_5, q60_6, q60_7⟩ := f56.facts
              obtain ⟨q61_0, q61_1, q61_2, q61_3, q61_4, q61_5, q61_6, q61_7⟩ := f57.facts
              go_wp2_with fail
              have c59 := awake_any w53
              refine c59.mono ?_
              clear c59
              clear q60_0 q60_1 q60_2 q60_3 q60_4 q60_5 q60_6 q60_7 q61_0 q61_1 q61_2 q61_3 q61_4 q61_5 q61_6 q61_7
              rintro e w59 ⟨rfl, hb59⟩
              have f62 := f56.keep hb59
              have f63 := f57.keep hb59
              have hB64 := hB58.trans (hb59.mono (by first | exact hB58.size | (have := hB58.size; omega)))
              clear f56 f57 hB58 hb59
              go_wp2
              go_ret
              exact ⟨rfl, hB64⟩
            · have hmb : ((m : Int) != (k : Int)) = true := by rw [bne_iff_ne]; omega
              have HM : Hid (rdB d1 m = rdB d m) := HR2.out hmk
              clear hmk
              generalize hob : rdB d m = ob at *
              clear hob
              obtain ⟨q31_0, q31_1, q31_2, q31_3, q31_4, q31_5, q31_6, q31_7⟩ := f27.facts
              obtain ⟨q32_0, q32_1, q32_2, q32_3, q32_4, q32_5, q32_6, q32_7⟩ := f28.facts
              go_wp2_with fail
              have c30 := read_in _ _ _ d1 f28.dk m (chk_zero.2 HV1.out) hml1 hpl1
              rw [HM.out] at c30
              refine c30.mono ?_
              clear c30
              clear q31_0 q31_1 q31_2 q31_3 q31_4 q31_5 q31_6 q31_7 q32_0 q32_1 q32_2 q32_3 q32_4 q32_5 q32_6 q32_7
              rintro e w30 ⟨rfl, hb30⟩
              have f33 := f27.keep hb30
              have f34 := f28.keep hb30
              have hB35 := hB29.trans (hb30.mono (by first | exact hB29.size | (have := hB29.size; omega)))
              clear f27 f28 hB29 hb30
              obtain ⟨q36_0, q36_1, q36_2, q36_3, q36_4, q36_5, q36_6, q36_7⟩ := f33.facts
              obtain ⟨q37_0, q37_1, q37_2, q37_3, q37_4, q37_5, q37_6, q37_7⟩ := f34.facts
              go_upto_region 15 with (fail)
              have hx1 := f34.left (-1) (by omega) (by omega)
              have hB1 := hB35.setCell (p := ⟨g20, 3, none⟩) g20le (.int .i64 (-1))
              clear q36_0 q36_1 q36_2 q36_3 q36_4 q36_5 q36_6 q36_7 q37_0 q37_1 q37_2 q37_3 q37_4 q37_5 q37_6 q37_7
              clear f33 f34 hB35
              generalize w30.setCell ⟨g20, 3, none⟩ (.int .i64 (-1)) = wl at *
              have hsy := sy_valid (HV1.out.left (l := -1) (by omega)) (by simp)
              have HV3 := Lib.hid ((HV1.out.left (l := -1) (by omega)).sync (l := lessZ (-1)) (by decide))
              have HK3 := Lib.hid ((rd_sync (HV1.out.left (l := -1) (by omega)) (l := lessZ (-1)) (m := k) hkl1 (by decide)).trans ((rd_left HV1.out hkl1 (by omega)).trans HR1.out))
              have HM3 := Lib.hid ((rd_sync (HV1.out.left (l := -1) (by omega)) (l := lessZ (-1)) (m := m) hml1 (by decide)).trans ((rd_left HV1.out hml1 (by omega)).trans HM.out))
              have hl3 : (⟨d1.size, cur { d1 with left := -1 }, [], lessZ (-1)⟩ : Dk).secs.length = d1.secs.length := cur_length _
              have hp3 : (((⟨d1.size, cur { d1 with left := -1 }, [], lessZ (-1)⟩ : Dk).pend.length : Int) == 0) = true := rfl
              have hp3l : (⟨d1.size, cur { d1 with left := -1 }, [], lessZ (-1)⟩ : Dk).pend.length ≤ 100000 := by simp
              have HSY := Lib.hid hsy
              clear hsy
              generalize (⟨d1.size, cur { d1 with left := -1 }, [], lessZ (-1)⟩ : Dk) = d3 at *
              have hkl3 : k < d3.secs.length := by omega
              have hml3 : m < d3.secs.length := by omega
              clear hl3
              obtain ⟨q40_0, q40_1, q40_2, q40_3, q40_4, q40_5, q40_6, q40_7⟩ := hx1.facts
              go_wp2_with fail
              have c39 := sync_any _ _ _ _ hx1.dk
              rw [HSY.out.1, HSY.out.2] at c39
              refine c39.mono ?_
              clear c39
              clear q40_0 q40_1 q40_2 q40_3 q40_4 q40_5 q40_6 q40_7
              rintro e w39 ⟨vs38, vp38, rfl, hD38, hb39⟩
              have f41 := hx1.keep hb39
              have hB42 := hB1.trans (hb39.mono (by first | exact hB1.size | (have := hB1.size; omega)))
              clear hx1 hB1 hb39
              obtain ⟨A38, cc38, P38, cp38, rfl, rfl, _, _, _, _⟩ := hD38.form
              have g43le : W.heap.size ≤ w39.heap.size := by first | exact hB42.size | (have := hB42.size; omega)
              have f44 := f41.alloc (.cells #[.int .i64 d3.size, .slice A38 d3.secs.length cc38, .slice P38 d3.pend.length cp38, .int .i64 d3.left] 26)
              have f45 := Var.new hD38
              have hB46 := hB42.alloc (by first | exact hB42.size | (have := hB42.size; omega)) (.cells #[.int .i64 d3.size, .slice A38 d3.secs.length cc38, .slice P38 d3.pend.length cp38, .int .i64 d3.left] 26)
              clear f41 hB42 hD38
              obtain ⟨q48_0, q48_1, q48_2, q48_3, q48_4, q48_5, q48_6, q48_7⟩ := f44.facts
              obtain ⟨q49_0, q49_1, q49_2, q49_3, q49_4, q49_5, q49_6, q49_7⟩ := f45.facts
              go_wp2_with fail
              generalize w39.alloc (.cells #[.int .i64 d3.size, .slice A38 d3.secs.length cc38, .slice P38 d3.pend.length cp38, .int .i64 d3.left] 26) = w43 at *
              generalize w39.heap.size = g43 at *
              have c47 := read_in _ _ _ d3 f45.dk k (chk_zero.2 HV3.out) hkl3 hp3l
              rw [HK3.out] at c47
              refine c47.mono ?_
              clear c47
              clear q48_0 q48_1 q48_2 q48_3 q48_4 q48_5 q48_6 q48_7 q49_0 q49_1 q49_2 q49_3 q49_4 q49_5 q49_6 q49_7
              rintro e w47 ⟨rfl, hb47⟩
              have f50 := f44.keep hb47
              have f51 := f45.keep hb47
              have hB52 := hB46.trans (hb47.mono (by first | exact hB46.size | (have := hB46.size; omega)))
              clear f44 f45 hB46 hb47
              obtain ⟨q54_0, q54_1, q54_2, q54_3, q54_4, q54_5, q54_6, q54_7⟩ := f50.facts
              obtain ⟨q55_0, q55_1, q55_2, q55_3, q55_4, q55_5, q55_6, q55_7⟩ := f51.facts
              go_wp2_with fail
              have c53 := read_in _ _ _ d3 f51.dk m (chk_zero.2 HV3.out) hml3 hp3l
              rw [HM3.out] at c53
              refine c53.mono ?_
              clear c53
              clear q54_0 q54_1 q54_2 q54_3 q54_4 q54_5 q54_6 q54_7 q55_0 q55_1 q55_2 q55_3 q55_4 q55_5 q55_6 q55_7
              rintro e w53 ⟨rfl, hb53⟩
              have f56 := f50.keep hb53
              have f57 := f51.keep hb53
              have hB58 := hB52.trans (hb53.mono (by first | exact hB52.size | (have := hB52.size; omega)))
              clear f50 f51 hB52 hb53
              obtain ⟨q60_0, q60_1, q60_2, q60_3, q60_4, q60_5, q60_6, q60_7⟩ := f56.facts
              obtain ⟨q61_0, q61_1, q61_2, q61_3, q61_4, q61_5, q61_6, q61_7⟩ := f57.facts
              go_wp2_with fail
              have c59 := awake_any w53
              refine c59.mono ?_
              clear c59
              clear q60_0 q60_1 q60_2 q60_3 q60_4 q60_5 q60_6 q60_7 q61_0 q61_1 q61_2 q61_3 q61_4 q61_5 q61_6 q61_7
              rintro e w59 ⟨rfl, hb59⟩
              have f62 := f56.keep hb59
              have f63 := f57.keep hb59
              have hB64 := hB58.trans (hb59.mono (by first | exact hB58.size | (have := hB58.size; omega)))
              clear f56 f57 hB58 hb59
              go_wp2
              go_ret
              exact ⟨rfl, hB64⟩
          · have hwo := wr_mis (i := (k : Int)) (s := s) (chk_zero.2 V.out) (by omega) hsz
            have hzb : ((s.size : Int) == d.size) = false := by simp [hsz]
            have HW := Lib.hid hwo
            clear hwo hsz
            obtain ⟨q17_0, q17_1, q17_2, q17_3, q17_4, q17_5, q17_6, q17_7⟩ := f13.facts
            go_wp2_with fail
            have c16 := write_any _ _ _ d f13.dk hpl k (by omega) (by omega) s
            rw [HW.out.1, HW.out.2] at c16
            refine c16.mono ?_
            clear c16
            clear q17_0 q17_1 q17_2 q17_3 q17_4 q17_5 q17_6 q17_7
            rintro e w16 ⟨vs15, vp15, rfl, hD15, hb16⟩
            have f18 := f13.keep hb16
            have hB19 := hB14.trans (hb16.mono (by first | exact hB14.size | (have := hB14.size; omega)))
            clear f13 hB14 hb16
            obtain ⟨A15, cc15, P15, cp15, rfl, rfl, _, _, _, _⟩ := hD15.form
            have g20le : W.heap.size ≤ w16.heap.size := by first | exact hB19.size | (have := hB19.size; omega)
            have f21 := f18.alloc (.cells #[.int .i64 noDisk.size, .slice A15 noDisk.secs.length cc15, .slice P15 noDisk.pend.length cp15, .int .i64 noDisk.left] 26)
            have f22 := Var.new hD15
            have hB23 := hB19.alloc (by first | exact hB19.size | (have := hB19.size; omega)) (.cells #[.int .i64 noDisk.size, .slice A15 noDisk.secs.length cc15, .slice P15 noDisk.pend.length cp15, .int .i64 noDisk.left] 26)
            clear f18 hB19 hD15
            obtain ⟨q25_0, q25_1, q25_2, q25_3, q25_4, q25_5, q25_6, q25_7⟩ := f21.facts
            obtain ⟨q26_0, q26_1, q26_2, q26_3, q26_4, q26_5, q26_6, q26_7⟩ := f22.facts
            go_wp2_with fail
            generalize w16.alloc (.cells #[.int .i64 noDisk.size, .slice A15 noDisk.secs.length cc15, .slice P15 noDisk.pend.length cp15, .int .i64 noDisk.left] 26) = w20 at *
            generalize w16.heap.size = g20 at *
            have c24 := awake_any w20
            refine c24.mono ?_
            clear c24
            clear q25_0 q25_1 q25_2 q25_3 q25_4 q25_5 q25_6 q25_7 q26_0 q26_1 q26_2 q26_3 q26_4 q26_5 q26_6 q26_7
            rintro e w24 ⟨rfl, hb24⟩
            have f27 := f21.keep hb24
            have f28 := f22.keep hb24
            have hB29 := hB23.trans (hb24.mono (by first | exact hB23.size | (have := hB23.size; omega)))
            clear f21 f22 hB23 hb24
            go_wp2
            go_ret
            exact ⟨rfl, hB29⟩
    · have hb : (chk d != 0) = true := by simp [hk]
      clear hk
      generalize chk d = full at *
      have aw := awake_any w3
      go_wp2_with fail
      refine aw.mono ?_
      clear aw
      rintro e w9 ⟨rfl, hb9⟩
      have hb10 := hb5.trans (hb9.mono hb5.size)
      go_wp2
      go_ret
      exact ⟨rfl, hb10⟩
  · have hv3 := hv2
    have hb5 := hb3
    have aw := awake_any w2
    go_wp2_with fail
    refine aw.mono ?_
    clear aw
    rintro e w9 ⟨rfl, hb9⟩
    have hb10 := hb5.trans (hb9.mono hb5.size)
    go_wp2
    go_ret
    exact ⟨rfl, hb10⟩
end Go.Proofs.Ytpihapkclnhklaa
