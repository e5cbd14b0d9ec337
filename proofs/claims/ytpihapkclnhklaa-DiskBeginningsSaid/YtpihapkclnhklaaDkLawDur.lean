/- The walk of the law DiskDurable: it returns true for any disk and list of numbers. -/
import Derived.Test.YtpihapkclnhklaaDkLawReads
namespace Go.Proofs.Ytpihapkclnhklaa
open Go.RowKit

theorem Ints.drewN {w : World} {v : Value} {l : List Int} (h : Ints w v l) (n : Nat) : Ints (w.drewN n) v l := h.keep (Keeps.drewN _ _)
theorem cutD_sync {d : Dk} (h : Valid ⟨d.size, cur d, [], lessZ (-1)⟩) (ps : List Int) : cutD ⟨d.size, cur d, [], lessZ (-1)⟩ ps = ⟨d.size, cur d, [], lessZ (-1)⟩ := by
  rw [← cutD_ok (chk_zero.2 h)]
  cases ps <;> rfl
theorem cutD_len {d : Dk} (h : Valid d) (ps : List Int) : (cutD d ps).secs.length = d.secs.length ∧ (cutD d ps).pend.length = 0 ∧ (cutD d ps).left = -1 := by
  rw [← cutD_ok (chk_zero.2 h)]
  exact ⟨cutW_len _ _ _, rfl, rfl⟩
theorem cutD_get {d : Dk} (h : Valid d) (ps : List Int) {j : Nat} (hj : j < d.secs.length) (hj' : j < (cutD d ps).secs.length) (hn : ∀ w ∈ d.pend, w.1 ≠ (j : Int)) : (cutD d ps).secs[j] = d.secs[j] := by
  have e : (cutD d ps).secs[j]? = d.secs[j]? := by
    rw [← cutD_ok (chk_zero.2 h)]
    exact cutW_other _ _ _ fun w hw => ⟨(h.ws w hw).1, hn w hw⟩
  rw [List.getElem?_eq_getElem hj, List.getElem?_eq_getElem hj'] at e
  exact Option.some.inj e
/-- Has one of the first l pending writes the sector j? -/
def wrtB (p : List (Int × ByteArray)) (j l : Nat) : Bool := (p.take l).any fun w => w.1 == (j : Int)
theorem wrtB_succ {p : List (Int × ByteArray)} {j l : Nat} (h : l < p.length) : wrtB p j (l + 1) = (wrtB p j l || p[l].1 == (j : Int)) := by
  unfold wrtB
  rw [List.take_succ_eq_append_getElem h, List.any_append, List.any_cons, List.any_nil, Bool.or_false]
theorem wrtB_false {p : List (Int × ByteArray)} {j l : Nat} (hl : ¬ l < p.length) (h : wrtB p j l = false) : ∀ w ∈ p, w.1 ≠ (j : Int) := by
  unfold wrtB at h
  rw [List.take_of_length_le (by omega)] at h
  intro w hw he
  have := List.any_eq_false.1 h w hw
  simp [he] at this

set_option maxRecDepth 100000 in
set_option maxHeartbeats 8000000 in
theorem law_durable (W : World) (v : Value) (d : Dk) (hd : Dsk W v d) (vi : Value) (ps : List Int) (hps : Ints W vi ps) :
    Calls Try.prog 8 #[v, vi] W fun e w' => e = .returned (.bool true) ∧ Below W.heap.size W w' := by
  obtain ⟨vs, vp, rfl, hD⟩ := hd
  obtain ⟨A, c, P, cp, rfl, rfl, hc, hcp, hm, hmp⟩ := hD.form
  obtain ⟨I, ci, rfl, hci, hmi⟩ := hps.form
  have hv := Var.new hD
  have hps0 := hps
  have hb := (Below.refl W.heap.size W).alloc (Nat.le_refl _) (.cells #[.int .i64 d.size, .slice A d.secs.length c, .slice P d.pend.length cp, .int .i64 d.left] 26)
  have hi := hps.keep (Keeps.alloc W (.cells #[.int .i64 d.size, .slice A d.secs.length c, .slice P d.pend.length cp, .int .i64 d.left] 26))
  have cg := great_any _ _ _ d hv.dk
  clear hD hps
  go_enter Try.func8, Try.ntmps8
  go_wp2_with fail
  refine cg.mono ?_
  clear cg
  generalize W.alloc (.cells #[.int .i64 d.size, .slice A d.secs.length c, .slice P d.pend.length cp, .int .i64 d.left] 26) = w1 at *
  rintro e w2 ⟨rfl, hb2⟩
  have hv2 := hv.keep hb2
  have hi2 := hi.keep (Keeps.of_below hb2)
  have hb3 := hb.trans (hb2.mono hb.size)
  clear hv hb hb2 hi
  cases hgr : greatB d
  · have hgb := greatB_false hgr
    have hp12 := hgb.2.1
    have hpl : d.pend.length ≤ 100000 := by omega
    clear hgr hgb
    obtain ⟨q0, q1, q2, q3, _⟩ := hv2.facts
    have c2 := check_any _ _ _ d hv2.dk
    go_wp2_with fail
    refine c2.mono ?_
    clear c2 q0 q1 q2 q3
    rintro e w3 ⟨rfl, hb4⟩
    have hv3 := hv2.keep hb4
    have hi3 := hi2.keep (Keeps.of_below hb4)
    have hb5 := hb3.trans (hb4.mono hb3.size)
    clear hv2 hb3 hb4 hi2
    by_cases hk : chk d = 0
    · have V := Lib.hid (chk_zero.1 hk)
      rw [hk]
      clear hk
      by_cases hl : 20 < (ps.length : Int)
      · have aw := awake_any w3
        go_wp2_with fail
        refine aw.mono ?_
        clear aw
        rintro e w9 ⟨rfl, hb9⟩
        have hb10 := hb5.trans (hb9.mono hb5.size)
        go_wp2
        go_ret
        exact ⟨rfl, hb10⟩
      · have hn1 := V.out.n1
        have hn2 := V.out.n2
        have HX := Lib.hid (cutD_len V.out ps)
        have HVX := Lib.hid (V.out.cut ps)
        have HGX := Lib.hid (fun (j : Nat) hj hj' hn => cutD_get V.out ps (j := j) hj hj' hn)
        obtain ⟨q13_0, q13_1, q13_2, q13_3, q13_4, q13_5, q13_6, q13_7⟩ := hv3.facts
        go_wp2_with fail
        have c12 := cut_any _ _ _ _ d hv3.dk hpl ps hi3
        generalize hdx : cutD d ps = dx at *
        have HDX := Lib.hid hdx
        clear hdx
        refine c12.mono ?_
        clear c12
        clear q13_0 q13_1 q13_2 q13_3 q13_4 q13_5 q13_6 q13_7
        rintro e w12 ⟨vs11, vp11, rfl, hD11, hb12⟩
        have f14 := hv3.keep hb12
        have f15 := hi3.keep (Keeps.of_below hb12)
        have hB16 := hb5.trans (hb12.mono (by first | exact hb5.size | (have := hb5.size; omega)))
        clear hv3 hi3 hb5 hb12
        obtain ⟨A11, cc11, P11, cp11, rfl, rfl, _, _, _, _⟩ := hD11.form
        have g17le : W.heap.size ≤ w12.heap.size := by first | exact hB16.size | (have := hB16.size; omega)
        have f18 := f14.alloc (.cells #[.int .i64 dx.size, .slice A11 dx.secs.length cc11, .slice P11 dx.pend.length cp11, .int .i64 dx.left] 26)
        have f19 := f15.keep (Keeps.alloc w12 (.cells #[.int .i64 dx.size, .slice A11 dx.secs.length cc11, .slice P11 dx.pend.length cp11, .int .i64 dx.left] 26))
        have f20 := Var.new hD11
        have hB21 := hB16.alloc (by first | exact hB16.size | (have := hB16.size; omega)) (.cells #[.int .i64 dx.size, .slice A11 dx.secs.length cc11, .slice P11 dx.pend.length cp11, .int .i64 dx.left] 26)
        clear f14 f15 hB16 hD11
        obtain ⟨q23_0, q23_1, q23_2, q23_3, q23_4, q23_5, q23_6, q23_7⟩ := f18.facts
        obtain ⟨q24_0, q24_1, q24_2, q24_3, q24_4, q24_5, q24_6, q24_7⟩ := f20.facts
        go_wp2_with fail
        generalize w12.alloc (.cells #[.int .i64 dx.size, .slice A11 dx.secs.length cc11, .slice P11 dx.pend.length cp11, .int .i64 dx.left] 26) = w17 at *
        generalize w12.heap.size = g17 at *
        have c22 := check_any _ _ _ dx f20.dk
        rw [chk_zero.2 HVX.out] at c22
        refine c22.mono ?_
        clear c22
        clear q23_0 q23_1 q23_2 q23_3 q23_4 q23_5 q23_6 q23_7 q24_0 q24_1 q24_2 q24_3 q24_4 q24_5 q24_6 q24_7
        rintro e w22 ⟨rfl, hb22⟩
        have f25 := f18.keep hb22
        have f26 := f19.keep (Keeps.of_below hb22)
        have f27 := f20.keep hb22
        have hB28 := hB21.trans (hb22.mono (by first | exact hB21.size | (have := hB21.size; omega)))
        clear f18 f19 f20 hB21 hb22
        have hx1 : ((dx.secs.length : Int) != (d.secs.length : Int)) = false := by rw [HX.out.1]; simp
        have hx2 : ((dx.pend.length : Int) != 0) = false := by rw [HX.out.2.1]; rfl
        have hx3 : (dx.left != (-1 : Int)) = false := by rw [HX.out.2.2]; rfl
        have hxl2 : d.secs.length ≤ dx.secs.length := by have := HX.out.1; omega
        obtain ⟨q29_0, q29_1, q29_2, q29_3, q29_4, q29_5, q29_6, q29_7⟩ := f25.facts
        obtain ⟨q30_0, q30_1, q30_2, q30_3, q30_4, q30_5, q30_6, q30_7⟩ := f27.facts
        go_wp2
        clear q29_0 q29_1 q29_2 q29_3 q29_4 q29_5 q29_6 q29_7 q30_0 q30_1 q30_2 q30_3 q30_4 q30_5 q30_6 q30_7
        go_loopw [54] (fun t wr => ∃ j : Nat, j ≤ d.secs.length ∧ t = .int .i64 j ∧ Var wr W.heap.size A c P cp d ∧ Ints wr (.slice I ps.length ci) ps ∧ Var wr g17 A11 cc11 P11 cp11 dx ∧ Below W.heap.size W wr) (fun t _ => d.secs.length - (intOf t).toNat)
        case atStart => exact ⟨0, by omega, rfl, f25, f26, f27, hB28⟩
        case round =>
          clear f25 f26 f27 hB28
          obtain ⟨j, hj, rfl, hv, hi, hx, hb⟩ := hrel
          obtain ⟨wo, rfl⟩ : ∃ wo : World, wo = wr := ⟨_, rfl⟩
          obtain ⟨q0, q1, q2, q3, f0, f1, f2, f3⟩ := hv.facts
          obtain ⟨p0, p1, p2, p3, _⟩ := hx.facts
          by_cases hlt : j < d.secs.length
          · go_wp2
            go_loopw [7, 60] (fun s t wr => ∃ l : Nat, l ≤ d.pend.length ∧ t = .int .i64 l ∧ s = .bool (wrtB d.pend j l) ∧ Var wr W.heap.size A c P cp d ∧ Ints wr (.slice I ps.length ci) ps ∧ Var wr g17 A11 cc11 P11 cp11 dx ∧ Below W.heap.size W wr) (fun _ t _ => d.pend.length - (intOf t).toNat)
            case atStart => exact ⟨0, by omega, rfl, rfl, hv, hi, hx, hb⟩
            case round =>
              clear hv hi hx hb q0 q1 q2 q3 f0 f1 f2 f3 p0 p1 p2 p3
              obtain ⟨l, hl2, rfl, rfl, hv, hi, hx, hb⟩ := hrel
              obtain ⟨q0, q1, q2, q3, _⟩ := hv.facts
              obtain ⟨p0, p1, p2, p3, _⟩ := hx.facts
              by_cases hlt2 : l < d.pend.length
              · obtain ⟨b, off, rfl, a1, a2, a3, a4⟩ := hv.dk.pen.get hlt2
                have HS := Lib.hid (wrtB_succ (j := j) hlt2)
                have hv5 := hv.alloc (.cells #[.int .i64 d.pend[l].1, .string d.pend[l].2] 45)
                have hx5 := hx.alloc (.cells #[.int .i64 d.pend[l].1, .string d.pend[l].2] 45)
                have hi5 := hi.keep (Keeps.alloc _ (.cells #[.int .i64 d.pend[l].1, .string d.pend[l].2] 45))
                have hb5 := hb.alloc hb.size (.cells #[.int .i64 d.pend[l].1, .string d.pend[l].2] 45)
                generalize d.pend[l] = pw at *
                cases hwb : wrtB d.pend j l
                · by_cases hpe : pw.1 = (j : Int)
                  · have hpb : (pw.1 == (j : Int)) = true := by simp [hpe]
                    clear hpe hv hi hx hb
                    go_wp2
                    go_roundw
                    case rel => exact ⟨l + 1, by omega, by go_num, by rw [HS.out, hwb, hpb]; rfl, hv5, hi5, hx5, hb5⟩
                    case measure => simp [intOf]; omega
                  · have hpb : (pw.1 == (j : Int)) = false := by simp [hpe]
                    clear hpe hv hi hx hb
                    go_wp2
                    go_roundw
                    case rel => exact ⟨l + 1, by omega, by go_num, by rw [HS.out, hwb, hpb]; rfl, hv5, hi5, hx5, hb5⟩
                    case measure => simp [intOf]; omega
                · clear hv hi hx hb
                  go_wp2
                  go_roundw
                  case rel => exact ⟨l + 1, by omega, by go_num, by rw [HS.out, hwb]; rfl, hv5, hi5, hx5, hb5⟩
                  case measure => simp [intOf]; omega
              · cases hwb : wrtB d.pend j l
                · have hjx : j < dx.secs.length := by omega
                  have HE := Lib.hid (HGX.out j hlt hjx (wrtB_false hlt2 hwb))
                  obtain ⟨b, off, rfl, a1⟩ := hv.dk.sec.get hlt
                  obtain ⟨b2, off2, rfl, a2⟩ := hx.dk.sec.get hjx
                  rw [HE.out] at a2
                  generalize d.secs[j] = sj at *
                  clear HE
                  go_wp2
                  go_quiet (fail)
                  go_wp2
                  go_roundw
                  case rel => exact ⟨j + 1, by omega, by go_num, hv.drewN _, hi.drewN _, hx.drewN _, below_drewN' hb _⟩
                  case measure => simp [intOf]; omega
                · go_wp2
                  go_quiet (fail)
                  go_wp2
                  go_roundw
                  case rel => exact ⟨j + 1, by omega, by go_num, hv.drewN _, hi.drewN _, hx.drewN _, below_drewN' hb _⟩
                  case measure => simp [intOf]; omega
          · go_upto_region 19 with (fail)
            have hv5 := hv.left (-1) (by omega) (by omega)
            have hb5 := hb.setCell (p := ⟨W.heap.size, 3, none⟩) (Nat.le_refl _) (.int .i64 (-1))
            have hi5 := hps0.keep (Keeps.of_below hb5)
            clear hv hi hx hb q0 q1 q2 q3 f0 f1 f2 f3 p0 p1 p2 p3
            generalize wo.setCell ⟨W.heap.size, 3, none⟩ (.int .i64 (-1)) = w5 at *
            have hsy := sy_valid (V.out.left (l := -1) (by omega)) (by simp)
            have hvv := (V.out.left (l := -1) (by omega)).sync (l := lessZ (-1)) (by decide)
            have hcs := cutD_sync hvv ps
            have hp3 : (⟨d.size, cur { d with left := -1 }, [], lessZ (-1)⟩ : Dk).pend.length ≤ 100000 := by simp
            have HSY := Lib.hid hsy
            have HCS := Lib.hid hcs
            clear hsy hcs hvv
            generalize (⟨d.size, cur { d with left := -1 }, [], lessZ (-1)⟩ : Dk) = d3 at *
            obtain ⟨q33_0, q33_1, q33_2, q33_3, q33_4, q33_5, q33_6, q33_7⟩ := hv5.facts
            go_wp2_with fail
            have c32 := sync_any _ _ _ _ hv5.dk
            rw [HSY.out.1, HSY.out.2] at c32
            refine c32.mono ?_
            clear c32
            clear q33_0 q33_1 q33_2 q33_3 q33_4 q33_5 q33_6 q33_7
            rintro e w32 ⟨vs31, vp31, rfl, hD31, hb32⟩
            have f34 := hv5.keep hb32
            have f35 := hi5.keep (Keeps.of_below hb32)
            have hB36 := hb5.trans (hb32.mono (by first | exact hb5.size | (have := hb5.size; omega)))
            clear hv5 hi5 hb5 hb32
            obtain ⟨A31, cc31, P31, cp31, rfl, rfl, _, _, _, _⟩ := hD31.form
            have g37le : W.heap.size ≤ w32.heap.size := by first | exact hB36.size | (have := hB36.size; omega)
            have f38 := f34.alloc (.cells #[.int .i64 d3.size, .slice A31 d3.secs.length cc31, .slice P31 d3.pend.length cp31, .int .i64 d3.left] 26)
            have f39 := f35.keep (Keeps.alloc w32 (.cells #[.int .i64 d3.size, .slice A31 d3.secs.length cc31, .slice P31 d3.pend.length cp31, .int .i64 d3.left] 26))
            have f40 := Var.new hD31
            have hB41 := hB36.alloc (by first | exact hB36.size | (have := hB36.size; omega)) (.cells #[.int .i64 d3.size, .slice A31 d3.secs.length cc31, .slice P31 d3.pend.length cp31, .int .i64 d3.left] 26)
            clear f34 f35 hB36 hD31
            go_upto_region 20 with (fail)
            generalize w32.alloc (.cells #[.int .i64 d3.size, .slice A31 d3.secs.length cc31, .slice P31 d3.pend.length cp31, .int .i64 d3.left] 26) = w37 at *
            generalize w32.heap.size = g37 at *
            have KEY : Hid (∀ w', Below w37.heap.size w37 w' → w'.cell? ⟨g37, 0, none⟩ = some (.int .i64 d3.size) ∧ w'.cell? ⟨g37, 1, none⟩ = some (.slice A31 d3.secs.length cc31) ∧ w'.cell? ⟨g37, 2, none⟩ = some (.slice P31 d3.pend.length cp31) ∧ w'.cell? ⟨g37, 3, none⟩ = some (.int .i64 d3.left)) := fun w' h => by
              obtain ⟨z0, z1, z2, z3, _⟩ := (f40.keep h).facts
              exact ⟨z0, z1, z2, z3⟩
            have C1 : Hid (∀ w', Below w37.heap.size w37 w' → Calls Try.prog 16 #[.agg #[.int .i64 d3.size, .slice A31 d3.secs.length cc31, .slice P31 d3.pend.length cp31, .int .i64 d3.left], .slice I ps.length ci] w' (CutPost w' d3)) := fun w' h => by
              have := cut_any w' _ _ _ d3 (f40.keep h).dk hp3 ps (f39.keep (Keeps.of_below h))
              rw [HCS.out] at this
              exact this
            have HY := Lib.hid (fun (w' : World) (h : Below w37.heap.size w37 w') => (f40.keep h).dk)
            have k0 : Below w37.heap.size w37 w37 := Below.refl _ _
            have k1 : Below w37.heap.size w37 w37.drew := below_drew1 (Below.refl _ _)
            clear f38 f39 f40
            go_region_held3 (fun w' => w'.cell? ⟨g37, 0, none⟩ = some (.int .i64 d3.size) ∧ w'.cell? ⟨g37, 1, none⟩ = some (.slice A31 d3.secs.length cc31) ∧ w'.cell? ⟨g37, 2, none⟩ = some (.slice P31 d3.pend.length cp31) ∧ w'.cell? ⟨g37, 3, none⟩ = some (.int .i64 d3.left)) (first | exact KEY.out _ (by assumption) | go_keep)
              (first
                | (go_at_call 16; refine (C1.out _ (by assumption)).mono ?_; rintro e x1 ⟨vs1, vp1, rfl, hD1, y1⟩; obtain ⟨A9, c9, P9, cp9, rfl, rfl, _, _, _, _⟩ := hD1.form; have z1 := below_chain (a := w37) (by assumption) y1)
                | (go_at_call 14; refine (same_any _ _ _ _ _ d3 (by first | assumption | exact DskP.keep (by assumption) (Keeps.of_below (by assumption))) (HY.out _ (by assumption))).mono ?_; rintro e x3 ⟨rfl, y3⟩; have z3 := below_chain (a := w37) (by assumption) y3)
                | (go_at_call 11; refine (awake_any _).mono ?_; rintro e x5 ⟨rfl, y5⟩; have z5 := below_chain (a := w37) (by assumption) y5))
            all_goals
              have hq := hB41.trans (Below.mono z5 hB41.size)
              go_wp2
              go_ret
              exact ⟨rfl, hq⟩
    · have hb : (chk d != 0) = true := by simp [hk]
      clear hk
      generalize chk d = full at *
      have aw := awake_any w3
      go_wp2_with fail
      refine aw.mono ?_
      clear aw
      rintro e w9 ⟨rfl, hb9⟩
      have hb10 := hb5.trans (hb9.mono hb5.size)
      go_wp2
      go_ret
      exact ⟨rfl, hb10⟩
  · have hb5 := hb3
    have aw := awake_any w2
    go_wp2_with fail
    refine aw.mono ?_
    clear aw
    rintro e w9 ⟨rfl, hb9⟩
    have hb10 := hb5.trans (hb9.mono hb5.size)
    go_wp2
    go_ret
    exact ⟨rfl, hb10⟩
end Go.Proofs.Ytpihapkclnhklaa
