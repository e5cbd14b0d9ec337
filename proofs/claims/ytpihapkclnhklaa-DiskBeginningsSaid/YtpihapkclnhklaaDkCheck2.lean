/- disk.Check. -/
import Derived.Test.YtpihapkclnhklaaDkCheck
namespace Go.Proofs.Ytpihapkclnhklaa
open Go.RowKit

def ErrPost (W : World) (n : Int) (e : Ending) (w' : World) : Prop := e = .returned (.int .i64 n) ∧ Below W.heap.size W w'

set_option maxRecDepth 100000 in
set_option maxHeartbeats 1000000 in
theorem check_any (W : World) (vs vp : Value) (d : Dk) (h : DskP W vs vp d) :
    Calls Try.prog 24 #[.agg #[.int .i64 d.size, vs, vp, .int .i64 d.left]] W (ErrPost W (chk d)) := by
  obtain ⟨size, secs, pend, left⟩ := d
  obtain ⟨hs, hp, z0, z1, f0, f1⟩ := h
  simp only at hs hp z0 z1 f0 f1
  generalize hfull : chk ⟨size, secs, pend, left⟩ = full
  obtain ⟨A, c, rfl, hc, hm⟩ := hs.form
  obtain ⟨P, cp, rfl, hcp, hmp⟩ := hp.form
  have r1 := inRange_any secs.length size
  cases hr : inRangeB secs.length size
  · have hF : full = 2 := by
      rw [← hfull]; unfold chk; rw [if_pos (by have := inRangeB_false hr; simp only; omega)]
    rw [hr] at r1
    have R1 := Lib.hid r1
    have HF := Lib.hid hF
    clear hfull hr r1 hF
    go_enter Try.func24, Try.ntmps24
    go_wp2_with (go_at_call 28; refine (R1.out _).mono ?_; rintro e w' ⟨rfl, rfl⟩)
    go_ret
    exact ⟨ret_int HF.out.symm, (Below.refl _ _).alloc (Nat.le_refl _) _⟩
  · have hF : full = chkS size (chkW secs.length size (chkL left) pend) (secs.drop 0) := by
      rw [← hfull]; unfold chk; rw [if_neg (by have := inRangeB_true hr; simp only; omega)]; rfl
    rw [hr] at r1
    have R1 := Lib.hid r1
    have HF := Lib.hid hF
    clear hfull hr r1 hF
    have hbk := Blk.new W #[.int .i64 size, .slice A secs.length c, .slice P pend.length cp, .int .i64 left] 26
    have hd1 := (Below.refl W.heap.size W).alloc (Nat.le_refl _) (.cells #[.int .i64 size, .slice A secs.length c, .slice P pend.length cp, .int .i64 left] 26)
    go_enter Try.func24, Try.ntmps24
    go_wp2_with (go_at_call 28; refine (R1.out _).mono ?_; rintro e w' ⟨rfl, rfl⟩)
    generalize W.alloc (.cells #[.int .i64 size, .slice A secs.length c, .slice P pend.length cp, .int .i64 left] 26) = w1 at *
    have hs1 := hs.keep (Keeps.of_below hd1)
    have q0 := hbk.cell (j := 0) rfl
    have q2 := hbk.cell (j := 2) rfl
    have q3 := hbk.cell (j := 3) rfl
    go_loop [17] (fun t => ∃ k : Nat, k ≤ secs.length ∧ t = .int .i64 k ∧ Hid (full = chkS size (chkW secs.length size (chkL left) pend) (secs.drop k))) (fun t => secs.length - (intOf t).toNat)
    case atStart => exact ⟨0, by omega, rfl, HF⟩
    case round =>
      obtain ⟨k, hk, rfl, HK⟩ := hrel
      clear HF
      by_cases hlt : k < secs.length
      · obtain ⟨b, off, rfl, a1⟩ := hs1.get hlt
        by_cases he : (secs[k].size : Int) = size
        · have HE := Lib.hid (HK.out.trans (chkS_ok hlt he))
          have hb : (((secs[k].size : Int)) != size) = false := by rw [he]; simp
          clear HK he
          go_wp2
          go_round
          case rel => exact ⟨k + 1, by omega, by go_num, HE⟩
          case measure => simp [intOf]; omega
        · have HE := Lib.hid (HK.out.trans (chkS_bad hlt he))
          have hb : (((secs[k].size : Int)) != size) = true := by simpa using he
          clear HK he
          go_wp2
          go_ret
          exact ⟨ret_int HE.out.symm, hd1⟩
      · have HE := Lib.hid (HK.out.trans (chkS_end hlt))
        clear HK
        have HE2 : Hid (full = chkW secs.length size (chkL left) (pend.drop 0)) := HE.out
        clear HE
        go_wp2
        go_loopw [30] (fun t wr => ∃ k : Nat, k ≤ pend.length ∧ t = .int .i64 k ∧ Hid (full = chkW secs.length size (chkL left) (pend.drop k)) ∧ Blk wr W.heap.size 26 #[.int .i64 size, .slice A secs.length c, .slice P pend.length cp, .int .i64 left] ∧ Below W.heap.size W wr) (fun t _ => pend.length - (intOf t).toNat)
        case atStart => exact ⟨0, by omega, rfl, HE2, hbk, hd1⟩
        case round =>
          clear HE2 q0 q2 q3 hbk hd1
          obtain ⟨k, hk, rfl, HK, hbk, hd⟩ := hrel
          have hpk := hp.keep (Keeps.of_below hd)
          have q0 := hbk.cell (j := 0) rfl
          have q1 := hbk.cell (j := 1) rfl
          have q2 := hbk.cell (j := 2) rfl
          have q3 := hbk.cell (j := 3) rfl
          by_cases hlt2 : k < pend.length
          · obtain ⟨b, off, rfl, a1, a2, a3, a4⟩ := hpk.get hlt2
            have hsz := hd.size
            have hbl := hbk.lt
            have hbw := Blk.new wr #[.int .i64 pend[k].1, .string pend[k].2] 45
            have hbk2 := hbk.alloc (.cells #[.int .i64 pend[k].1, .string pend[k].2] 45)
            have hd2 := hd.alloc hsz (.cells #[.int .i64 pend[k].1, .string pend[k].2] 45)
            have hh := has_any size left pend[k].1 A secs.length c (.slice (some ⟨b, off, none⟩) pend.length cp) hc hm
            generalize hw1 : pend[k].1 = i1 at *
            generalize hw2 : pend[k].2 = i2 at *
            cases hhas : hasB secs.length i1
            · rw [hhas] at hh
              have HE := Lib.hid (HK.out.trans (chkW_range hlt2 (by rw [hw1]; exact hasB_false hhas)))
              have HH := Lib.hid hh
              clear HK hw1 hw2 hhas hh
              go_wp2_with fail
              refine (HH.out _).mono ?_
              rintro e w3 ⟨rfl, hb3⟩
              have hd3 := hd2.trans (hb3.mono hd2.size)
              go_wp2
              go_ret
              exact ⟨ret_int HE.out.symm, hd3⟩
            · rw [hhas] at hh
              have hnr : ¬ (pend[k].1 < 0 ∨ (secs.length : Int) ≤ pend[k].1) := by rw [hw1]; have := hasB_true hhas; omega
              have HH := Lib.hid hh
              by_cases he : (i2.size : Int) = size
              · have HE := Lib.hid (HK.out.trans (chkW_ok hlt2 hnr (by rw [hw2]; exact he)))
                have hb : (((i2.size : Int)) != size) = false := by rw [he]; simp
                clear HK hw1 hw2 hhas hh he hnr
                go_wp2_with fail
                refine (HH.out _).mono ?_
                rintro e w3 ⟨rfl, hb3⟩
                have hd3 := hd2.trans (hb3.mono hd2.size)
                have hbk3 := hbk2.keep hb3
                have hbw3 := hbw.keep hb3
                clear q0 q1 q2 q3 hbk hbk2 hbw hd hd2 hb3
                have q0 := hbk3.cell (j := 0) rfl
                have q1 := hbw3.cell (j := 1) rfl
                go_wp2
                go_roundw
                case rel => exact ⟨k + 1, by omega, by go_num, HE, hbk3, hd3⟩
                case measure => simp [intOf]; omega
              · have HE := Lib.hid (HK.out.trans (chkW_bad hlt2 hnr (by rw [hw2]; exact he)))
                have hb : (((i2.size : Int)) != size) = true := by simpa using he
                clear HK hw1 hw2 hhas hh he hnr
                go_wp2_with fail
                refine (HH.out _).mono ?_
                rintro e w3 ⟨rfl, hb3⟩
                have hd3 := hd2.trans (hb3.mono hd2.size)
                have hbk3 := hbk2.keep hb3
                have hbw3 := hbw.keep hb3
                clear q0 q1 q2 q3 hbk hbk2 hbw hd hd2 hb3
                have q0 := hbk3.cell (j := 0) rfl
                have q1 := hbw3.cell (j := 1) rfl
                go_wp2
                go_ret
                exact ⟨ret_int HE.out.symm, hd3⟩
          · have HE := Lib.hid (HK.out.trans (chkW_end hlt2))
            clear HK
            by_cases hl : left < -1
            · have HL := Lib.hid (show chkL left = 2 by unfold chkL; rw [if_pos hl])
              go_wp2
              go_ret
              exact ⟨ret_int (HE.out.trans HL.out).symm, hd⟩
            · have HL := Lib.hid (show chkL left = 0 by unfold chkL; rw [if_neg hl])
              go_wp2
              go_ret
              exact ⟨ret_int (HE.out.trans HL.out).symm, hd⟩
end Go.Proofs.Ytpihapkclnhklaa
