/- cordwoodref05.Check. -/
import Derived.Test.YtpihapkclnhklaaDkCheck2
namespace Go.Proofs.Ytpihapkclnhklaa
open Go.RowKit

set_option maxRecDepth 100000 in
set_option maxHeartbeats 1000000 in
theorem rcheck_any (W : World) (vs vp : Value) (d : Dk) (h : DskP W vs vp d) :
    Calls Try.prog 25 #[.agg #[.int .i64 d.size, vs, vp, .int .i64 d.left]] W (ErrPost W (chk d)) := by
  obtain ⟨size, secs, pend, left⟩ := d
  obtain ⟨hs, hp, z0, z1, f0, f1⟩ := h
  simp only at hs hp z0 z1 f0 f1
  generalize hfull : chk ⟨size, secs, pend, left⟩ = full
  obtain ⟨A, c, rfl, hc, hm⟩ := hs.form
  obtain ⟨P, cp, rfl, hcp, hmp⟩ := hp.form
  by_cases hbad : size < 1 ∨ 512 < size ∨ secs.length < 1 ∨ 1000 < secs.length
  · have hF : full = 2 := by
      rw [← hfull]; unfold chk; rw [if_pos hbad]
    have HF := Lib.hid hF
    clear hfull hF
    have hcase : size < 1 ∨ (¬ size < 1 ∧ 512 < size) ∨ (¬ size < 1 ∧ ¬ 512 < size ∧ (secs.length : Int) < 1) ∨ (¬ size < 1 ∧ ¬ 512 < size ∧ ¬ (secs.length : Int) < 1 ∧ 1000 < (secs.length : Int)) := by omega
    clear hbad
    rcases hcase with h1 | ⟨h1, h2⟩ | ⟨h1, h2, h3⟩ | ⟨h1, h2, h3, h4⟩
    all_goals
      go_enter Try.func25, Try.ntmps25
      go_wp2
      go_ret
      exact ⟨ret_int HF.out.symm, (Below.refl _ _).alloc (Nat.le_refl _) _⟩
  · have hF : full = chkS size (chkW secs.length size (chkL left) pend) (secs.drop 0) := by
      rw [← hfull]; unfold chk; rw [if_neg hbad]; rfl
    have HF := Lib.hid hF
    have h1 : ¬ size < 1 := by omega
    have h2 : ¬ 512 < size := by omega
    have h3 : ¬ (secs.length : Int) < 1 := by omega
    have h4 : ¬ 1000 < (secs.length : Int) := by omega
    clear hfull hF hbad
    have hbk := Blk.new W #[.int .i64 size, .slice A secs.length c, .slice P pend.length cp, .int .i64 left] 26
    have hd1 := (Below.refl W.heap.size W).alloc (Nat.le_refl _) (.cells #[.int .i64 size, .slice A secs.length c, .slice P pend.length cp, .int .i64 left] 26)
    go_enter Try.func25, Try.ntmps25
    go_wp2
    go_loopw [3] (fun t wr => ∃ k : Nat, k ≤ secs.length ∧ t = .int .i64 k ∧ Hid (full = chkS size (chkW secs.length size (chkL left) pend) (secs.drop k)) ∧ Blk wr W.heap.size 26 #[.int .i64 size, .slice A secs.length c, .slice P pend.length cp, .int .i64 left] ∧ Below W.heap.size W wr) (fun t _ => secs.length - (intOf t).toNat)
    case atStart => exact ⟨0, by omega, rfl, HF, hbk, hd1⟩
    case round =>
      clear HF hbk hd1
      obtain ⟨k, hk, rfl, HK, hbk, hd⟩ := hrel
      have hsk := hs.keep (Keeps.of_below hd)
      have q0 := hbk.cell (j := 0) rfl
      have q1 := hbk.cell (j := 1) rfl
      have q2 := hbk.cell (j := 2) rfl
      have q3 := hbk.cell (j := 3) rfl
      by_cases hlt : k < secs.length
      · obtain ⟨b, off, rfl, a1⟩ := hsk.get hlt
        by_cases he : (secs[k].size : Int) = size
        · have HE := Lib.hid (HK.out.trans (chkS_ok hlt he))
          have hb : (((secs[k].size : Int)) != size) = false := by rw [he]; simp
          clear HK he
          go_wp2
          go_quiet (fail)
          go_wp2
          go_roundw
          case rel => exact ⟨k + 1, by omega, by go_num, HE, hbk.drewN _, below_drewN' hd _⟩
          case measure => simp [intOf]; omega
        · have HE := Lib.hid (HK.out.trans (chkS_bad hlt he))
          have hb : (((secs[k].size : Int)) != size) = true := by simpa using he
          clear HK he
          go_wp2
          go_quiet (fail)
          go_wp2
          go_ret
          exact ⟨ret_int HE.out.symm, below_drewN' hd _⟩
      · have HE := Lib.hid (HK.out.trans (chkS_end hlt))
        clear HK
        have HE2 : Hid (full = chkW secs.length size (chkL left) (pend.drop 0)) := HE.out
        clear HE
        go_wp2
        have hbk0 := hbk
        have hd0 := hd
        clear q0 q1 q2 q3 hbk hd
        go_loopw [4] (fun t wr => ∃ k : Nat, k ≤ pend.length ∧ t = .int .i64 k ∧ Hid (full = chkW secs.length size (chkL left) (pend.drop k)) ∧ Blk wr W.heap.size 26 #[.int .i64 size, .slice A secs.length c, .slice P pend.length cp, .int .i64 left] ∧ Below W.heap.size W wr) (fun t _ => pend.length - (intOf t).toNat)
        case atStart => exact ⟨0, by omega, rfl, HE2, hbk0, hd0⟩
        case round =>
          clear HE2 hbk0 hd0
          obtain ⟨k, hk, rfl, HK, hbk, hd⟩ := hrel
          have hpk := hp.keep (Keeps.of_below hd)
          have hbl := hbk.lt
          have q0 := hbk.cell (j := 0) rfl
          have q1 := hbk.cell (j := 1) rfl
          have q2 := hbk.cell (j := 2) rfl
          have q3 := hbk.cell (j := 3) rfl
          by_cases hlt2 : k < pend.length
          · obtain ⟨b, off, rfl, a1, a2, a3, a4⟩ := hpk.get hlt2
            have hsz := hd.size
            have hbk2 := hbk.alloc (.cells #[.int .i64 pend[k].1, .string pend[k].2] 45)
            have hd2 := hd.alloc hsz (.cells #[.int .i64 pend[k].1, .string pend[k].2] 45)
            generalize hw1 : pend[k].1 = i1 at *
            generalize hw2 : pend[k].2 = i2 at *
            by_cases hhas : i1 < 0 ∨ (secs.length : Int) ≤ i1
            · have HE := Lib.hid (HK.out.trans (chkW_range hlt2 (by rw [hw1]; exact hhas)))
              have hc2 : i1 < 0 ∨ (¬ i1 < 0 ∧ (secs.length : Int) ≤ i1) := by omega
              clear HK hw1 hw2 hhas
              rcases hc2 with hc2 | ⟨hc2, hc3⟩
              all_goals
                go_wp2
                go_ret
                exact ⟨ret_int HE.out.symm, hd2⟩
            · have hnr : ¬ (pend[k].1 < 0 ∨ (secs.length : Int) ≤ pend[k].1) := by rw [hw1]; exact hhas
              have hc2 : ¬ i1 < 0 := by omega
              have hc3 : ¬ (secs.length : Int) ≤ i1 := by omega
              by_cases he : (i2.size : Int) = size
              · have HE := Lib.hid (HK.out.trans (chkW_ok hlt2 hnr (by rw [hw2]; exact he)))
                have hb : (((i2.size : Int)) != size) = false := by rw [he]; simp
                clear HK hw1 hw2 he hnr hhas
                go_wp2
                go_roundw
                case rel => exact ⟨k + 1, by omega, by go_num, HE, hbk2, hd2⟩
                case measure => simp [intOf]; omega
              · have HE := Lib.hid (HK.out.trans (chkW_bad hlt2 hnr (by rw [hw2]; exact he)))
                have hb : (((i2.size : Int)) != size) = true := by simpa using he
                clear HK hw1 hw2 he hnr hhas
                go_wp2
                go_ret
                exact ⟨ret_int HE.out.symm, hd2⟩
          · have HE := Lib.hid (HK.out.trans (chkW_end hlt2))
            clear HK
            by_cases hl : left < -1
            · have HL := Lib.hid (show chkL left = 2 by unfold chkL; rw [if_pos hl])
              go_wp2
              go_ret
              exact ⟨ret_int (HE.out.trans HL.out).symm, hd⟩
            · have HL := Lib.hid (show chkL left = 0 by unfold chkL; rw [if_neg hl])
              go_wp2
              go_ret
              exact ⟨ret_int (HE.out.trans HL.out).symm, hd⟩
end Go.Proofs.Ytpihapkclnhklaa
