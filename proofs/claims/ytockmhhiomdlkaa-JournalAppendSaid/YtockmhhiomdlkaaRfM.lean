/- The reference's Append. -/
import Derived.Test.YtockmhhiomdlkaaRfL
namespace Go.Proofs.Ytockmhhiomdlkaa
set_option linter.unusedVariables false
set_option linter.unusedSimpArgs false
open Go.RowKit

theorem openAct {d : Dk} (h : (openD d).2 = 0) : actV d = (openD d).1.1 := by
  by_cases hk : chkJ d = 0
  · by_cases ha : actN d = 1 ∨ actN d = 2
    · have e : actV d = actN d := if_pos ha
      rw [openD_some hk ha] at h ⊢
      by_cases hb : (areaD d).2 = true
      · rw [if_pos hb] at h; simp at h
      · rw [if_neg hb]; exact e
    · rw [openD_none hk ha] at h; simp at h
  · rw [openD_bad hk] at h; exact absurd h hk

set_option maxRecDepth 100000 in
set_option maxHeartbeats 8000000 in
theorem rappend_any (W : World) (vs vp : Value) (d : Dk) (h : DskP W vs vp d) (hpn : d.pend.length ≤ 80000) (lA : Option Addr) (lc : Nat) (l : List Txt) (hl : Txs W (.slice lA l.length lc) l) (hbig : ∀ t ∈ l, t.length ≤ 1000000) :
    Calls Try.prog 15 #[.agg #[.int .i64 d.size, vs, vp, .int .i64 d.left], .slice lA l.length lc] W (DkPost W (appD d l).1 (appD d l).2) := by
  obtain ⟨A, c, P, cp, rfl, rfl, hc, hcp, hm1, hmp⟩ := h.form
  have V0 := (Var.new h).alloc (.cells #[.int .i64 0, .slice none 0 0, .slice none 0 0, .int .i64 0] 25)
  have Z0 : Var ((W.alloc (.cells #[.int .i64 d.size, .slice A d.secs.length c, .slice P d.pend.length cp, .int .i64 d.left] 25)).alloc (.cells #[.int .i64 0, .slice none 0 0, .slice none 0 0, .int .i64 0] 25)) (W.alloc (.cells #[.int .i64 d.size, .slice A d.secs.length c, .slice P d.pend.length cp, .int .i64 d.left] 25)).heap.size none 0 none 0 noDisk := Var.zero _
  rw [World.size_alloc] at Z0
  have K0 := ((Below.refl W.heap.size W).alloc (Nat.le_refl _) (.cells #[.int .i64 d.size, .slice A d.secs.length c, .slice P d.pend.length cp, .int .i64 d.left] 25)).alloc (by simp) (.cells #[.int .i64 0, .slice none 0 0, .slice none 0 0, .int .i64 0] 25)
  have T0 : Txs _ (.slice lA l.length lc) l := hl.keep (Keeps.of_below K0)
  obtain ⟨_, _, el, hlc, hlm⟩ := Txs.form hl
  cases el
  have HF : Hid (appD d l = if (openD d).2 ≠ 0 then (noDisk, (openD d).2) else if ¬ OkL l then (noDisk, 4) else if l = [] then (d, 0) else if halfN d.secs.length - (openD d).1.2.2 < (frS l d.size.toNat).length then (noDisk, 19) else runD d (twoO (appW d.secs.length d.size.toNat (openD d).1.1 (openD d).1.2.2 l) (firstS d.secs.length (openD d).1.1 + (openD d).1.2.2, hd0 (frS l d.size.toNat)))) := rfl
  have HU : Hid ((openD d).2 = 0 → Valid d ∧ 3 ≤ d.secs.length ∧ ((openD d).1.1 = 1 ∨ (openD d).1.1 = 2) ∧ (openD d).1.2.2 ≤ halfN d.secs.length) := openOk
  have HA : Hid ((openD d).2 = 0 → actV d = (openD d).1.1) := openAct
  generalize appD d l = R at *
  have CO := Lib.hid (ropen_any _ _ _ d V0.dk)
  generalize openD d = r at *
  obtain ⟨⟨a0, rl, u⟩, e0⟩ := r
  simp only at HF HU HA
  go_enter Try.func15, Try.ntmps15
  go_upto_region 1 with (fail)
  generalize (W.alloc (.cells #[.int .i64 d.size, .slice A d.secs.length c, .slice P d.pend.length cp, .int .i64 d.left] 25)).alloc (.cells #[.int .i64 0, .slice none 0 0, .slice none 0 0, .int .i64 0] 25) = w1 at *
  have HV := Lib.hid V0
  have HZ := Lib.hid Z0
  have KB := Lib.hid K0
  have HT := Lib.hid T0
  clear V0 Z0 K0 T0 hm1 hmp hc hcp h hl
  obtain ⟨q0, q1, q2, q3, _⟩ := HV.out.facts
  go_wp2_with fail
  refine CO.out.mono ?_
  rintro e w2 ⟨vo, rfl, hto, hb⟩
  clear q0 q1 q2 q3 CO hto
  replace HV := Lib.hid (HV.out.keep hb)
  replace HZ := Lib.hid (HZ.out.keep hb)
  replace KB := Lib.hid (KB.out.trans (hb.mono KB.out.size))
  replace HT := Lib.hid (HT.out.keep (Keeps.of_below hb))
  clear hb
  simp only
  by_cases he : e0 = 0
  · subst he
    obtain ⟨hv, hn3, ha12, hu⟩ := HU.out rfl
    have ha := HA.out rfl
    clear HU HA
    have HF2 := Lib.hid (HF.out.trans (if_neg (by simp)))
    clear HF
    have hsw := HZ.out.blk.lt
    have hv1 := hv.s1
    have hv2 := hv.s2
    have hv4 := hv.n2
    by_cases hne : l = []
    · have hok : OkL l := ⟨by rw [hne]; exact Nat.zero_le _, fun x hx => by rw [hne] at hx; cases hx⟩
      have HE := Lib.hid (HF2.out.trans (if_neg (fun e => e hok)) |>.trans (if_pos hne))
      clear hok
      have hl0 : l.length = 0 := by rw [hne]; rfl
      rw [hl0]
      clear HF2 hne hl0 HT hlm hlc ha12 hu ha hn3 hv
      obtain ⟨q0, q1, q2, q3, _⟩ := HV.out.facts
      obtain ⟨t0, t1, t2, t3, r0, r1, r2, r3⟩ := HZ.out.facts
      simp only [noDisk, List.length_nil] at t0 t1 t2 t3
      have VR := Lib.hid (HZ.out.assign HV.out.dk)
      have KR := Lib.hid (put4_below (A := A) (c := c) (P := P) (cp := cp) (d := d) KB.out (show W.heap.size ≤ W.heap.size + 1 by omega))
      go_wp2
      change bodyPost _ _ _ _ _ (put4 w2 (W.heap.size + 1) A c P cp d)
      obtain ⟨k0, k1, k2, k3, _⟩ := VR.out.facts
      clear q0 q1 q2 q3 t0 t1 t2 t3 r0 r1 r2 r3
      generalize put4 w2 (W.heap.size + 1) A c P cp d = wx at *
      exact bodyPost_ret (v := .tuple #[.agg #[.int .i64 d.size, .slice A d.secs.length c, .slice P d.pend.length cp, .int .i64 d.left], .int .i64 0]) (by simp [results, Try.results15, go_sem, k0, k1, k2, k3]) rfl (by rw [HE.out]; exact ⟨_, _, rfl, VR.out.dk, KR.out⟩)
    · have hl1 : ¬ (l.length : Int) = 0 := by
        intro e
        exact hne (List.length_eq_zero_iff.1 (by omega))
      have CF := rFrame_any w2 lA lc l HT.out hbig (strB [0]) (by rw [strB_size]; rfl) d.size.toNat (by omega) (by omega)
      rw [show ((d.size.toNat : Nat) : Int) = d.size by omega] at CF
      by_cases hok : OkL l
      · have hS0 := frS_siz l (sz := d.size.toNat)
        have hfE : frE (strB [0]) l d.size.toNat = (strB ((flX 0 (frS l d.size.toNat)).flatMap bts), 0) := by
          unfold frE
          rw [if_neg hne, if_neg (fun e => e hok), frZ_eq hne (by omega)]
        rw [hfE] at CF
        simp only at CF
        have hX := flX_siz (x := 0) (show 1 ≤ d.size.toNat by omega) hS0 (frS_ne hne (by omega))
        have hXl := flX_len (x := 0) (frS_ne hne (show 1 ≤ d.size.toNat by omega))
        have hfs := flat_size hX
        have hflag := flag_on hne (show 1 ≤ d.size.toNat by omega)
        have hhd := frS_hd_size hne (show 1 ≤ d.size.toNat by omega)
        have hpos := frS_pos hne (show 1 ≤ d.size.toNat by omega)
        have HF3 := HF2.out.trans (if_neg (fun e => e hok)) |>.trans (if_neg hne)
        unfold appW at HF3
        rw [← flX_zero] at HF3
        have hbigS : (frS l d.size.toNat).length ≤ 200000000 := by
          rw [frS_len hne]
          exact need_le (by omega) (by have := frB_len hok; have : 1 ≤ d.size.toNat := by omega
                                       have := Nat.mul_le_mul_left 200000000 this; omega)
        obtain ⟨S, hS⟩ : ∃ S, S = frS l d.size.toNat := ⟨_, rfl⟩
        rw [← hS] at HF3 hX hXl hfs hflag hhd hpos CF hbigS
        obtain ⟨FR, hFR⟩ : ∃ x, x = strB ((flX 0 S).flatMap bts) := ⟨_, rfl⟩
        have HRF := Lib.hid hFR
        rw [← hFR] at CF hfs hflag
        rw [hXl] at hfs
        obtain ⟨hf, hhf⟩ : ∃ x, x = halfN d.secs.length := ⟨_, rfl⟩
        obtain ⟨h1, h2⟩ := half_bd hn3
        have CH := Lib.hid (fun w vs vp h => rhalf_any w vs vp d h)
        have CA := Lib.hid (fun w vs vp h => ractive_any w vs vp d h hv hn3)
        rw [ha] at CA
        have hfS : firstS d.secs.length a0 = 1 + (a0 - 1) * halfN d.secs.length := rfl
        rw [← hhf] at h1 h2 hu HF3 CH hfS
        have HFI := Lib.hid hfS
        replace CF := Lib.hid CF
        have hfb : FR.size ≤ 200000000 * 512 := by rw [hfs]; exact Nat.mul_le_mul hbigS (by omega)
        have HFS := Lib.hid hfs
        have HFL := Lib.hid hflag
        have HX2 := Lib.hid hX
        have HHS := Lib.hid hhd
        replace HF3 := Lib.hid HF3
        have HXL := Lib.hid hXl
        obtain ⟨room, hroom⟩ : ∃ x, x = hf - u := ⟨_, rfl⟩
        have hrB : hf ≤ 1000 := by omega
        have huB : u ≤ 1000 := by omega
        have hri : (hf : Int) - (u : Int) = (room : Int) := by omega
        have HRI := Lib.hid hri
        have hq : FR.size / d.size.toNat = S.length := by rw [hfs]; exact Nat.mul_div_cancel _ (by omega)
        have HQ : Hid ((FR.size : Int).tdiv d.size = (S.length : Int)) := by
          show _ = _
          rw [← hq, Int.tdiv_eq_ediv_of_nonneg (by omega), show d.size = ((d.size.toNat : Nat) : Int) by omega]
          rfl
        have hdz : ¬ d.size = 0 := by omega
        clear hfS hfE hS0 HF2 HT hFR hfs hflag hX hXl hhd hhf hri hq hS hlm hlc hne hok hbig
        obtain ⟨q0, q1, q2, q3, _⟩ := HV.out.facts
        go_wp2_with fail
        refine CF.out.mono ?_
        rintro e w3 ⟨rfl, hb⟩
        clear CF q0 q1 q2 q3
        replace HV := Lib.hid (HV.out.keep hb)
        replace HZ := Lib.hid (HZ.out.keep hb)
        replace KB := Lib.hid (KB.out.trans (hb.mono KB.out.size))
        replace hsw := Nat.lt_of_lt_of_le hsw hb.size
        clear hb
        obtain ⟨q0, q1, q2, q3, _⟩ := HV.out.facts
        go_wp2_with fail
        refine (CH.out _ _ _ HV.out.dk).mono ?_
        rintro e w4 ⟨rfl, hb⟩
        clear q0 q1 q2 q3
        replace HV := Lib.hid (HV.out.keep hb)
        replace HZ := Lib.hid (HZ.out.keep hb)
        replace KB := Lib.hid (KB.out.trans (hb.mono KB.out.size))
        replace hsw := Nat.lt_of_lt_of_le hsw hb.size
        clear hb
        go_upto_region 10 with (fail)
        simp only [HRI.out]
        obtain ⟨q0, q1, q2, q3, _⟩ := HV.out.facts
        have hq' := HQ.out
        by_cases hfit : S.length ≤ room
        · have hc : ¬ (room : Int) < (S.length : Int) := by omega
          have HE := HF3.out.trans (if_neg (by omega))
          obtain ⟨pr, hpr⟩ : ∃ x, x = (a0 - 1) * hf := ⟨_, rfl⟩
          have hprb : pr + hf + 1 ≤ d.secs.length := by
            rw [hpr]; rcases ha12 with rfl | rfl <;> omega
          have HPR : Hid (((a0 - 1 : Nat) : Int) * (hf : Int) = (pr : Int)) := by show _ = _; rw [hpr, Int.natCast_mul]
          obtain ⟨at_, hat⟩ : ∃ x, x = 1 + pr + u := ⟨_, rfl⟩
          have hfi := HFI.out
          rw [← hpr] at hfi
          rw [show firstS d.secs.length a0 + u = at_ by rw [hfi, hat], fillO_fillR (r := room) (show firstS d.secs.length a0 + hf = at_ + room by rw [hfi, hat]; omega)] at HE
          have hL2 := fillR_siz (room := room) HX2.out
          have hL2l := fillR_len (sz := d.size.toNat) (show (flX 0 S).length ≤ room by rw [HXL.out]; exact hfit)
          have hfrs : FR.size ≤ 1000 * 512 := by rw [HFS.out]; exact Nat.mul_le_mul (by omega) (by omega)
          have CE := fun w => rended_any FR d.size.toNat (room : Int) (by omega) (by omega) (by omega) (by omega) w
          have hef := end_fill (L := flX 0 S) (room := room) (show 1 ≤ d.size.toNat by omega) HX2.out
          rw [← HRF.out] at hef
          rw [hef, show ((d.size.toNat : Nat) : Int) = d.size by omega] at CE
          obtain ⟨L2, hL2e⟩ : ∃ x, x = fillR (flX 0 S) d.size.toNat room := ⟨_, rfl⟩
          rw [← hL2e] at HE hL2 hL2l CE
          have hfz := flat_size hL2
          have hcf := chkB_flat hL2
          obtain ⟨FE, hFE⟩ : ∃ x, x = strB (L2.flatMap bts) := ⟨_, rfl⟩
          rw [← hFE] at CE hfz hcf
          have hatm : at_ + L2.length ≤ d.secs.length := by omega
          have CW := Lib.hid (fun w vs vp h => rwr_any w vs vp d h hv at_ L2.length FE hfz hatm (by omega))
          rw [hcf] at CW
          rw [show twoO (wrO at_ L2) (at_, hd0 S) = ((wrO at_ L2).map some ++ [none]) ++ [some (at_, hd0 S), none] by simp [twoO], runD_append] at HE
          have kp := runD_keep ((wrO at_ L2).map some ++ [none]) d hv (by
            intro w hw
            rcases List.mem_append.1 hw with hw | hw
            · obtain ⟨w', hw', e⟩ := List.mem_map.1 hw
              obtain rfl := Option.some.inj e
              obtain ⟨g1, g2, g3⟩ := wrO_mem L2 at_ w' hw'
              have := hL2 _ g3
              exact ⟨by omega, by omega⟩
            · simp at hw)
          have hlen : ((wrO at_ L2).map some ++ [none]).length ≤ 1001 := by
            rw [List.length_append, List.length_map, wrO_length]; simp only [List.length_cons, List.length_nil]; omega
          obtain ⟨r2, hr2⟩ : ∃ r, r = runD d ((wrO at_ L2).map some ++ [none]) := ⟨_, rfl⟩
          rw [← hr2] at HE kp CW
          clear hr2
          obtain ⟨D2, N2⟩ := r2
          simp only at HE kp CW
          have HE := Lib.hid HE
          have HKP := Lib.hid kp
          have HAT : Hid (at_ = 1 + pr + u) := hat
          have CE := Lib.hid CE
          have HP := Lib.hid hpn
          have HLN := Lib.hid hlen
          have hatb : at_ < d.secs.length := by omega
          have ha0 : 1 ≤ a0 ∧ a0 ≤ 2 := by omega
          obtain ⟨ha0a, ha0b⟩ := ha0
          clear kp HF3 HQ hef hL2e hL2 hL2l hFE hfz hcf hatm hfi hpr hat hlen hv hpn HRI HFI HXL HX2 HRF hroom
          go_upto_region 12 with (fail)
          clear q0 q1 q2 q3 hq' hc
          have HDR : Hid (Below w4.heap.size w4 w4.drew) := below_drew1 (Below.refl _ _)
          refine prom_start (by kernel_rfl) 10 (fun i v w => match i with
            | 0 => v = .agg #[.int .i64 d.size, .slice A d.secs.length c, .slice P d.pend.length cp, .int .i64 d.left]
            | 1 => v = .int .i64 (a0 : Int)
            | 2 => v = .int .i64 ((a0 - 1 : Nat) : Int)
            | 3 => v = .agg #[.int .i64 d.size, .slice A d.secs.length c, .slice P d.pend.length cp, .int .i64 d.left]
            | 4 => v = .int .i64 (hf : Int)
            | 5 => v = .int .i64 (pr : Int)
            | 6 => v = .int .i64 ((1 + pr : Nat) : Int)
            | 7 => v = .int .i64 (u : Int)
            | 8 => v = .int .i64 (at_ : Int)
            | _ => v = .int .i64 (at_ : Int)) 0 (by kernel_rfl) (fun i v w w' h hb => ?_) ?_ ?_
          · match i, h with
            | 0, h => exact h
            | 1, h => exact h
            | 2, h => exact h
            | 3, h => exact h
            | 4, h => exact h
            | 5, h => exact h
            | 6, h => exact h
            | 7, h => exact h
            | 8, h => exact h
            | 9, h => exact h
            | _ + 10, h => exact h
          · rintro i o hi ho a w1 hdf hlen hold hbel hdep K hK
            clear hdf
            have hV := (HV.out.keep HDR.out).keep hbel
            obtain ⟨q0, q1, q2, q3, _⟩ := hV.facts
            have s2 : a.tmps.getD 2 undef = .pointer (some ⟨W.heap.size, 0, none⟩) := by
              rw [Array.getD_eq_getD_getElem?, hold 2 ?_]
              · rfl
              · intro j hj
                have : j = 0 ∨ j = 1 ∨ j = 2 ∨ j = 3 ∨ j = 4 ∨ j = 5 ∨ j = 6 ∨ j = 7 ∨ j = 8 ∨ j = 9 := by omega
                rcases this with rfl | rfl | rfl | rfl | rfl | rfl | rfl | rfl | rfl | rfl <;> decide
            have s7 : a.tmps.getD 7 undef = .int .i64 (u : Int) := by
              rw [Array.getD_eq_getD_getElem?, hold 7 ?_]
              · rfl
              · intro j hj
                have : j = 0 ∨ j = 1 ∨ j = 2 ∨ j = 3 ∨ j = 4 ∨ j = 5 ∨ j = 6 ∨ j = 7 ∨ j = 8 ∨ j = 9 := by omega
                rcases this with rfl | rfl | rfl | rfl | rfl | rfl | rfl | rfl | rfl | rfl <;> decide
            have hi' : i = 0 ∨ i = 1 ∨ i = 2 ∨ i = 3 ∨ i = 4 ∨ i = 5 ∨ i = 6 ∨ i = 7 ∨ i = 8 ∨ i = 9 := by omega
            rcases hi' with rfl | rfl | rfl | rfl | rfl | rfl | rfl | rfl | rfl | rfl
            · obtain rfl := Option.some.inj ho
              unfold Oper.wp
              simp only [execOp, Act.eval, s2]
              go_simp
              exact hK _ w1 rfl (Below.refl _ _)
            · obtain rfl := Option.some.inj ho
              have e50 := hdep 0 50 (by omega) (by kernel_rfl) (by kernel_rfl)
              simp only at e50
              unfold Oper.wp
              simp only [execOp, Act.eval, e50]
              go_simp
              refine (CA.out w1 _ _ hV.dk).mono ?_
              rintro e' w4 ⟨rfl, hb4⟩
              exact hK _ w4 rfl hb4
            · obtain rfl := Option.some.inj ho
              have e51 := hdep 1 51 (by omega) (by kernel_rfl) (by kernel_rfl)
              simp only at e51
              unfold Oper.wp
              simp only [execOp, Act.eval, e51]
              go_simp
              exact hK _ w1 (by simp only; rw [i64w (by omega) (by omega)]; exact congrArg (Value.int .i64) (by omega)) (Below.refl _ _)
            · obtain rfl := Option.some.inj ho
              unfold Oper.wp
              simp only [execOp, Act.eval, s2]
              go_simp
              exact hK _ w1 rfl (Below.refl _ _)
            · obtain rfl := Option.some.inj ho
              have e53 := hdep 3 53 (by omega) (by kernel_rfl) (by kernel_rfl)
              simp only at e53
              unfold Oper.wp
              simp only [execOp, Act.eval, e53]
              go_simp
              refine (CH.out w1 _ _ hV.dk).mono ?_
              rintro e' w4 ⟨rfl, hb4⟩
              exact hK _ w4 rfl hb4
            · obtain rfl := Option.some.inj ho
              have e52 := hdep 2 52 (by omega) (by kernel_rfl) (by kernel_rfl)
              simp only at e52
              have e54 := hdep 4 54 (by omega) (by kernel_rfl) (by kernel_rfl)
              simp only at e54
              unfold Oper.wp
              simp only [execOp, Act.eval, e52, e54]
              go_simp
              exact hK _ w1 (by simp only; rw [HPR.out, i64w (by omega) (by omega)]) (Below.refl _ _)
            · obtain rfl := Option.some.inj ho
              have e55 := hdep 5 55 (by omega) (by kernel_rfl) (by kernel_rfl)
              simp only at e55
              unfold Oper.wp
              simp only [execOp, Act.eval, e55]
              go_simp
              exact hK _ w1 (by simp only; rw [i64w (by omega) (by omega)]; exact congrArg (Value.int .i64) (by omega)) (Below.refl _ _)
            · obtain rfl := Option.some.inj ho
              unfold Oper.wp
              simp only [execOp, Act.eval, s7]
              go_simp
              exact hK _ w1 rfl (Below.refl _ _)
            · obtain rfl := Option.some.inj ho
              have e56 := hdep 6 56 (by omega) (by kernel_rfl) (by kernel_rfl)
              simp only at e56
              have e57 := hdep 7 57 (by omega) (by kernel_rfl) (by kernel_rfl)
              simp only at e57
              unfold Oper.wp
              simp only [execOp, Act.eval, e56, e57]
              go_simp
              exact hK _ w1 (by simp only; rw [i64w (by omega) (by omega)]; exact congrArg (Value.int .i64) (by have := HAT.out; omega)) (Below.refl _ _)
            · obtain rfl := Option.some.inj ho
              have e58 := hdep 8 58 (by omega) (by kernel_rfl) (by kernel_rfl)
              simp only at e58
              unfold Oper.wp
              simp only [execOp, Act.eval, e58]
              go_simp
              exact hK _ w1 rfl (Below.refl _ _)
          · rintro a w1 hdf hlen hold hbel hnew
            have e11 := hnew 9 11 (by omega) (by kernel_rfl)
            simp only at e11
            have hact := act_eq [50, 51, 52, 53, 54, 55, 56, 57, 58, 11] hdf hlen (fun t ht => hold t (fun j hj hd => by
              have : j = 0 ∨ j = 1 ∨ j = 2 ∨ j = 3 ∨ j = 4 ∨ j = 5 ∨ j = 6 ∨ j = 7 ∨ j = 8 ∨ j = 9 := by omega
              rcases this with rfl | rfl | rfl | rfl | rfl | rfl | rfl | rfl | rfl | rfl <;> (obtain rfl := Option.some.inj hd; exact ht (by decide))))
            simp only [List.foldl, e11, List.setIfInBounds_toArray, List.set_cons_zero, List.set_cons_succ] at hact
            clear hdf hlen hold hnew e11
            generalize a.tmps.getD 50 undef = u50 at hact
            generalize a.tmps.getD 51 undef = u51 at hact
            generalize a.tmps.getD 52 undef = u52 at hact
            generalize a.tmps.getD 53 undef = u53 at hact
            generalize a.tmps.getD 54 undef = u54 at hact
            generalize a.tmps.getD 55 undef = u55 at hact
            generalize a.tmps.getD 56 undef = u56 at hact
            generalize a.tmps.getD 57 undef = u57 at hact
            generalize a.tmps.getD 58 undef = u58 at hact
            subst hact
            have kd := HDR.out.trans (hbel.mono (Nat.le_refl _))
            replace HV := Lib.hid (HV.out.keep kd)
            replace HZ := Lib.hid (HZ.out.keep kd)
            replace KB := Lib.hid (KB.out.trans (kd.mono KB.out.size))
            replace hsw := Nat.lt_of_lt_of_le hsw kd.size
            clear kd hbel HDR CA CH HPR
            refine AtS.done (by kernel_rfl) (NoPanic.normal ?_)
            go_upto_region 13 with (fail)
            have HDR : Hid (Below w1.heap.size w1 w1.drew) := below_drew1 (Below.refl _ _)
            generalize w1 = w2 at *
            refine prom_start3 (by kernel_rfl) 12 10 [9] (fun i v w => match i with
              | 0 => v = .agg #[.int .i64 d.size, .slice A d.secs.length c, .slice P d.pend.length cp, .int .i64 d.left]
              | 1 => v = .int .i64 (at_ : Int)
              | 2 => v = .string FR
              | 3 => v = .pointer (some ⟨W.heap.size, 0, none⟩)
              | 4 => v = .int .i64 d.size
              | 5 => v = .int .i64 (room : Int)
              | 6 => v = .string FE
              | 7 => ∃ vs2 vp2, v = .tuple #[.agg #[.int .i64 D2.size, vs2, vp2, .int .i64 D2.left], .int .i64 N2] ∧ DskP w vs2 vp2 D2
              | 8 => ∃ vs2 vp2, v = .tuple #[.agg #[.int .i64 D2.size, vs2, vp2, .int .i64 D2.left], .int .i64 N2] ∧ DskP w vs2 vp2 D2
              | 9 => ∃ vs2 vp2, v = .agg #[.int .i64 D2.size, vs2, vp2, .int .i64 D2.left] ∧ DskP w vs2 vp2 D2
              | 10 => v = .int .i64 N2
              | _ => ∃ b, v = .pointer (some ⟨b, 0, none⟩) ∧ Var w b none 0 none 0 noDisk ∧ W.heap.size + 2 ≤ b)  (by kernel_rfl) (fun i v w w' h hb => ?_) ?_ ?_ ?_
            · match i, h with
              | 0, h => exact h
              | 1, h => exact h
              | 2, h => exact h
              | 3, h => exact h
              | 4, h => exact h
              | 5, h => exact h
              | 6, h => exact h
              | 7, h => exact (let ⟨vs2, vp2, e, hp⟩ := h; ⟨vs2, vp2, e, hp.keep (Keeps.of_below hb)⟩)
              | 8, h => exact (let ⟨vs2, vp2, e, hp⟩ := h; ⟨vs2, vp2, e, hp.keep (Keeps.of_below hb)⟩)
              | 9, h => exact (let ⟨vs2, vp2, e, hp⟩ := h; ⟨vs2, vp2, e, hp.keep (Keeps.of_below hb)⟩)
              | 10, h => exact h
              | 11, h => exact (let ⟨b, e, hp, hq⟩ := h; ⟨b, e, hp.keep hb, hq⟩)
              | _ + 12, h => exact (let ⟨b, e, hp, hq⟩ := h; ⟨b, e, hp.keep hb, hq⟩)
            · rintro i o hi hix ho a w1 hdf hlen hold hbel hdep K hK
              clear hdf
              have hix2 : ∀ {A : Prop}, i = 10 → A := fun e => absurd e hix
              clear hix
              have hV := (HV.out.keep HDR.out).keep hbel
              obtain ⟨q0, q1, q2, q3, _⟩ := hV.facts
              have s2 : a.tmps.getD 2 undef = .pointer (some ⟨W.heap.size, 0, none⟩) := by
                rw [Array.getD_eq_getD_getElem?, hold 2 ?_]
                · rfl
                · intro j hj
                  have : j = 0 ∨ j = 1 ∨ j = 2 ∨ j = 3 ∨ j = 4 ∨ j = 5 ∨ j = 6 ∨ j = 7 ∨ j = 8 ∨ j = 9 ∨ j = 10 ∨ j = 11 := by omega
                  rcases this with rfl | rfl | rfl | rfl | rfl | rfl | rfl | rfl | rfl | rfl | rfl | rfl <;> decide
              have s9 : a.tmps.getD 9 undef = .string FR := by
                rw [Array.getD_eq_getD_getElem?, hold 9 ?_]
                · rfl
                · intro j hj
                  have : j = 0 ∨ j = 1 ∨ j = 2 ∨ j = 3 ∨ j = 4 ∨ j = 5 ∨ j = 6 ∨ j = 7 ∨ j = 8 ∨ j = 9 ∨ j = 10 ∨ j = 11 := by omega
                  rcases this with rfl | rfl | rfl | rfl | rfl | rfl | rfl | rfl | rfl | rfl | rfl | rfl <;> decide
              have s10 : a.tmps.getD 10 undef = .int .i64 (room : Int) := by
                rw [Array.getD_eq_getD_getElem?, hold 10 ?_]
                · rfl
                · intro j hj
                  have : j = 0 ∨ j = 1 ∨ j = 2 ∨ j = 3 ∨ j = 4 ∨ j = 5 ∨ j = 6 ∨ j = 7 ∨ j = 8 ∨ j = 9 ∨ j = 10 ∨ j = 11 := by omega
                  rcases this with rfl | rfl | rfl | rfl | rfl | rfl | rfl | rfl | rfl | rfl | rfl | rfl <;> decide
              have s11 : a.tmps.getD 11 undef = .int .i64 (at_ : Int) := by
                rw [Array.getD_eq_getD_getElem?, hold 11 ?_]
                · rfl
                · intro j hj
                  have : j = 0 ∨ j = 1 ∨ j = 2 ∨ j = 3 ∨ j = 4 ∨ j = 5 ∨ j = 6 ∨ j = 7 ∨ j = 8 ∨ j = 9 ∨ j = 10 ∨ j = 11 := by omega
                  rcases this with rfl | rfl | rfl | rfl | rfl | rfl | rfl | rfl | rfl | rfl | rfl | rfl <;> decide
              have hi' : i = 0 ∨ i = 1 ∨ i = 2 ∨ i = 3 ∨ i = 4 ∨ i = 5 ∨ i = 6 ∨ i = 7 ∨ i = 8 ∨ i = 9 ∨ i = 10 ∨ i = 11 := by omega
              rcases hi' with rfl | rfl | rfl | rfl | rfl | rfl | rfl | rfl | rfl | rfl | rfl | rfl
              · clear hix2; obtain rfl := Option.some.inj ho
                unfold Oper.wp
                simp only [execOp, Act.eval, s2]
                go_simp
                exact hK _ w1 rfl (Below.refl _ _)
              · clear hix2; obtain rfl := Option.some.inj ho
                unfold Oper.wp
                simp only [execOp, Act.eval, s11]
                go_simp
                exact hK _ w1 rfl (Below.refl _ _)
              · clear hix2; obtain rfl := Option.some.inj ho
                unfold Oper.wp
                simp only [execOp, Act.eval, s9]
                go_simp
                exact hK _ w1 rfl (Below.refl _ _)
              · clear hix2; obtain rfl := Option.some.inj ho
                unfold Oper.wp
                simp only [execOp, Act.eval, s2]
                go_simp
                exact hK _ w1 rfl (Below.refl _ _)
              · clear hix2; obtain rfl := Option.some.inj ho
                have e63 := hdep 3 63 (by omega) (by kernel_rfl) (by kernel_rfl)
                simp only at e63
                unfold Oper.wp
                simp only [execOp, Act.eval, e63]
                go_simp
                exact hK _ w1 rfl (Below.refl _ _)
              · clear hix2; obtain rfl := Option.some.inj ho
                unfold Oper.wp
                simp only [execOp, Act.eval, s10]
                go_simp
                exact hK _ w1 rfl (Below.refl _ _)
              · clear hix2; obtain rfl := Option.some.inj ho
                have e62 := hdep 2 62 (by omega) (by kernel_rfl) (by kernel_rfl)
                simp only at e62
                have e64 := hdep 4 64 (by omega) (by kernel_rfl) (by kernel_rfl)
                simp only at e64
                have e65 := hdep 5 65 (by omega) (by kernel_rfl) (by kernel_rfl)
                simp only at e65
                unfold Oper.wp
                simp only [execOp, Act.eval, e62, e64, e65]
                go_simp
                refine (CE.out w1).mono ?_
                rintro e' w4 ⟨rfl, hb4⟩
                exact hK _ w4 rfl hb4
              · clear hix2; obtain rfl := Option.some.inj ho
                have e60 := hdep 0 60 (by omega) (by kernel_rfl) (by kernel_rfl)
                simp only at e60
                have e61 := hdep 1 61 (by omega) (by kernel_rfl) (by kernel_rfl)
                simp only at e61
                have e66 := hdep 6 66 (by omega) (by kernel_rfl) (by kernel_rfl)
                simp only at e66
                unfold Oper.wp
                simp only [execOp, Act.eval, e60, e61, e66]
                go_simp
                refine (CW.out w1 _ _ hV.dk).mono ?_
                rintro e' w4 ⟨vs4, vp4, rfl, hv4, hb4⟩
                exact hK _ w4 ⟨vs4, vp4, rfl, hv4⟩ hb4
              · clear hix2; obtain rfl := Option.some.inj ho
                have e67 := hdep 7 67 (by omega) (by kernel_rfl) (by kernel_rfl)
                simp only at e67
                obtain ⟨vs2, vp2, hx67, ht67⟩ := e67
                unfold Oper.wp
                simp only [execOp, Act.eval, hx67]
                go_simp
                exact hK _ w1 ⟨vs2, vp2, rfl, ht67⟩ (Below.refl _ _)
              · clear hix2; obtain rfl := Option.some.inj ho
                have e59 := hdep 8 59 (by omega) (by kernel_rfl) (by kernel_rfl)
                simp only at e59
                obtain ⟨vs2, vp2, hx59, ht59⟩ := e59
                unfold Oper.wp
                simp only [execOp, Act.eval, hx59]
                go_simp
                exact hK _ w1 ⟨vs2, vp2, rfl, ht59⟩ (Below.refl _ _)
              · exact hix2 rfl
              · clear hix2; obtain rfl := Option.some.inj ho
                unfold Oper.wp
                simp only [execOp, Act.eval]
                go_simp
                exact hK _ _ ⟨w1.heap.size, rfl, Var.zero w1, by have := hbel.size; have := HDR.out.size; have := hsw; omega⟩ ((Below.refl _ _).alloc (Nat.le_refl _) _)
            · rintro o ho a w1 hlen hold hbel hdep
              obtain rfl := Option.some.inj ho
              have e59 := hdep 8 59 (by omega) (by kernel_rfl) (by kernel_rfl)
              simp only at e59
              obtain ⟨vs2, vp2, hx59, ht59⟩ := e59
              refine ⟨_, rfl, fun w' => ?_⟩
              simp only [execOp, Act.eval, hx59]
              go_simp
            · rintro a w1 hdf hlen hold hbel hnew
              have e68 := hnew 9 68 (by omega) (by kernel_rfl)
              simp only at e68
              have e69 := hnew 10 69 (by omega) (by kernel_rfl)
              simp only at e69
              have e12 := hnew 11 12 (by omega) (by kernel_rfl)
              simp only at e12
              obtain ⟨vs2, vp2, e68, hd2⟩ := e68
              obtain ⟨bx, e12, hv9, hbx⟩ := e12
              have hact := act_eq [60, 61, 62, 63, 64, 65, 66, 67, 59, 68, 69, 12] hdf hlen (fun t ht => hold t (fun j hj hd => by
                have : j = 0 ∨ j = 1 ∨ j = 2 ∨ j = 3 ∨ j = 4 ∨ j = 5 ∨ j = 6 ∨ j = 7 ∨ j = 8 ∨ j = 9 ∨ j = 10 ∨ j = 11 := by omega
                rcases this with rfl | rfl | rfl | rfl | rfl | rfl | rfl | rfl | rfl | rfl | rfl | rfl <;> (obtain rfl := Option.some.inj hd; exact ht (by decide))))
              simp only [List.foldl, e69, e68, e12, List.setIfInBounds_toArray, List.set_cons_zero, List.set_cons_succ] at hact
              clear hdf hlen hold hnew e69 e68 e12
              generalize a.tmps.getD 60 undef = u60 at hact
              generalize a.tmps.getD 61 undef = u61 at hact
              generalize a.tmps.getD 62 undef = u62 at hact
              generalize a.tmps.getD 63 undef = u63 at hact
              generalize a.tmps.getD 64 undef = u64 at hact
              generalize a.tmps.getD 65 undef = u65 at hact
              generalize a.tmps.getD 66 undef = u66 at hact
              generalize a.tmps.getD 67 undef = u67 at hact
              generalize a.tmps.getD 59 undef = u59 at hact
              subst hact
              have kd := HDR.out.trans (hbel.mono (Nat.le_refl _))
              replace HV := Lib.hid (HV.out.keep kd)
              replace HZ := Lib.hid (HZ.out.keep kd)
              replace KB := Lib.hid (KB.out.trans (kd.mono KB.out.size))
              replace hsw := Nat.lt_of_lt_of_le hsw kd.size
              obtain ⟨A2, c2, P2, cp2, rfl, rfl, _, _, _, _⟩ := hd2.form
              have HX := Lib.hid (hv9.assign hd2)
              replace HV := Lib.hid (HV.out.other (A2 := A2) (c2 := c2) (P2 := P2) (cp2 := cp2) (d2 := D2) hv9 (by omega))
              replace HZ := Lib.hid (HZ.out.other (A2 := A2) (c2 := c2) (P2 := P2) (cp2 := cp2) (d2 := D2) hv9 (by omega))
              replace KB := Lib.hid (put4_below (A := A2) (c := c2) (P := P2) (cp := cp2) (d := D2) KB.out (show W.heap.size ≤ bx by omega))
              obtain ⟨t0, t1, t2, t3, r0, r1, r2, r3⟩ := hv9.facts
              simp only [noDisk, List.length_nil] at t0 t1 t2 t3
              clear hv9 hd2 hbel HDR kd
              replace hsw := HZ.out.blk.lt
              clear CW CE
              refine AtS.late (i := 12) (by simp only [List.getElem?_toArray, List.getElem?_cons_succ, List.getElem?_cons_zero]; rfl) (by kernel_rfl) (by kernel_rfl) (by kernel_rfl) ?_
              intro K hK
              go_simp
              refine hK _ _ ?_
              clear hK K
              change AtS _ _ _ _ _ _ _ _ _ (put4 w1 bx A2 c2 P2 cp2 D2)
              clear t0 t1 t2 t3 r0 r1 r2 r3
              generalize put4 w1 bx A2 c2 P2 cp2 D2 = w5 at *
              refine AtS.late (i := 13) (by simp only [List.getElem?_toArray, List.getElem?_cons_succ, List.getElem?_cons_zero]; rfl) (by kernel_rfl) (by kernel_rfl) (by kernel_rfl) ?_
              intro K hK
              go_simp
              refine hK _ _ (AtS.done (by kernel_rfl) (NoPanic.normal ?_))
              clear hK K
              go_upto_region 14 with (fail)
              obtain ⟨e2, z1, z2, z3, z4⟩ := HKP.out
              rcases e2 with e2 | e2
              · subst e2
                obtain ⟨A3, c3, P3, cp3, HX, hbx⟩ : ∃ A3 c3 P3 cp3, Hid (Var w5 bx A3 c3 P3 cp3 D2) ∧ W.heap.size + 2 ≤ bx := ⟨_, _, _, _, HX, hbx⟩
                have HE3 := Lib.hid (HE.out.trans (if_neg (by simp)))
                have hsz2 : D2.size.toNat = d.size.toNat := by rw [z2]
                have hpl := HLN.out
                have hpn := HP.out
                have CW := Lib.hid (fun w vs vp h => rwr_any w vs vp D2 h z1 at_ 1 (hd0 S) (by rw [hsz2, Nat.one_mul]; exact HHS.out) (by rw [z3]; omega) (by omega))
                rw [hsz2, chkB_one HHS.out, show (wrO at_ [hd0 S]).map some ++ [none] = [some (at_, hd0 S), none] from rfl] at CW
                obtain ⟨r4, hr4⟩ : ∃ r, r = runD D2 [some (at_, hd0 S), none] := ⟨_, rfl⟩
                rw [← hr4] at HE3 CW
                clear hr4
                obtain ⟨D3, N3⟩ := r4
                simp only at HE3 CW
                have hfz := HFS.out
                have hsf : d.size.toNat ≤ FR.size := by rw [hfz]; exact Nat.le_mul_of_pos_left _ (by omega)
                have hsfi : d.size ≤ (FR.size : Int) := by omega
                have hhl := HFL.out
                obtain ⟨HD, hHD⟩ : ∃ x, x = hd0 S := ⟨_, rfl⟩
                rw [← hHD] at CW hhl
                obtain ⟨CH, hCH⟩ : ∃ x, x = FR.extract 1 d.size.toNat := ⟨_, rfl⟩
                rw [← hCH] at hhl
                have HCH := Lib.hid hCH
                have HHD := Lib.hid hhl
                have hcz : ¬ 9223372036854775807 < 1 + CH.size := by rw [hCH, ByteArray.size_extract]; omega
                clear z1 z2 z3 z4 HKP HE hsz2 hHD hCH hhl hfz hpl hpn HP HLN HFS HFL HHS
                go_upto_region 16 with (fail)
                have HDR : Hid (Below w5.heap.size w5 w5.drew) := below_drew1 (Below.refl _ _)
                generalize w5 = w2 at *
                refine prom_start3 (by kernel_rfl) 10 9 [8] (fun i v w => match i with
                  | 0 => v = .agg #[.int .i64 D2.size, .slice A3 D2.secs.length c3, .slice P3 D2.pend.length cp3, .int .i64 D2.left]
                  | 1 => v = .int .i64 (at_ : Int)
                  | 2 => v = .string FR
                  | 3 => v = .pointer (some ⟨W.heap.size, 0, none⟩)
                  | 4 => v = .int .i64 d.size
                  | 5 => v = .string CH
                  | 6 => v = .string HD
                  | 7 => ∃ vs2 vp2, v = .tuple #[.agg #[.int .i64 D3.size, vs2, vp2, .int .i64 D3.left], .int .i64 N3] ∧ DskP w vs2 vp2 D3
                  | 8 => ∃ vs2 vp2, v = .agg #[.int .i64 D3.size, vs2, vp2, .int .i64 D3.left] ∧ DskP w vs2 vp2 D3
                  | _ => v = .int .i64 N3)  (by kernel_rfl) (fun i v w w' h hb => ?_) ?_ ?_ ?_
                · match i, h with
                  | 0, h => exact h
                  | 1, h => exact h
                  | 2, h => exact h
                  | 3, h => exact h
                  | 4, h => exact h
                  | 5, h => exact h
                  | 6, h => exact h
                  | 7, h => exact (let ⟨vs2, vp2, e, hp⟩ := h; ⟨vs2, vp2, e, hp.keep (Keeps.of_below hb)⟩)
                  | 8, h => exact (let ⟨vs2, vp2, e, hp⟩ := h; ⟨vs2, vp2, e, hp.keep (Keeps.of_below hb)⟩)
                  | 9, h => exact h
                  | _ + 10, h => exact h
                · rintro i o hi hix ho a w1 hdf hlen hold hbel hdep K hK
                  clear hdf
                  have hix2 : ∀ {A : Prop}, i = 9 → A := fun e => absurd e hix
                  clear hix
                  have hV := (HV.out.keep HDR.out).keep hbel
                  obtain ⟨q0, q1, q2, q3, _⟩ := hV.facts
                  have hX := (HX.out.keep HDR.out).keep hbel
                  obtain ⟨x0, x1, x2, x3, _⟩ := hX.facts
                  have s2 : a.tmps.getD 2 undef = .pointer (some ⟨W.heap.size, 0, none⟩) := by
                    rw [Array.getD_eq_getD_getElem?, hold 2 ?_]
                    · rfl
                    · intro j hj
                      have : j = 0 ∨ j = 1 ∨ j = 2 ∨ j = 3 ∨ j = 4 ∨ j = 5 ∨ j = 6 ∨ j = 7 ∨ j = 8 ∨ j = 9 := by omega
                      rcases this with rfl | rfl | rfl | rfl | rfl | rfl | rfl | rfl | rfl | rfl <;> decide
                  have s9 : a.tmps.getD 9 undef = .string FR := by
                    rw [Array.getD_eq_getD_getElem?, hold 9 ?_]
                    · rfl
                    · intro j hj
                      have : j = 0 ∨ j = 1 ∨ j = 2 ∨ j = 3 ∨ j = 4 ∨ j = 5 ∨ j = 6 ∨ j = 7 ∨ j = 8 ∨ j = 9 := by omega
                      rcases this with rfl | rfl | rfl | rfl | rfl | rfl | rfl | rfl | rfl | rfl <;> decide
                  have s11 : a.tmps.getD 11 undef = .int .i64 (at_ : Int) := by
                    rw [Array.getD_eq_getD_getElem?, hold 11 ?_]
                    · rfl
                    · intro j hj
                      have : j = 0 ∨ j = 1 ∨ j = 2 ∨ j = 3 ∨ j = 4 ∨ j = 5 ∨ j = 6 ∨ j = 7 ∨ j = 8 ∨ j = 9 := by omega
                      rcases this with rfl | rfl | rfl | rfl | rfl | rfl | rfl | rfl | rfl | rfl <;> decide
                  have s12 : a.tmps.getD 12 undef = .pointer (some ⟨bx, 0, none⟩) := by
                    rw [Array.getD_eq_getD_getElem?, hold 12 ?_]
                    · rfl
                    · intro j hj
                      have : j = 0 ∨ j = 1 ∨ j = 2 ∨ j = 3 ∨ j = 4 ∨ j = 5 ∨ j = 6 ∨ j = 7 ∨ j = 8 ∨ j = 9 := by omega
                      rcases this with rfl | rfl | rfl | rfl | rfl | rfl | rfl | rfl | rfl | rfl <;> decide
                  have hi' : i = 0 ∨ i = 1 ∨ i = 2 ∨ i = 3 ∨ i = 4 ∨ i = 5 ∨ i = 6 ∨ i = 7 ∨ i = 8 ∨ i = 9 := by omega
                  rcases hi' with rfl | rfl | rfl | rfl | rfl | rfl | rfl | rfl | rfl | rfl
                  · clear hix2; obtain rfl := Option.some.inj ho
                    unfold Oper.wp
                    simp only [execOp, Act.eval, s12]
                    go_simp
                    exact hK _ w1 rfl (Below.refl _ _)
                  · clear hix2; obtain rfl := Option.some.inj ho
                    unfold Oper.wp
                    simp only [execOp, Act.eval, s11]
                    go_simp
                    exact hK _ w1 rfl (Below.refl _ _)
                  · clear hix2; obtain rfl := Option.some.inj ho
                    unfold Oper.wp
                    simp only [execOp, Act.eval, s9]
                    go_simp
                    exact hK _ w1 rfl (Below.refl _ _)
                  · clear hix2; obtain rfl := Option.some.inj ho
                    unfold Oper.wp
                    simp only [execOp, Act.eval, s2]
                    go_simp
                    exact hK _ w1 rfl (Below.refl _ _)
                  · clear hix2; obtain rfl := Option.some.inj ho
                    have e77 := hdep 3 77 (by omega) (by kernel_rfl) (by kernel_rfl)
                    simp only at e77
                    unfold Oper.wp
                    simp only [execOp, Act.eval, e77]
                    go_simp
                    exact hK _ w1 rfl (Below.refl _ _)
                  · clear hix2; obtain rfl := Option.some.inj ho
                    have e76 := hdep 2 76 (by omega) (by kernel_rfl) (by kernel_rfl)
                    simp only at e76
                    have e78 := hdep 4 78 (by omega) (by kernel_rfl) (by kernel_rfl)
                    simp only at e78
                    unfold Oper.wp
                    simp only [execOp, Act.eval, e76, e78]
                    go_simp
                    exact hK _ w1 (show Value.string (FR.extract 1 d.size.toNat) = Value.string CH from congrArg Value.string HCH.out.symm) (Below.refl _ _)
                  · clear hix2; obtain rfl := Option.some.inj ho
                    have e79 := hdep 5 79 (by omega) (by kernel_rfl) (by kernel_rfl)
                    simp only at e79
                    unfold Oper.wp
                    simp only [execOp, Act.eval, e79, hcz]
                    go_simp
                    exact hK _ w1 (show Value.string (strB [1] ++ CH) = Value.string HD from congrArg Value.string HHD.out) (Below.refl _ _)
                  · clear hix2; obtain rfl := Option.some.inj ho
                    have e74 := hdep 0 74 (by omega) (by kernel_rfl) (by kernel_rfl)
                    simp only at e74
                    have e75 := hdep 1 75 (by omega) (by kernel_rfl) (by kernel_rfl)
                    simp only at e75
                    have e80 := hdep 6 80 (by omega) (by kernel_rfl) (by kernel_rfl)
                    simp only at e80
                    unfold Oper.wp
                    simp only [execOp, Act.eval, e74, e75, e80]
                    go_simp
                    refine (CW.out w1 _ _ hX.dk).mono ?_
                    rintro e' w4 ⟨vs4, vp4, rfl, hv4, hb4⟩
                    exact hK _ w4 ⟨vs4, vp4, rfl, hv4⟩ hb4
                  · clear hix2; obtain rfl := Option.some.inj ho
                    have e81 := hdep 7 81 (by omega) (by kernel_rfl) (by kernel_rfl)
                    simp only at e81
                    obtain ⟨vs2, vp2, hx81, ht81⟩ := e81
                    unfold Oper.wp
                    simp only [execOp, Act.eval, hx81]
                    go_simp
                    exact hK _ w1 ⟨vs2, vp2, rfl, ht81⟩ (Below.refl _ _)
                  · exact hix2 rfl
                · rintro o ho a w1 hlen hold hbel hdep
                  obtain rfl := Option.some.inj ho
                  have e81 := hdep 7 81 (by omega) (by kernel_rfl) (by kernel_rfl)
                  simp only at e81
                  obtain ⟨vs2, vp2, hx81, ht81⟩ := e81
                  refine ⟨_, rfl, fun w' => ?_⟩
                  simp only [execOp, Act.eval, hx81]
                  go_simp
                · rintro a w1 hdf hlen hold hbel hnew
                  have e82 := hnew 8 82 (by omega) (by kernel_rfl)
                  simp only at e82
                  have e83 := hnew 9 83 (by omega) (by kernel_rfl)
                  simp only at e83
                  obtain ⟨vs2, vp2, e82, hd2⟩ := e82
                  have hact := act_eq [74, 75, 76, 77, 78, 79, 80, 81, 82, 83] hdf hlen (fun t ht => hold t (fun j hj hd => by
                    have : j = 0 ∨ j = 1 ∨ j = 2 ∨ j = 3 ∨ j = 4 ∨ j = 5 ∨ j = 6 ∨ j = 7 ∨ j = 8 ∨ j = 9 := by omega
                    rcases this with rfl | rfl | rfl | rfl | rfl | rfl | rfl | rfl | rfl | rfl <;> (obtain rfl := Option.some.inj hd; exact ht (by decide))))
                  simp only [List.foldl, e83, e82, List.setIfInBounds_toArray, List.set_cons_zero, List.set_cons_succ] at hact
                  clear hdf hlen hold hnew e83 e82
                  generalize a.tmps.getD 74 undef = u74 at hact
                  generalize a.tmps.getD 75 undef = u75 at hact
                  generalize a.tmps.getD 76 undef = u76 at hact
                  generalize a.tmps.getD 77 undef = u77 at hact
                  generalize a.tmps.getD 78 undef = u78 at hact
                  generalize a.tmps.getD 79 undef = u79 at hact
                  generalize a.tmps.getD 80 undef = u80 at hact
                  generalize a.tmps.getD 81 undef = u81 at hact
                  subst hact
                  have kd := HDR.out.trans (hbel.mono (Nat.le_refl _))
                  replace HV := Lib.hid (HV.out.keep kd)
                  replace HZ := Lib.hid (HZ.out.keep kd)
                  replace KB := Lib.hid (KB.out.trans (kd.mono KB.out.size))
                  replace hsw := Nat.lt_of_lt_of_le hsw kd.size
                  replace HX := Lib.hid (HX.out.keep kd)
                  obtain ⟨A2, c2, P2, cp2, rfl, rfl, _, _, _, _⟩ := hd2.form
                  obtain ⟨t0, t1, t2, t3, r0, r1, r2, r3⟩ := HZ.out.facts
                  simp only [noDisk, List.length_nil] at t0 t1 t2 t3
                  replace HZ := Lib.hid (HZ.out.assign hd2)
                  replace KB := Lib.hid (put4_below (A := A2) (c := c2) (P := P2) (cp := cp2) (d := D3) KB.out (show W.heap.size ≤ W.heap.size + 1 by omega))
                  clear hd2 hbel HDR kd HV HX
                  clear CW
                  refine AtS.late (i := 10) (by simp only [List.getElem?_toArray, List.getElem?_cons_succ, List.getElem?_cons_zero]; rfl) (by kernel_rfl) (by kernel_rfl) (by kernel_rfl) ?_
                  intro K hK
                  go_simp
                  refine hK _ _ ?_
                  clear hK K
                  change AtS _ _ _ _ _ _ _ _ _ (put4 w1 (W.heap.size + 1) A2 c2 P2 cp2 D3)
                  clear t0 t1 t2 t3 r0 r1 r2 r3
                  generalize put4 w1 (W.heap.size + 1) A2 c2 P2 cp2 D3 = w5 at *
                  refine AtS.late (i := 11) (by simp only [List.getElem?_toArray, List.getElem?_cons_succ, List.getElem?_cons_zero]; rfl) (by kernel_rfl) (by kernel_rfl) (by kernel_rfl) ?_
                  intro K hK
                  go_simp
                  refine hK _ _ (AtS.done (by kernel_rfl) (NoPanic.normal ?_))
                  clear hK K
                  obtain ⟨k0, k1, k2, k3, _⟩ := HZ.out.facts
                  go_wp2
                  exact bodyPost_ret (v := .tuple #[.agg #[.int .i64 D3.size, .slice A2 D3.secs.length c2, .slice P2 D3.pend.length cp2, .int .i64 D3.left], .int .i64 N3]) (by simp [results, Try.results15, go_sem, k0, k1, k2, k3]) rfl (by rw [HE3.out]; exact ⟨_, _, rfl, HZ.out.dk, KB.out⟩)
              · subst e2
                have HE3 : Hid (R = (D2, 20)) := by show _ = _; rw [HE.out, if_pos (by simp)]
                clear z1 z2 z3 z4 HKP HE
                obtain ⟨q0, q1, q2, q3, _⟩ := HX.out.facts
                obtain ⟨t0, t1, t2, t3, r0, r1, r2, r3⟩ := HZ.out.facts
                simp only [noDisk, List.length_nil] at t0 t1 t2 t3
                have VR := Lib.hid (HZ.out.assign HX.out.dk)
                have KR := Lib.hid (put4_below (A := A2) (c := c2) (P := P2) (cp := cp2) (d := D2) KB.out (show W.heap.size ≤ W.heap.size + 1 by omega))
                go_wp2
                change bodyPost _ _ _ _ _ (put4 w5 (W.heap.size + 1) A2 c2 P2 cp2 D2)
                obtain ⟨k0, k1, k2, k3, _⟩ := VR.out.facts
                clear q0 q1 q2 q3 t0 t1 t2 t3 r0 r1 r2 r3
                generalize put4 w5 (W.heap.size + 1) A2 c2 P2 cp2 D2 = wx at *
                exact bodyPost_ret (v := .tuple #[.agg #[.int .i64 D2.size, .slice A2 D2.secs.length c2, .slice P2 D2.pend.length cp2, .int .i64 D2.left], .int .i64 20]) (by simp [results, Try.results15, go_sem, k0, k1, k2, k3]) rfl (by rw [HE3.out]; exact ⟨_, _, rfl, VR.out.dk, KR.out⟩)
        · have hc : (room : Int) < (S.length : Int) := by omega
          have HE : Hid (R = (noDisk, 19)) := HF3.out.trans (if_pos (by omega))
          clear HF3
          obtain ⟨t0, t1, t2, t3, r0, r1, r2, r3⟩ := HZ.out.facts
          simp only [noDisk, List.length_nil] at t0 t1 t2 t3
          have VR := Lib.hid (HZ.out.assign (d' := noDisk) (A' := none) (c' := 0) (P' := none) (cp' := 0) (Dsk.nodisk w4))
          have KR := Lib.hid (put4_below (A := none) (c := 0) (P := none) (cp := 0) (d := noDisk) KB.out (show W.heap.size ≤ W.heap.size + 1 by omega))
          go_wp2
          change bodyPost _ _ _ _ _ (put4 w4 (W.heap.size + 1) none 0 none 0 noDisk)
          obtain ⟨k0, k1, k2, k3, _⟩ := VR.out.facts
          clear t0 t1 t2 t3 r0 r1 r2 r3
          generalize put4 w4 (W.heap.size + 1) none 0 none 0 noDisk = wx at *
          exact bodyPost_ret (v := .tuple #[.agg #[.int .i64 0, .slice none 0 0, .slice none 0 0, .int .i64 0], .int .i64 19]) (by simp only [noDisk, List.length_nil] at k0 k1 k2 k3; simp [results, Try.results15, go_sem, k0, k1, k2, k3]) rfl (by rw [HE.out]; exact ⟨_, _, rfl, VR.out.dk, KR.out⟩)
      · have hfE : frE (strB [0]) l d.size.toNat = (⟨#[]⟩, 4) := by
          unfold frE
          rw [if_neg hne, if_pos hok]
        rw [hfE] at CF
        simp only at CF
        replace CF := Lib.hid CF
        have HE : Hid (R = (noDisk, 4)) := HF2.out.trans (if_pos hok)
        clear hfE HF2 HT hok hne hlm hlc hbig ha12 ha
        obtain ⟨q0, q1, q2, q3, _⟩ := HV.out.facts
        go_wp2_with fail
        refine CF.out.mono ?_
        rintro e w3 ⟨rfl, hb⟩
        clear CF q0 q1 q2 q3
        replace HV := Lib.hid (HV.out.keep hb)
        replace HZ := Lib.hid (HZ.out.keep hb)
        replace KB := Lib.hid (KB.out.trans (hb.mono KB.out.size))
        clear hb
        obtain ⟨t0, t1, t2, t3, r0, r1, r2, r3⟩ := HZ.out.facts
        simp only [noDisk, List.length_nil] at t0 t1 t2 t3
        have VR := Lib.hid (HZ.out.assign (d' := noDisk) (A' := none) (c' := 0) (P' := none) (cp' := 0) (Dsk.nodisk w3))
        have KR := Lib.hid (put4_below (A := none) (c := 0) (P := none) (cp := 0) (d := noDisk) KB.out (show W.heap.size ≤ W.heap.size + 1 by omega))
        go_wp2
        change bodyPost _ _ _ _ _ (put4 w3 (W.heap.size + 1) none 0 none 0 noDisk)
        obtain ⟨k0, k1, k2, k3, _⟩ := VR.out.facts
        clear t0 t1 t2 t3 r0 r1 r2 r3
        generalize put4 w3 (W.heap.size + 1) none 0 none 0 noDisk = wx at *
        exact bodyPost_ret (v := .tuple #[.agg #[.int .i64 0, .slice none 0 0, .slice none 0 0, .int .i64 0], .int .i64 4]) (by simp only [noDisk, List.length_nil] at k0 k1 k2 k3; simp [results, Try.results15, go_sem, k0, k1, k2, k3]) rfl (by rw [HE.out]; exact ⟨_, _, rfl, VR.out.dk, KR.out⟩)
  · have HE : Hid (R = (noDisk, e0)) := HF.out.trans (if_pos he)
    clear HF HU HA HT hlm hlc hbig
    obtain ⟨t0, t1, t2, t3, r0, r1, r2, r3⟩ := HZ.out.facts
    simp only [noDisk, List.length_nil] at t0 t1 t2 t3
    have VR := Lib.hid (HZ.out.assign (d' := noDisk) (A' := none) (c' := 0) (P' := none) (cp' := 0) (Dsk.nodisk w2))
    have KR := Lib.hid (put4_below (A := none) (c := 0) (P := none) (cp := 0) (d := noDisk) KB.out (show W.heap.size ≤ W.heap.size + 1 by omega))
    go_wp2
    change bodyPost _ _ _ _ _ (put4 w2 (W.heap.size + 1) none 0 none 0 noDisk)
    obtain ⟨k0, k1, k2, k3, _⟩ := VR.out.facts
    clear t0 t1 t2 t3 r0 r1 r2 r3
    generalize put4 w2 (W.heap.size + 1) none 0 none 0 noDisk = wx at *
    exact bodyPost_ret (v := .tuple #[.agg #[.int .i64 0, .slice none 0 0, .slice none 0 0, .int .i64 0], .int .i64 e0]) (by simp only [noDisk, List.length_nil] at k0 k1 k2 k3; simp [results, Try.results15, go_sem, k0, k1, k2, k3]) rfl (by rw [HE.out]; exact ⟨_, _, rfl, VR.out.dk, KR.out⟩)
end Go.Proofs.Ytockmhhiomdlkaa
