/- The reference's Rewrite. -/
import Derived.Test.YtockmhhiomdlkaaRfM
namespace Go.Proofs.Ytockmhhiomdlkaa
set_option linter.unusedVariables false
set_option linter.unusedSimpArgs false
open Go.RowKit

theorem frE_one {l : List Txt} (h : OkL l) {sz : Nat} (hs : 1 ≤ sz) : frE (strB [1]) l sz = (strB ((frS l sz).flatMap bts), 0) := by
  unfold frE
  by_cases hne : l = []
  · rw [if_pos hne]
    have : frS l sz = [] := if_pos hne
    rw [this]; rfl
  · rw [if_neg hne, if_neg (fun e => e h), frZ_eq hne hs, flX_one hne hs]
set_option maxRecDepth 100000 in
set_option maxHeartbeats 8000000 in
theorem rrewrite_any (W : World) (vs vp : Value) (d : Dk) (h : DskP W vs vp d) (hpn : d.pend.length ≤ 80000) (lA : Option Addr) (lc : Nat) (l : List Txt) (hl : Txs W (.slice lA l.length lc) l) (hbig : ∀ t ∈ l, t.length ≤ 1000000) :
    Calls Try.prog 25 #[.agg #[.int .i64 d.size, vs, vp, .int .i64 d.left], .slice lA l.length lc] W (DkPost W (rewD d l).1 (rewD d l).2) := by
  obtain ⟨A, c, P, cp, rfl, rfl, hc, hcp, hm1, hmp⟩ := h.form
  have V0 := (Var.new h).alloc (.cells #[.int .i64 0, .slice none 0 0, .slice none 0 0, .int .i64 0] 25)
  have Z0 : Var ((W.alloc (.cells #[.int .i64 d.size, .slice A d.secs.length c, .slice P d.pend.length cp, .int .i64 d.left] 25)).alloc (.cells #[.int .i64 0, .slice none 0 0, .slice none 0 0, .int .i64 0] 25)) (W.alloc (.cells #[.int .i64 d.size, .slice A d.secs.length c, .slice P d.pend.length cp, .int .i64 d.left] 25)).heap.size none 0 none 0 noDisk := Var.zero _
  rw [World.size_alloc] at Z0
  have K0 := ((Below.refl W.heap.size W).alloc (Nat.le_refl _) (.cells #[.int .i64 d.size, .slice A d.secs.length c, .slice P d.pend.length cp, .int .i64 d.left] 25)).alloc (by simp) (.cells #[.int .i64 0, .slice none 0 0, .slice none 0 0, .int .i64 0] 25)
  have T0 : Txs _ (.slice lA l.length lc) l := hl.keep (Keeps.of_below K0)
  obtain ⟨_, _, el, hlc, hlm⟩ := Txs.form hl
  cases el
  have HF : Hid (rewD d l = if (openD d).2 ≠ 0 then (noDisk, (openD d).2) else if ¬ OkL l then (noDisk, 4) else if halfN d.secs.length < (frS l d.size.toNat).length then (noDisk, 19) else runD d (twoO (fillO (firstS d.secs.length (3 - (openD d).1.1)) (frS l d.size.toNat) (firstS d.secs.length (3 - (openD d).1.1) + halfN d.secs.length) d.size.toNat) (0, markS d.size.toNat (3 - (openD d).1.1)))) := rfl
  have HU : Hid ((openD d).2 = 0 → Valid d ∧ 3 ≤ d.secs.length ∧ ((openD d).1.1 = 1 ∨ (openD d).1.1 = 2) ∧ (openD d).1.2.2 ≤ halfN d.secs.length) := openOk
  have HA : Hid ((openD d).2 = 0 → actV d = (openD d).1.1) := openAct
  generalize rewD d l = R at *
  have CO := Lib.hid (ropen_any _ _ _ d V0.dk)
  generalize openD d = r at *
  obtain ⟨⟨a0, rl, u⟩, e0⟩ := r
  simp only at HF HU HA
  go_enter Try.func25, Try.ntmps25
  go_upto_region 1 with (fail)
  generalize (W.alloc (.cells #[.int .i64 d.size, .slice A d.secs.length c, .slice P d.pend.length cp, .int .i64 d.left] 25)).alloc (.cells #[.int .i64 0, .slice none 0 0, .slice none 0 0, .int .i64 0] 25) = w1 at *
  have HV := Lib.hid V0
  have HZ := Lib.hid Z0
  have KB := Lib.hid K0
  have HT := Lib.hid T0
  clear V0 Z0 K0 T0 hm1 hmp hc hcp h hl
  obtain ⟨q0, q1, q2, q3, _⟩ := HV.out.facts
  go_wp2_with fail
  refine CO.out.mono ?_
  rintro e w2 ⟨vo, rfl, hto, hb⟩
  clear q0 q1 q2 q3 CO hto
  replace HV := Lib.hid (HV.out.keep hb)
  replace HZ := Lib.hid (HZ.out.keep hb)
  replace KB := Lib.hid (KB.out.trans (hb.mono KB.out.size))
  replace HT := Lib.hid (HT.out.keep (Keeps.of_below hb))
  clear hb
  simp only
  by_cases he : e0 = 0
  · subst he
    obtain ⟨hv, hn3, ha12, hu⟩ := HU.out rfl
    have ha := HA.out rfl
    clear HU HA
    have HF2 := Lib.hid (HF.out.trans (if_neg (by simp)))
    clear HF
    have hsw := HZ.out.blk.lt
    have hv1 := hv.s1
    have hv2 := hv.s2
    have hv4 := hv.n2
    have CF := rFrame_any w2 lA lc l HT.out hbig (strB [1]) (by rw [strB_size]; rfl) d.size.toNat (by omega) (by omega)
    rw [show ((d.size.toNat : Nat) : Int) = d.size by omega] at CF
    by_cases hok : OkL l
    · have hX := frS_siz l (sz := d.size.toNat)
      rw [frE_one hok (show 1 ≤ d.size.toNat by omega)] at CF
      simp only at CF
      have hfs := flat_size hX
      have HF3 := HF2.out.trans (if_neg (fun e => e hok))
      have hbigS : (frS l d.size.toNat).length ≤ 200000000 := by
        by_cases hne : l = []
        · have : frS l d.size.toNat = [] := if_pos hne
          rw [this]; exact Nat.zero_le _
        · rw [frS_len hne]
          exact need_le (by omega) (by have := frB_len hok; have : 1 ≤ d.size.toNat := by omega
                                       have := Nat.mul_le_mul_left 200000000 this; omega)
      obtain ⟨S, hS⟩ : ∃ S, S = frS l d.size.toNat := ⟨_, rfl⟩
      rw [← hS] at HF3 hX hfs CF hbigS
      obtain ⟨FR, hFR⟩ : ∃ x, x = strB (S.flatMap bts) := ⟨_, rfl⟩
      have HRF := Lib.hid hFR
      rw [← hFR] at CF hfs
      obtain ⟨hf, hhf⟩ : ∃ x, x = halfN d.secs.length := ⟨_, rfl⟩
      obtain ⟨h1, h2⟩ := half_bd hn3
      have CH := Lib.hid (fun w vs vp h => rhalf_any w vs vp d h)
      have CA := Lib.hid (fun w vs vp h => ractive_any w vs vp d h hv hn3)
      rw [ha] at CA
      have hfS : firstS d.secs.length (3 - a0) = 1 + (3 - a0 - 1) * halfN d.secs.length := rfl
      rw [← hhf] at h1 h2 HF3 CH hfS
      have HFI := Lib.hid hfS
      replace CF := Lib.hid CF
      have hfb : FR.size ≤ 200000000 * 512 := by rw [hfs]; exact Nat.mul_le_mul hbigS (by omega)
      have HFS := Lib.hid hfs
      have HX2 := Lib.hid hX
      replace HF3 := Lib.hid HF3
      have hrB : hf ≤ 1000 := by omega
      have hq : FR.size / d.size.toNat = S.length := by rw [hfs]; exact Nat.mul_div_cancel _ (by omega)
      have HQ : Hid (IntKind.i64.wrap ((FR.size : Int) / d.size) = (S.length : Int)) := by
        show _ = _
        have e : (FR.size : Int) / d.size = (S.length : Int) := by
          rw [← hq, show d.size = ((d.size.toNat : Nat) : Int) by omega]
          rfl
        rw [e, i64w (by omega) (by omega)]
      have hdz : ¬ d.size = 0 := by omega
      clear hfS HF2 HT hFR hfs hX hhf hq hS hlm hlc hok hbig hu ha
      obtain ⟨q0, q1, q2, q3, _⟩ := HV.out.facts
      go_wp2_with fail
      refine CF.out.mono ?_
      rintro e w3 ⟨rfl, hb⟩
      clear CF q0 q1 q2 q3
      replace HV := Lib.hid (HV.out.keep hb)
      replace HZ := Lib.hid (HZ.out.keep hb)
      replace KB := Lib.hid (KB.out.trans (hb.mono KB.out.size))
      replace hsw := Nat.lt_of_lt_of_le hsw hb.size
      clear hb
      go_upto_region 7 with (fail)
      have HDR : Hid (Below w3.heap.size w3 w3.drew) := below_drew1 (Below.refl _ _)
      refine prom_start (by kernel_rfl) 8 (fun i v w => match i with
        | 0 => v = .string FR
        | 1 => v = .int .i64 (FR.size : Int)
        | 2 => v = .pointer (some ⟨W.heap.size, 0, none⟩)
        | 3 => v = .int .i64 d.size
        | 4 => v = .int .i64 (S.length : Int)
        | 5 => v = .agg #[.int .i64 d.size, .slice A d.secs.length c, .slice P d.pend.length cp, .int .i64 d.left]
        | 6 => v = .int .i64 (hf : Int)
        | _ => v = .bool (decide (hf < S.length))) 0 (by kernel_rfl) (fun i v w w' h hb => ?_) ?_ ?_
      · match i, h with
        | 0, h => exact h
        | 1, h => exact h
        | 2, h => exact h
        | 3, h => exact h
        | 4, h => exact h
        | 5, h => exact h
        | 6, h => exact h
        | 7, h => exact h
        | _ + 8, h => exact h
      · rintro i o hi ho a w1 hdf hlen hold hbel hdep K hK
        clear hdf
        have hV := (HV.out.keep HDR.out).keep hbel
        obtain ⟨q0, q1, q2, q3, _⟩ := hV.facts
        have s2 : a.tmps.getD 2 undef = .pointer (some ⟨W.heap.size, 0, none⟩) := by
          rw [Array.getD_eq_getD_getElem?, hold 2 ?_]
          · rfl
          · intro j hj
            have : j = 0 ∨ j = 1 ∨ j = 2 ∨ j = 3 ∨ j = 4 ∨ j = 5 ∨ j = 6 ∨ j = 7 := by omega
            rcases this with rfl | rfl | rfl | rfl | rfl | rfl | rfl | rfl <;> decide
        have s9 : a.tmps.getD 9 undef = .string FR := by
          rw [Array.getD_eq_getD_getElem?, hold 9 ?_]
          · rfl
          · intro j hj
            have : j = 0 ∨ j = 1 ∨ j = 2 ∨ j = 3 ∨ j = 4 ∨ j = 5 ∨ j = 6 ∨ j = 7 := by omega
            rcases this with rfl | rfl | rfl | rfl | rfl | rfl | rfl | rfl <;> decide
        have hi' : i = 0 ∨ i = 1 ∨ i = 2 ∨ i = 3 ∨ i = 4 ∨ i = 5 ∨ i = 6 ∨ i = 7 := by omega
        rcases hi' with rfl | rfl | rfl | rfl | rfl | rfl | rfl | rfl
        · obtain rfl := Option.some.inj ho
          unfold Oper.wp
          simp only [execOp, Act.eval, s9]
          go_simp
          exact hK _ w1 rfl (Below.refl _ _)
        · obtain rfl := Option.some.inj ho
          have e33 := hdep 0 33 (by omega) (by kernel_rfl) (by kernel_rfl)
          simp only at e33
          unfold Oper.wp
          simp only [execOp, Act.eval, e33]
          go_simp
          exact hK _ w1 rfl (Below.refl _ _)
        · obtain rfl := Option.some.inj ho
          unfold Oper.wp
          simp only [execOp, Act.eval, s2]
          go_simp
          exact hK _ w1 rfl (Below.refl _ _)
        · obtain rfl := Option.some.inj ho
          have e35 := hdep 2 35 (by omega) (by kernel_rfl) (by kernel_rfl)
          simp only at e35
          unfold Oper.wp
          simp only [execOp, Act.eval, e35]
          go_simp
          exact hK _ w1 rfl (Below.refl _ _)
        · obtain rfl := Option.some.inj ho
          have e34 := hdep 1 34 (by omega) (by kernel_rfl) (by kernel_rfl)
          simp only at e34
          have e36 := hdep 3 36 (by omega) (by kernel_rfl) (by kernel_rfl)
          simp only at e36
          unfold Oper.wp
          simp only [execOp, Act.eval, e34, e36]
          go_simp
          exact hK _ w1 (by simp only; exact congrArg (Value.int .i64) HQ.out) (Below.refl _ _)
        · obtain rfl := Option.some.inj ho
          unfold Oper.wp
          simp only [execOp, Act.eval, s2]
          go_simp
          exact hK _ w1 rfl (Below.refl _ _)
        · obtain rfl := Option.some.inj ho
          have e38 := hdep 5 38 (by omega) (by kernel_rfl) (by kernel_rfl)
          simp only at e38
          unfold Oper.wp
          simp only [execOp, Act.eval, e38]
          go_simp
          refine (CH.out w1 _ _ hV.dk).mono ?_
          rintro e' w4 ⟨rfl, hb4⟩
          exact hK _ w4 rfl hb4
        · obtain rfl := Option.some.inj ho
          have e37 := hdep 4 37 (by omega) (by kernel_rfl) (by kernel_rfl)
          simp only at e37
          have e39 := hdep 6 39 (by omega) (by kernel_rfl) (by kernel_rfl)
          simp only at e39
          unfold Oper.wp
          simp only [execOp, Act.eval, e37, e39]
          go_simp
          exact hK _ w1 rfl (Below.refl _ _)
      · rintro a w1 hdf hlen hold hbel hnew
        have e40 := hnew 7 40 (by omega) (by kernel_rfl)
        simp only at e40
        have hact := act_eq [33, 34, 35, 36, 37, 38, 39, 40] hdf hlen (fun t ht => hold t (fun j hj hd => by
          have : j = 0 ∨ j = 1 ∨ j = 2 ∨ j = 3 ∨ j = 4 ∨ j = 5 ∨ j = 6 ∨ j = 7 := by omega
          rcases this with rfl | rfl | rfl | rfl | rfl | rfl | rfl | rfl <;> (obtain rfl := Option.some.inj hd; exact ht (by decide))))
        simp only [List.foldl, e40, List.setIfInBounds_toArray, List.set_cons_zero, List.set_cons_succ] at hact
        clear hdf hlen hold hnew e40
        generalize a.tmps.getD 33 undef = u33 at hact
        generalize a.tmps.getD 34 undef = u34 at hact
        generalize a.tmps.getD 35 undef = u35 at hact
        generalize a.tmps.getD 36 undef = u36 at hact
        generalize a.tmps.getD 37 undef = u37 at hact
        generalize a.tmps.getD 38 undef = u38 at hact
        generalize a.tmps.getD 39 undef = u39 at hact
        subst hact
        have kd := HDR.out.trans (hbel.mono (Nat.le_refl _))
        replace HV := Lib.hid (HV.out.keep kd)
        replace HZ := Lib.hid (HZ.out.keep kd)
        replace KB := Lib.hid (KB.out.trans (kd.mono KB.out.size))
        replace hsw := Nat.lt_of_lt_of_le hsw kd.size
        clear kd hbel HDR
        refine AtS.done (by kernel_rfl) (NoPanic.normal ?_)
        by_cases hfit : S.length ≤ hf
        · have hc : decide (hf < S.length) = false := decide_eq_false (by omega)
          rw [hc]
          clear hc
          have HE := HF3.out.trans (if_neg (by omega))
          obtain ⟨ot, ho⟩ : ∃ x, x = 3 - a0 := ⟨_, rfl⟩
          obtain ⟨pr, hpr⟩ : ∃ x, x = (ot - 1) * hf := ⟨_, rfl⟩
          have hprb : pr + hf + 1 ≤ d.secs.length := by
            rw [hpr, ho]; rcases ha12 with rfl | rfl <;> omega
          have HPR : Hid (((ot - 1 : Nat) : Int) * (hf : Int) = (pr : Int)) := by show _ = _; rw [hpr, Int.natCast_mul]
          obtain ⟨at_, hat⟩ : ∃ x, x = 1 + pr := ⟨_, rfl⟩
          have hfi := HFI.out
          rw [← ho] at hfi HE
          rw [← hpr] at hfi
          rw [show firstS d.secs.length ot = at_ by rw [hfi, hat], fillO_fillR (r := hf) rfl] at HE
          have hL2 := fillR_siz (room := hf) HX2.out
          have hL2l := fillR_len (sz := d.size.toNat) hfit
          have hfrs : FR.size ≤ 1000 * 512 := by rw [HFS.out]; exact Nat.mul_le_mul (by omega) (by omega)
          have CE := fun w => rended_any FR d.size.toNat (hf : Int) (by omega) (by omega) (by omega) (by omega) w
          have hef := end_fill (L := S) (room := hf) (show 1 ≤ d.size.toNat by omega) HX2.out
          rw [← HRF.out] at hef
          rw [hef, show ((d.size.toNat : Nat) : Int) = d.size by omega] at CE
          obtain ⟨L2, hL2e⟩ : ∃ x, x = fillR S d.size.toNat hf := ⟨_, rfl⟩
          rw [← hL2e] at HE hL2 hL2l CE
          have hfz := flat_size hL2
          have hcf := chkB_flat hL2
          obtain ⟨FE, hFE⟩ : ∃ x, x = strB (L2.flatMap bts) := ⟨_, rfl⟩
          rw [← hFE] at CE hfz hcf
          have hatm : at_ + L2.length ≤ d.secs.length := by omega
          have CW := Lib.hid (fun w vs vp h => rwr_any w vs vp d h hv at_ L2.length FE hfz hatm (by omega))
          rw [hcf] at CW
          have ho12 : 1 ≤ ot ∧ ot ≤ 2 := by omega
          have CM := rhead_any ot d.size.toNat (by omega) (by omega) (by omega)
          rw [show ((d.size.toNat : Nat) : Int) = d.size by omega] at CM
          have hms := markS_size (sz := d.size.toNat) (by omega) ot
          obtain ⟨MK, hMK⟩ : ∃ z, z = markS d.size.toNat ot := ⟨_, rfl⟩
          rw [← hMK] at CM hms HE
          replace CM := Lib.hid CM
          have HMS := Lib.hid hms
          rw [show twoO (wrO at_ L2) (0, MK) = ((wrO at_ L2).map some ++ [none]) ++ [some (0, MK), none] by simp [twoO], runD_append] at HE
          have kp := runD_keep ((wrO at_ L2).map some ++ [none]) d hv (by
            intro w hw
            rcases List.mem_append.1 hw with hw | hw
            · obtain ⟨w', hw', e⟩ := List.mem_map.1 hw
              obtain rfl := Option.some.inj e
              obtain ⟨g1, g2, g3⟩ := wrO_mem L2 at_ w' hw'
              have := hL2 _ g3
              exact ⟨by omega, by omega⟩
            · simp at hw)
          have hlen : ((wrO at_ L2).map some ++ [none]).length ≤ 1001 := by
            rw [List.length_append, List.length_map, wrO_length]; simp only [List.length_cons, List.length_nil]; omega
          obtain ⟨r2, hr2⟩ : ∃ r, r = runD d ((wrO at_ L2).map some ++ [none]) := ⟨_, rfl⟩
          rw [← hr2] at HE kp CW
          clear hr2
          obtain ⟨D2, N2⟩ := r2
          simp only at HE kp CW
          replace HE := Lib.hid HE
          have HKP := Lib.hid kp
          have HAT : Hid (at_ = 1 + pr) := hat
          replace CE := Lib.hid CE
          have HP := Lib.hid hpn
          have HLN := Lib.hid hlen
          have hatb : at_ < d.secs.length := by omega
          have HO : Hid ((3 : Int) - (a0 : Int) = (ot : Int)) := by show _ = _; omega
          have hon : IntKind.i64.wrap ((3 : Int) - (a0 : Int)) = (ot : Int) := by rw [HO.out, i64w (by omega) (by omega)]
          obtain ⟨ho1, ho2⟩ := ho12
          have ha0 : 1 ≤ a0 ∧ a0 ≤ 2 := by omega
          obtain ⟨ha0a, ha0b⟩ := ha0
          have HOW := Lib.hid hon
          clear kp HF3 HQ hef hL2e hL2 hL2l hFE hfz hcf hatm hfi hpr hat hlen hv hpn HFI HX2 HRF hms hMK ho hon ha12
          obtain ⟨q0, q1, q2, q3, _⟩ := HV.out.facts
          go_wp2_with fail
          refine (CA.out _ _ _ HV.out.dk).mono ?_
          rintro e w4 ⟨rfl, hb⟩
          clear q0 q1 q2 q3 CA
          replace HV := Lib.hid (HV.out.keep hb)
          replace HZ := Lib.hid (HZ.out.keep hb)
          replace KB := Lib.hid (KB.out.trans (hb.mono KB.out.size))
          replace hsw := Nat.lt_of_lt_of_le hsw hb.size
          clear hb
          go_upto_region 10 with (fail)
          simp only [HO.out]
          have HDR : Hid (Below w4.heap.size w4 w4.drew) := below_drew1 (Below.refl _ _)
          generalize w4 = w2 at *
          refine prom_start3 (by kernel_rfl) 18 16 [15] (fun i v w => match i with
            | 0 => v = .agg #[.int .i64 d.size, .slice A d.secs.length c, .slice P d.pend.length cp, .int .i64 d.left]
            | 1 => v = .int .i64 (ot : Int)
            | 2 => v = .int .i64 ((ot - 1 : Nat) : Int)
            | 3 => v = .agg #[.int .i64 d.size, .slice A d.secs.length c, .slice P d.pend.length cp, .int .i64 d.left]
            | 4 => v = .int .i64 (hf : Int)
            | 5 => v = .int .i64 (pr : Int)
            | 6 => v = .int .i64 (at_ : Int)
            | 7 => v = .string FR
            | 8 => v = .pointer (some ⟨W.heap.size, 0, none⟩)
            | 9 => v = .int .i64 d.size
            | 10 => v = .agg #[.int .i64 d.size, .slice A d.secs.length c, .slice P d.pend.length cp, .int .i64 d.left]
            | 11 => v = .int .i64 (hf : Int)
            | 12 => v = .string FE
            | 13 => ∃ vs2 vp2, v = .tuple #[.agg #[.int .i64 D2.size, vs2, vp2, .int .i64 D2.left], .int .i64 N2] ∧ DskP w vs2 vp2 D2
            | 14 => ∃ vs2 vp2, v = .tuple #[.agg #[.int .i64 D2.size, vs2, vp2, .int .i64 D2.left], .int .i64 N2] ∧ DskP w vs2 vp2 D2
            | 15 => ∃ vs2 vp2, v = .agg #[.int .i64 D2.size, vs2, vp2, .int .i64 D2.left] ∧ DskP w vs2 vp2 D2
            | 16 => v = .int .i64 N2
            | _ => ∃ b, v = .pointer (some ⟨b, 0, none⟩) ∧ Var w b none 0 none 0 noDisk ∧ W.heap.size + 2 ≤ b)  (by kernel_rfl) (fun i v w w' h hb => ?_) ?_ ?_ ?_
          · match i, h with
            | 0, h => exact h
            | 1, h => exact h
            | 2, h => exact h
            | 3, h => exact h
            | 4, h => exact h
            | 5, h => exact h
            | 6, h => exact h
            | 7, h => exact h
            | 8, h => exact h
            | 9, h => exact h
            | 10, h => exact h
            | 11, h => exact h
            | 12, h => exact h
            | 13, h => exact (let ⟨vs2, vp2, e, hp⟩ := h; ⟨vs2, vp2, e, hp.keep (Keeps.of_below hb)⟩)
            | 14, h => exact (let ⟨vs2, vp2, e, hp⟩ := h; ⟨vs2, vp2, e, hp.keep (Keeps.of_below hb)⟩)
            | 15, h => exact (let ⟨vs2, vp2, e, hp⟩ := h; ⟨vs2, vp2, e, hp.keep (Keeps.of_below hb)⟩)
            | 16, h => exact h
            | 17, h => exact (let ⟨b, e, hp, hq⟩ := h; ⟨b, e, hp.keep hb, hq⟩)
            | _ + 18, h => exact (let ⟨b, e, hp, hq⟩ := h; ⟨b, e, hp.keep hb, hq⟩)
          · rintro i o hi hix ho a w1 hdf hlen hold hbel hdep K hK
            clear hdf
            have hix2 : ∀ {A : Prop}, i = 16 → A := fun e => absurd e hix
            clear hix
            have hV := (HV.out.keep HDR.out).keep hbel
            obtain ⟨q0, q1, q2, q3, _⟩ := hV.facts
            have s2 : a.tmps.getD 2 undef = .pointer (some ⟨W.heap.size, 0, none⟩) := by
              rw [Array.getD_eq_getD_getElem?, hold 2 ?_]
              · rfl
              · intro j hj
                have : j = 0 ∨ j = 1 ∨ j = 2 ∨ j = 3 ∨ j = 4 ∨ j = 5 ∨ j = 6 ∨ j = 7 ∨ j = 8 ∨ j = 9 ∨ j = 10 ∨ j = 11 ∨ j = 12 ∨ j = 13 ∨ j = 14 ∨ j = 15 ∨ j = 16 ∨ j = 17 := by omega
                rcases this with rfl | rfl | rfl | rfl | rfl | rfl | rfl | rfl | rfl | rfl | rfl | rfl | rfl | rfl | rfl | rfl | rfl | rfl <;> decide
            have s9 : a.tmps.getD 9 undef = .string FR := by
              rw [Array.getD_eq_getD_getElem?, hold 9 ?_]
              · rfl
              · intro j hj
                have : j = 0 ∨ j = 1 ∨ j = 2 ∨ j = 3 ∨ j = 4 ∨ j = 5 ∨ j = 6 ∨ j = 7 ∨ j = 8 ∨ j = 9 ∨ j = 10 ∨ j = 11 ∨ j = 12 ∨ j = 13 ∨ j = 14 ∨ j = 15 ∨ j = 16 ∨ j = 17 := by omega
                rcases this with rfl | rfl | rfl | rfl | rfl | rfl | rfl | rfl | rfl | rfl | rfl | rfl | rfl | rfl | rfl | rfl | rfl | rfl <;> decide
            have s10 : a.tmps.getD 10 undef = .int .i64 (ot : Int) := by
              rw [Array.getD_eq_getD_getElem?, hold 10 ?_]
              · rfl
              · intro j hj
                have : j = 0 ∨ j = 1 ∨ j = 2 ∨ j = 3 ∨ j = 4 ∨ j = 5 ∨ j = 6 ∨ j = 7 ∨ j = 8 ∨ j = 9 ∨ j = 10 ∨ j = 11 ∨ j = 12 ∨ j = 13 ∨ j = 14 ∨ j = 15 ∨ j = 16 ∨ j = 17 := by omega
                rcases this with rfl | rfl | rfl | rfl | rfl | rfl | rfl | rfl | rfl | rfl | rfl | rfl | rfl | rfl | rfl | rfl | rfl | rfl <;> decide
            have hi' : i = 0 ∨ i = 1 ∨ i = 2 ∨ i = 3 ∨ i = 4 ∨ i = 5 ∨ i = 6 ∨ i = 7 ∨ i = 8 ∨ i = 9 ∨ i = 10 ∨ i = 11 ∨ i = 12 ∨ i = 13 ∨ i = 14 ∨ i = 15 ∨ i = 16 ∨ i = 17 := by omega
            rcases hi' with rfl | rfl | rfl | rfl | rfl | rfl | rfl | rfl | rfl | rfl | rfl | rfl | rfl | rfl | rfl | rfl | rfl | rfl
            · clear hix2; obtain rfl := Option.some.inj ho
              unfold Oper.wp
              simp only [execOp, Act.eval, s2]
              go_simp
              exact hK _ w1 rfl (Below.refl _ _)
            · clear hix2; obtain rfl := Option.some.inj ho
              unfold Oper.wp
              simp only [execOp, Act.eval, s10]
              go_simp
              exact hK _ w1 rfl (Below.refl _ _)
            · clear hix2; obtain rfl := Option.some.inj ho
              have e47 := hdep 1 47 (by omega) (by kernel_rfl) (by kernel_rfl)
              simp only at e47
              unfold Oper.wp
              simp only [execOp, Act.eval, e47]
              go_simp
              exact hK _ w1 (by simp only; rw [i64w (by omega) (by omega)]; exact congrArg (Value.int .i64) (by omega)) (Below.refl _ _)
            · clear hix2; obtain rfl := Option.some.inj ho
              unfold Oper.wp
              simp only [execOp, Act.eval, s2]
              go_simp
              exact hK _ w1 rfl (Below.refl _ _)
            · clear hix2; obtain rfl := Option.some.inj ho
              have e49 := hdep 3 49 (by omega) (by kernel_rfl) (by kernel_rfl)
              simp only at e49
              unfold Oper.wp
              simp only [execOp, Act.eval, e49]
              go_simp
              refine (CH.out w1 _ _ hV.dk).mono ?_
              rintro e' w4 ⟨rfl, hb4⟩
              exact hK _ w4 rfl hb4
            · clear hix2; obtain rfl := Option.some.inj ho
              have e48 := hdep 2 48 (by omega) (by kernel_rfl) (by kernel_rfl)
              simp only at e48
              have e50 := hdep 4 50 (by omega) (by kernel_rfl) (by kernel_rfl)
              simp only at e50
              unfold Oper.wp
              simp only [execOp, Act.eval, e48, e50]
              go_simp
              exact hK _ w1 (by simp only; rw [HPR.out, i64w (by omega) (by omega)]) (Below.refl _ _)
            · clear hix2; obtain rfl := Option.some.inj ho
              have e51 := hdep 5 51 (by omega) (by kernel_rfl) (by kernel_rfl)
              simp only at e51
              unfold Oper.wp
              simp only [execOp, Act.eval, e51]
              go_simp
              exact hK _ w1 (by simp only; rw [i64w (by omega) (by omega)]; exact congrArg (Value.int .i64) (by have := HAT.out; omega)) (Below.refl _ _)
            · clear hix2; obtain rfl := Option.some.inj ho
              unfold Oper.wp
              simp only [execOp, Act.eval, s9]
              go_simp
              exact hK _ w1 rfl (Below.refl _ _)
            · clear hix2; obtain rfl := Option.some.inj ho
              unfold Oper.wp
              simp only [execOp, Act.eval, s2]
              go_simp
              exact hK _ w1 rfl (Below.refl _ _)
            · clear hix2; obtain rfl := Option.some.inj ho
              have e54 := hdep 8 54 (by omega) (by kernel_rfl) (by kernel_rfl)
              simp only at e54
              unfold Oper.wp
              simp only [execOp, Act.eval, e54]
              go_simp
              exact hK _ w1 rfl (Below.refl _ _)
            · clear hix2; obtain rfl := Option.some.inj ho
              unfold Oper.wp
              simp only [execOp, Act.eval, s2]
              go_simp
              exact hK _ w1 rfl (Below.refl _ _)
            · clear hix2; obtain rfl := Option.some.inj ho
              have e56 := hdep 10 56 (by omega) (by kernel_rfl) (by kernel_rfl)
              simp only at e56
              unfold Oper.wp
              simp only [execOp, Act.eval, e56]
              go_simp
              refine (CH.out w1 _ _ hV.dk).mono ?_
              rintro e' w4 ⟨rfl, hb4⟩
              exact hK _ w4 rfl hb4
            · clear hix2; obtain rfl := Option.some.inj ho
              have e53 := hdep 7 53 (by omega) (by kernel_rfl) (by kernel_rfl)
              simp only at e53
              have e55 := hdep 9 55 (by omega) (by kernel_rfl) (by kernel_rfl)
              simp only at e55
              have e57 := hdep 11 57 (by omega) (by kernel_rfl) (by kernel_rfl)
              simp only at e57
              unfold Oper.wp
              simp only [execOp, Act.eval, e53, e55, e57]
              go_simp
              refine (CE.out w1).mono ?_
              rintro e' w4 ⟨rfl, hb4⟩
              exact hK _ w4 rfl hb4
            · clear hix2; obtain rfl := Option.some.inj ho
              have e46 := hdep 0 46 (by omega) (by kernel_rfl) (by kernel_rfl)
              simp only at e46
              have e52 := hdep 6 52 (by omega) (by kernel_rfl) (by kernel_rfl)
              simp only at e52
              have e58 := hdep 12 58 (by omega) (by kernel_rfl) (by kernel_rfl)
              simp only at e58
              unfold Oper.wp
              simp only [execOp, Act.eval, e46, e52, e58]
              go_simp
              refine (CW.out w1 _ _ hV.dk).mono ?_
              rintro e' w4 ⟨vs4, vp4, rfl, hv4, hb4⟩
              exact hK _ w4 ⟨vs4, vp4, rfl, hv4⟩ hb4
            · clear hix2; obtain rfl := Option.some.inj ho
              have e59 := hdep 13 59 (by omega) (by kernel_rfl) (by kernel_rfl)
              simp only at e59
              obtain ⟨vs2, vp2, hx59, ht59⟩ := e59
              unfold Oper.wp
              simp only [execOp, Act.eval, hx59]
              go_simp
              exact hK _ w1 ⟨vs2, vp2, rfl, ht59⟩ (Below.refl _ _)
            · clear hix2; obtain rfl := Option.some.inj ho
              have e45 := hdep 14 45 (by omega) (by kernel_rfl) (by kernel_rfl)
              simp only at e45
              obtain ⟨vs2, vp2, hx45, ht45⟩ := e45
              unfold Oper.wp
              simp only [execOp, Act.eval, hx45]
              go_simp
              exact hK _ w1 ⟨vs2, vp2, rfl, ht45⟩ (Below.refl _ _)
            · exact hix2 rfl
            · clear hix2; obtain rfl := Option.some.inj ho
              unfold Oper.wp
              simp only [execOp, Act.eval]
              go_simp
              exact hK _ _ ⟨w1.heap.size, rfl, Var.zero w1, by have := hbel.size; have := HDR.out.size; have := hsw; omega⟩ ((Below.refl _ _).alloc (Nat.le_refl _) _)
          · rintro o ho a w1 hlen hold hbel hdep
            obtain rfl := Option.some.inj ho
            have e45 := hdep 14 45 (by omega) (by kernel_rfl) (by kernel_rfl)
            simp only at e45
            obtain ⟨vs2, vp2, hx45, ht45⟩ := e45
            refine ⟨_, rfl, fun w' => ?_⟩
            simp only [execOp, Act.eval, hx45]
            go_simp
          · rintro a w1 hdf hlen hold hbel hnew
            have e60 := hnew 15 60 (by omega) (by kernel_rfl)
            simp only at e60
            have e61 := hnew 16 61 (by omega) (by kernel_rfl)
            simp only at e61
            have e11 := hnew 17 11 (by omega) (by kernel_rfl)
            simp only at e11
            obtain ⟨vs2, vp2, e60, hd2⟩ := e60
            obtain ⟨bx, e11, hv9, hbx⟩ := e11
            have hact := act_eq [46, 47, 48, 49, 50, 51, 52, 53, 54, 55, 56, 57, 58, 59, 45, 60, 61, 11] hdf hlen (fun t ht => hold t (fun j hj hd => by
              have : j = 0 ∨ j = 1 ∨ j = 2 ∨ j = 3 ∨ j = 4 ∨ j = 5 ∨ j = 6 ∨ j = 7 ∨ j = 8 ∨ j = 9 ∨ j = 10 ∨ j = 11 ∨ j = 12 ∨ j = 13 ∨ j = 14 ∨ j = 15 ∨ j = 16 ∨ j = 17 := by omega
              rcases this with rfl | rfl | rfl | rfl | rfl | rfl | rfl | rfl | rfl | rfl | rfl | rfl | rfl | rfl | rfl | rfl | rfl | rfl <;> (obtain rfl := Option.some.inj hd; exact ht (by decide))))
            simp only [List.foldl, e61, e60, e11, List.setIfInBounds_toArray, List.set_cons_zero, List.set_cons_succ] at hact
            clear hdf hlen hold hnew e61 e60 e11
            generalize a.tmps.getD 46 undef = u46 at hact
            generalize a.tmps.getD 47 undef = u47 at hact
            generalize a.tmps.getD 48 undef = u48 at hact
            generalize a.tmps.getD 49 undef = u49 at hact
            generalize a.tmps.getD 50 undef = u50 at hact
            generalize a.tmps.getD 51 undef = u51 at hact
            generalize a.tmps.getD 52 undef = u52 at hact
            generalize a.tmps.getD 53 undef = u53 at hact
            generalize a.tmps.getD 54 undef = u54 at hact
            generalize a.tmps.getD 55 undef = u55 at hact
            generalize a.tmps.getD 56 undef = u56 at hact
            generalize a.tmps.getD 57 undef = u57 at hact
            generalize a.tmps.getD 58 undef = u58 at hact
            generalize a.tmps.getD 59 undef = u59 at hact
            generalize a.tmps.getD 45 undef = u45 at hact
            subst hact
            have kd := HDR.out.trans (hbel.mono (Nat.le_refl _))
            replace HV := Lib.hid (HV.out.keep kd)
            replace HZ := Lib.hid (HZ.out.keep kd)
            replace KB := Lib.hid (KB.out.trans (kd.mono KB.out.size))
            replace hsw := Nat.lt_of_lt_of_le hsw kd.size
            obtain ⟨A2, c2, P2, cp2, rfl, rfl, _, _, _, _⟩ := hd2.form
            have HX := Lib.hid (hv9.assign hd2)
            replace HV := Lib.hid (HV.out.other (A2 := A2) (c2 := c2) (P2 := P2) (cp2 := cp2) (d2 := D2) hv9 (by omega))
            replace HZ := Lib.hid (HZ.out.other (A2 := A2) (c2 := c2) (P2 := P2) (cp2 := cp2) (d2 := D2) hv9 (by omega))
            replace KB := Lib.hid (put4_below (A := A2) (c := c2) (P := P2) (cp := cp2) (d := D2) KB.out (show W.heap.size ≤ bx by omega))
            obtain ⟨t0, t1, t2, t3, r0, r1, r2, r3⟩ := hv9.facts
            simp only [noDisk, List.length_nil] at t0 t1 t2 t3
            clear hv9 hd2 hbel HDR kd
            replace hsw := HZ.out.blk.lt
            clear CW CE CH
            refine AtS.late (i := 18) (by simp only [List.getElem?_toArray, List.getElem?_cons_succ, List.getElem?_cons_zero]; rfl) (by kernel_rfl) (by kernel_rfl) (by kernel_rfl) ?_
            intro K hK
            go_simp
            refine hK _ _ ?_
            clear hK K
            change AtS _ _ _ _ _ _ _ _ _ (put4 w1 bx A2 c2 P2 cp2 D2)
            clear t0 t1 t2 t3 r0 r1 r2 r3
            generalize put4 w1 bx A2 c2 P2 cp2 D2 = w5 at *
            refine AtS.late (i := 19) (by simp only [List.getElem?_toArray, List.getElem?_cons_succ, List.getElem?_cons_zero]; rfl) (by kernel_rfl) (by kernel_rfl) (by kernel_rfl) ?_
            intro K hK
            go_simp
            refine hK _ _ (AtS.done (by kernel_rfl) (NoPanic.normal ?_))
            clear hK K
            go_upto_region 11 with (fail)
            obtain ⟨e2, z1, z2, z3, z4⟩ := HKP.out
            rcases e2 with e2 | e2
            · subst e2
              obtain ⟨A3, c3, P3, cp3, HX, hbx⟩ : ∃ A3 c3 P3 cp3, Hid (Var w5 bx A3 c3 P3 cp3 D2) ∧ W.heap.size + 2 ≤ bx := ⟨_, _, _, _, HX, hbx⟩
              have HE3 := Lib.hid (HE.out.trans (if_neg (by simp)))
              have hsz2 : D2.size.toNat = d.size.toNat := by rw [z2]
              have hpl := HLN.out
              have hpn := HP.out
              have CW := Lib.hid (fun w vs vp h => rwr_any w vs vp D2 h z1 0 1 MK (by rw [hsz2, Nat.one_mul]; exact HMS.out) (by rw [z3]; omega) (by omega))
              rw [hsz2, chkB_one HMS.out, show (wrO 0 [MK]).map some ++ [none] = [some (0, MK), none] from rfl] at CW
              obtain ⟨r4, hr4⟩ : ∃ r, r = runD D2 [some (0, MK), none] := ⟨_, rfl⟩
              rw [← hr4] at HE3 CW
              clear hr4
              obtain ⟨D3, N3⟩ := r4
              simp only at HE3 CW
              clear z1 z2 z3 z4 HKP HE hsz2 hpl hpn HP HLN HFS HMS
              go_upto_region 13 with (fail)
              have HDR : Hid (Below w5.heap.size w5 w5.drew) := below_drew1 (Below.refl _ _)
              generalize w5 = w2 at *
              refine prom_start3 (by kernel_rfl) 8 7 [6] (fun i v w => match i with
                | 0 => v = .agg #[.int .i64 D2.size, .slice A3 D2.secs.length c3, .slice P3 D2.pend.length cp3, .int .i64 D2.left]
                | 1 => v = .int .i64 (ot : Int)
                | 2 => v = .pointer (some ⟨W.heap.size, 0, none⟩)
                | 3 => v = .int .i64 d.size
                | 4 => v = .string MK
                | 5 => ∃ vs2 vp2, v = .tuple #[.agg #[.int .i64 D3.size, vs2, vp2, .int .i64 D3.left], .int .i64 N3] ∧ DskP w vs2 vp2 D3
                | 6 => ∃ vs2 vp2, v = .agg #[.int .i64 D3.size, vs2, vp2, .int .i64 D3.left] ∧ DskP w vs2 vp2 D3
                | _ => v = .int .i64 N3)  (by kernel_rfl) (fun i v w w' h hb => ?_) ?_ ?_ ?_
              · match i, h with
                | 0, h => exact h
                | 1, h => exact h
                | 2, h => exact h
                | 3, h => exact h
                | 4, h => exact h
                | 5, h => exact (let ⟨vs2, vp2, e, hp⟩ := h; ⟨vs2, vp2, e, hp.keep (Keeps.of_below hb)⟩)
                | 6, h => exact (let ⟨vs2, vp2, e, hp⟩ := h; ⟨vs2, vp2, e, hp.keep (Keeps.of_below hb)⟩)
                | 7, h => exact h
                | _ + 8, h => exact h
              · rintro i o hi hix ho a w1 hdf hlen hold hbel hdep K hK
                clear hdf
                have hix2 : ∀ {A : Prop}, i = 7 → A := fun e => absurd e hix
                clear hix
                have hV := (HV.out.keep HDR.out).keep hbel
                obtain ⟨q0, q1, q2, q3, _⟩ := hV.facts
                have hX := (HX.out.keep HDR.out).keep hbel
                obtain ⟨x0, x1, x2, x3, _⟩ := hX.facts
                have s2 : a.tmps.getD 2 undef = .pointer (some ⟨W.heap.size, 0, none⟩) := by
                  rw [Array.getD_eq_getD_getElem?, hold 2 ?_]
                  · rfl
                  · intro j hj
                    have : j = 0 ∨ j = 1 ∨ j = 2 ∨ j = 3 ∨ j = 4 ∨ j = 5 ∨ j = 6 ∨ j = 7 := by omega
                    rcases this with rfl | rfl | rfl | rfl | rfl | rfl | rfl | rfl <;> decide
                have s10 : a.tmps.getD 10 undef = .int .i64 (ot : Int) := by
                  rw [Array.getD_eq_getD_getElem?, hold 10 ?_]
                  · rfl
                  · intro j hj
                    have : j = 0 ∨ j = 1 ∨ j = 2 ∨ j = 3 ∨ j = 4 ∨ j = 5 ∨ j = 6 ∨ j = 7 := by omega
                    rcases this with rfl | rfl | rfl | rfl | rfl | rfl | rfl | rfl <;> decide
                have s11 : a.tmps.getD 11 undef = .pointer (some ⟨bx, 0, none⟩) := by
                  rw [Array.getD_eq_getD_getElem?, hold 11 ?_]
                  · rfl
                  · intro j hj
                    have : j = 0 ∨ j = 1 ∨ j = 2 ∨ j = 3 ∨ j = 4 ∨ j = 5 ∨ j = 6 ∨ j = 7 := by omega
                    rcases this with rfl | rfl | rfl | rfl | rfl | rfl | rfl | rfl <;> decide
                have hi' : i = 0 ∨ i = 1 ∨ i = 2 ∨ i = 3 ∨ i = 4 ∨ i = 5 ∨ i = 6 ∨ i = 7 := by omega
                rcases hi' with rfl | rfl | rfl | rfl | rfl | rfl | rfl | rfl
                · clear hix2; obtain rfl := Option.some.inj ho
                  unfold Oper.wp
                  simp only [execOp, Act.eval, s11]
                  go_simp
                  exact hK _ w1 rfl (Below.refl _ _)
                · clear hix2; obtain rfl := Option.some.inj ho
                  unfold Oper.wp
                  simp only [execOp, Act.eval, s10]
                  go_simp
                  exact hK _ w1 rfl (Below.refl _ _)
                · clear hix2; obtain rfl := Option.some.inj ho
                  unfold Oper.wp
                  simp only [execOp, Act.eval, s2]
                  go_simp
                  exact hK _ w1 rfl (Below.refl _ _)
                · clear hix2; obtain rfl := Option.some.inj ho
                  have e68 := hdep 2 68 (by omega) (by kernel_rfl) (by kernel_rfl)
                  simp only at e68
                  unfold Oper.wp
                  simp only [execOp, Act.eval, e68]
                  go_simp
                  exact hK _ w1 rfl (Below.refl _ _)
                · clear hix2; obtain rfl := Option.some.inj ho
                  have e67 := hdep 1 67 (by omega) (by kernel_rfl) (by kernel_rfl)
                  simp only at e67
                  have e69 := hdep 3 69 (by omega) (by kernel_rfl) (by kernel_rfl)
                  simp only at e69
                  unfold Oper.wp
                  simp only [execOp, Act.eval, e67, e69]
                  go_simp
                  refine (CM.out w1).mono ?_
                  rintro e' w4 ⟨rfl, hb4⟩
                  exact hK _ w4 rfl hb4
                · clear hix2; obtain rfl := Option.some.inj ho
                  have e66 := hdep 0 66 (by omega) (by kernel_rfl) (by kernel_rfl)
                  simp only at e66
                  have e70 := hdep 4 70 (by omega) (by kernel_rfl) (by kernel_rfl)
                  simp only at e70
                  unfold Oper.wp
                  simp only [execOp, Act.eval, e66, e70]
                  go_simp
                  refine (CW.out w1 _ _ hX.dk).mono ?_
                  rintro e' w4 ⟨vs4, vp4, rfl, hv4, hb4⟩
                  exact hK _ w4 ⟨vs4, vp4, rfl, hv4⟩ hb4
                · clear hix2; obtain rfl := Option.some.inj ho
                  have e71 := hdep 5 71 (by omega) (by kernel_rfl) (by kernel_rfl)
                  simp only at e71
                  obtain ⟨vs2, vp2, hx71, ht71⟩ := e71
                  unfold Oper.wp
                  simp only [execOp, Act.eval, hx71]
                  go_simp
                  exact hK _ w1 ⟨vs2, vp2, rfl, ht71⟩ (Below.refl _ _)
                · exact hix2 rfl
              · rintro o ho a w1 hlen hold hbel hdep
                obtain rfl := Option.some.inj ho
                have e71 := hdep 5 71 (by omega) (by kernel_rfl) (by kernel_rfl)
                simp only at e71
                obtain ⟨vs2, vp2, hx71, ht71⟩ := e71
                refine ⟨_, rfl, fun w' => ?_⟩
                simp only [execOp, Act.eval, hx71]
                go_simp
              · rintro a w1 hdf hlen hold hbel hnew
                have e72 := hnew 6 72 (by omega) (by kernel_rfl)
                simp only at e72
                have e73 := hnew 7 73 (by omega) (by kernel_rfl)
                simp only at e73
                obtain ⟨vs2, vp2, e72, hd2⟩ := e72
                have hact := act_eq [66, 67, 68, 69, 70, 71, 72, 73] hdf hlen (fun t ht => hold t (fun j hj hd => by
                  have : j = 0 ∨ j = 1 ∨ j = 2 ∨ j = 3 ∨ j = 4 ∨ j = 5 ∨ j = 6 ∨ j = 7 := by omega
                  rcases this with rfl | rfl | rfl | rfl | rfl | rfl | rfl | rfl <;> (obtain rfl := Option.some.inj hd; exact ht (by decide))))
                simp only [List.foldl, e73, e72, List.setIfInBounds_toArray, List.set_cons_zero, List.set_cons_succ] at hact
                clear hdf hlen hold hnew e73 e72
                generalize a.tmps.getD 66 undef = u66 at hact
                generalize a.tmps.getD 67 undef = u67 at hact
                generalize a.tmps.getD 68 undef = u68 at hact
                generalize a.tmps.getD 69 undef = u69 at hact
                generalize a.tmps.getD 70 undef = u70 at hact
                generalize a.tmps.getD 71 undef = u71 at hact
                subst hact
                have kd := HDR.out.trans (hbel.mono (Nat.le_refl _))
                replace HV := Lib.hid (HV.out.keep kd)
                replace HZ := Lib.hid (HZ.out.keep kd)
                replace KB := Lib.hid (KB.out.trans (kd.mono KB.out.size))
                replace hsw := Nat.lt_of_lt_of_le hsw kd.size
                replace HX := Lib.hid (HX.out.keep kd)
                obtain ⟨A2, c2, P2, cp2, rfl, rfl, _, _, _, _⟩ := hd2.form
                obtain ⟨t0, t1, t2, t3, r0, r1, r2, r3⟩ := HZ.out.facts
                simp only [noDisk, List.length_nil] at t0 t1 t2 t3
                replace HZ := Lib.hid (HZ.out.assign hd2)
                replace KB := Lib.hid (put4_below (A := A2) (c := c2) (P := P2) (cp := cp2) (d := D3) KB.out (show W.heap.size ≤ W.heap.size + 1 by omega))
                clear hd2 hbel HDR kd HV HX
                clear CW CM
                refine AtS.late (i := 8) (by simp only [List.getElem?_toArray, List.getElem?_cons_succ, List.getElem?_cons_zero]; rfl) (by kernel_rfl) (by kernel_rfl) (by kernel_rfl) ?_
                intro K hK
                go_simp
                refine hK _ _ ?_
                clear hK K
                change AtS _ _ _ _ _ _ _ _ _ (put4 w1 (W.heap.size + 1) A2 c2 P2 cp2 D3)
                clear t0 t1 t2 t3 r0 r1 r2 r3
                generalize put4 w1 (W.heap.size + 1) A2 c2 P2 cp2 D3 = w5 at *
                refine AtS.late (i := 9) (by simp only [List.getElem?_toArray, List.getElem?_cons_succ, List.getElem?_cons_zero]; rfl) (by kernel_rfl) (by kernel_rfl) (by kernel_rfl) ?_
                intro K hK
                go_simp
                refine hK _ _ (AtS.done (by kernel_rfl) (NoPanic.normal ?_))
                clear hK K
                obtain ⟨k0, k1, k2, k3, _⟩ := HZ.out.facts
                go_wp2
                exact bodyPost_ret (v := .tuple #[.agg #[.int .i64 D3.size, .slice A2 D3.secs.length c2, .slice P2 D3.pend.length cp2, .int .i64 D3.left], .int .i64 N3]) (by simp [results, Try.results25, go_sem, k0, k1, k2, k3]) rfl (by rw [HE3.out]; exact ⟨_, _, rfl, HZ.out.dk, KB.out⟩)
            · subst e2
              have HE3 : Hid (R = (D2, 20)) := by show _ = _; rw [HE.out, if_pos (by simp)]
              clear z1 z2 z3 z4 HKP HE
              obtain ⟨q0, q1, q2, q3, _⟩ := HX.out.facts
              obtain ⟨t0, t1, t2, t3, r0, r1, r2, r3⟩ := HZ.out.facts
              simp only [noDisk, List.length_nil] at t0 t1 t2 t3
              have VR := Lib.hid (HZ.out.assign HX.out.dk)
              have KR := Lib.hid (put4_below (A := A2) (c := c2) (P := P2) (cp := cp2) (d := D2) KB.out (show W.heap.size ≤ W.heap.size + 1 by omega))
              go_wp2
              change bodyPost _ _ _ _ _ (put4 w5 (W.heap.size + 1) A2 c2 P2 cp2 D2)
              obtain ⟨k0, k1, k2, k3, _⟩ := VR.out.facts
              clear q0 q1 q2 q3 t0 t1 t2 t3 r0 r1 r2 r3
              generalize put4 w5 (W.heap.size + 1) A2 c2 P2 cp2 D2 = wx at *
              exact bodyPost_ret (v := .tuple #[.agg #[.int .i64 D2.size, .slice A2 D2.secs.length c2, .slice P2 D2.pend.length cp2, .int .i64 D2.left], .int .i64 20]) (by simp [results, Try.results25, go_sem, k0, k1, k2, k3]) rfl (by rw [HE3.out]; exact ⟨_, _, rfl, VR.out.dk, KR.out⟩)
        · have hc : decide (hf < S.length) = true := decide_eq_true (by omega)
          rw [hc]
          clear hc
          have HE : Hid (R = (noDisk, 19)) := HF3.out.trans (if_pos (by omega))
          clear HF3
          obtain ⟨t0, t1, t2, t3, r0, r1, r2, r3⟩ := HZ.out.facts
          simp only [noDisk, List.length_nil] at t0 t1 t2 t3
          have VR := Lib.hid (HZ.out.assign (d' := noDisk) (A' := none) (c' := 0) (P' := none) (cp' := 0) (Dsk.nodisk w1))
          have KR := Lib.hid (put4_below (A := none) (c := 0) (P := none) (cp := 0) (d := noDisk) KB.out (show W.heap.size ≤ W.heap.size + 1 by omega))
          go_wp2
          change bodyPost _ _ _ _ _ (put4 w1 (W.heap.size + 1) none 0 none 0 noDisk)
          obtain ⟨k0, k1, k2, k3, _⟩ := VR.out.facts
          clear t0 t1 t2 t3 r0 r1 r2 r3
          generalize put4 w1 (W.heap.size + 1) none 0 none 0 noDisk = wx at *
          exact bodyPost_ret (v := .tuple #[.agg #[.int .i64 0, .slice none 0 0, .slice none 0 0, .int .i64 0], .int .i64 19]) (by simp only [noDisk, List.length_nil] at k0 k1 k2 k3; simp [results, Try.results25, go_sem, k0, k1, k2, k3]) rfl (by rw [HE.out]; exact ⟨_, _, rfl, VR.out.dk, KR.out⟩)
    · have hfE : frE (strB [1]) l d.size.toNat = (⟨#[]⟩, 4) := by
        unfold frE
        rw [if_neg (by rintro rfl; exact hok ⟨Nat.zero_le _, fun x hx => by cases hx⟩), if_pos hok]
      rw [hfE] at CF
      simp only at CF
      replace CF := Lib.hid CF
      have HE : Hid (R = (noDisk, 4)) := HF2.out.trans (if_pos hok)
      clear hfE HF2 HT hok hlm hlc hbig ha12 ha
      obtain ⟨q0, q1, q2, q3, _⟩ := HV.out.facts
      go_wp2_with fail
      refine CF.out.mono ?_
      rintro e w3 ⟨rfl, hb⟩
      clear CF q0 q1 q2 q3
      replace HV := Lib.hid (HV.out.keep hb)
      replace HZ := Lib.hid (HZ.out.keep hb)
      replace KB := Lib.hid (KB.out.trans (hb.mono KB.out.size))
      clear hb
      obtain ⟨t0, t1, t2, t3, r0, r1, r2, r3⟩ := HZ.out.facts
      simp only [noDisk, List.length_nil] at t0 t1 t2 t3
      have VR := Lib.hid (HZ.out.assign (d' := noDisk) (A' := none) (c' := 0) (P' := none) (cp' := 0) (Dsk.nodisk w3))
      have KR := Lib.hid (put4_below (A := none) (c := 0) (P := none) (cp := 0) (d := noDisk) KB.out (show W.heap.size ≤ W.heap.size + 1 by omega))
      go_wp2
      change bodyPost _ _ _ _ _ (put4 w3 (W.heap.size + 1) none 0 none 0 noDisk)
      obtain ⟨k0, k1, k2, k3, _⟩ := VR.out.facts
      clear t0 t1 t2 t3 r0 r1 r2 r3
      generalize put4 w3 (W.heap.size + 1) none 0 none 0 noDisk = wx at *
      exact bodyPost_ret (v := .tuple #[.agg #[.int .i64 0, .slice none 0 0, .slice none 0 0, .int .i64 0], .int .i64 4]) (by simp only [noDisk, List.length_nil] at k0 k1 k2 k3; simp [results, Try.results25, go_sem, k0, k1, k2, k3]) rfl (by rw [HE.out]; exact ⟨_, _, rfl, VR.out.dk, KR.out⟩)
  · have HE : Hid (R = (noDisk, e0)) := HF.out.trans (if_pos he)
    clear HF HU HA HT hlm hlc hbig
    obtain ⟨t0, t1, t2, t3, r0, r1, r2, r3⟩ := HZ.out.facts
    simp only [noDisk, List.length_nil] at t0 t1 t2 t3
    have VR := Lib.hid (HZ.out.assign (d' := noDisk) (A' := none) (c' := 0) (P' := none) (cp' := 0) (Dsk.nodisk w2))
    have KR := Lib.hid (put4_below (A := none) (c := 0) (P := none) (cp := 0) (d := noDisk) KB.out (show W.heap.size ≤ W.heap.size + 1 by omega))
    go_wp2
    change bodyPost _ _ _ _ _ (put4 w2 (W.heap.size + 1) none 0 none 0 noDisk)
    obtain ⟨k0, k1, k2, k3, _⟩ := VR.out.facts
    clear t0 t1 t2 t3 r0 r1 r2 r3
    generalize put4 w2 (W.heap.size + 1) none 0 none 0 noDisk = wx at *
    exact bodyPost_ret (v := .tuple #[.agg #[.int .i64 0, .slice none 0 0, .slice none 0 0, .int .i64 0], .int .i64 e0]) (by simp only [noDisk, List.length_nil] at k0 k1 k2 k3; simp [results, Try.results25, go_sem, k0, k1, k2, k3]) rfl (by rw [HE.out]; exact ⟨_, _, rfl, VR.out.dk, KR.out⟩)
end Go.Proofs.Ytockmhhiomdlkaa
