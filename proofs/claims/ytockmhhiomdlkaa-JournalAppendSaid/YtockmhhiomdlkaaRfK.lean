/- The reference's Format. -/
import Derived.Test.YtockmhhiomdlkaaRfJ
namespace Go.Proofs.Ytockmhhiomdlkaa
set_option linter.unusedVariables false
set_option linter.unusedSimpArgs false
open Go.RowKit

theorem chkB_one {s : ByteArray} {sz : Nat} (h : s.size = sz) : chkB s sz 1 = [s] := by
  have e : s.extract 0 sz = s := by rw [← h]; exact ByteArray.extract_zero_size
  unfold chkB
  simp [e]
theorem runD_one {d : Dk} {w : Wop} (rest : List (Option Wop)) : runD d (some w :: rest) = if wrE d w.1 w.2 ≠ 0 then (wrD d w.1 w.2, wrE d w.1 w.2) else runD (wrD d w.1 w.2) rest := rfl
set_option maxRecDepth 100000 in
set_option maxHeartbeats 8000000 in
theorem rformat_any (W : World) (vs vp : Value) (d : Dk) (h : DskP W vs vp d) (hpn : d.pend.length ≤ 80000) :
    Calls Try.prog 22 #[.agg #[.int .i64 d.size, vs, vp, .int .i64 d.left]] W (DkPost W (fmtD d).1 (fmtD d).2) := by
  obtain ⟨A, c, P, cp, rfl, rfl, hc, hcp, hm1, hmp⟩ := h.form
  have V0 := (Var.new h).alloc (.cells #[.int .i64 0, .slice none 0 0, .slice none 0 0, .int .i64 0] 25)
  have Z0 : Var ((W.alloc (.cells #[.int .i64 d.size, .slice A d.secs.length c, .slice P d.pend.length cp, .int .i64 d.left] 25)).alloc (.cells #[.int .i64 0, .slice none 0 0, .slice none 0 0, .int .i64 0] 25)) (W.alloc (.cells #[.int .i64 d.size, .slice A d.secs.length c, .slice P d.pend.length cp, .int .i64 d.left] 25)).heap.size none 0 none 0 noDisk := Var.zero _
  rw [World.size_alloc] at Z0
  have K0 := ((Below.refl W.heap.size W).alloc (Nat.le_refl _) (.cells #[.int .i64 d.size, .slice A d.secs.length c, .slice P d.pend.length cp, .int .i64 d.left] 25)).alloc (by simp) (.cells #[.int .i64 0, .slice none 0 0, .slice none 0 0, .int .i64 0] 25)
  have HF : Hid (fmtD d = if chkJ d ≠ 0 then (noDisk, chkJ d) else runD d (twoO [(firstS d.secs.length 1, zeroS d.size.toNat), (firstS d.secs.length 2, zeroS d.size.toNat)] (0, markS d.size.toNat 1))) := rfl
  generalize fmtD d = R at *
  have hv0 : ¬ chkJ d ≠ 0 → Valid d ∧ 3 ≤ d.secs.length := fun h => chkJ_zero (by omega)
  go_enter Try.func22, Try.ntmps22
  go_upto_region 1 with (fail)
  generalize (W.alloc (.cells #[.int .i64 d.size, .slice A d.secs.length c, .slice P d.pend.length cp, .int .i64 d.left] 25)).alloc (.cells #[.int .i64 0, .slice none 0 0, .slice none 0 0, .int .i64 0] 25) = w1 at *
  have CC := Lib.hid (rjcheck_any w1 _ _ d V0.dk)
  have HV := Lib.hid V0
  have HZ := Lib.hid Z0
  have KB := Lib.hid K0
  clear V0 Z0 K0
  obtain ⟨N1, hN1⟩ : ∃ n, n = chkJ d := ⟨_, rfl⟩
  rw [← hN1] at HF CC hv0
  clear hN1 hm1 hmp hc hcp h
  obtain ⟨q0, q1, q2, q3, _⟩ := HV.out.facts
  go_upto_region 2 with (refine CC.out.mono ?_; rintro e w2 ⟨rfl, hb⟩)
  clear q0 q1 q2 q3 CC
  replace HV := Lib.hid (HV.out.keep hb)
  replace HZ := Lib.hid (HZ.out.keep hb)
  replace KB := Lib.hid (KB.out.trans (hb.mono KB.out.size))
  clear hb
  by_cases hn : N1 = 0
  · subst hn
    obtain ⟨hv, hn3⟩ := hv0 (by simp)
    clear hv0
    have hsw := HZ.out.blk.lt
    have hv1 := hv.s1
    have hv2 := hv.s2
    have hv4 := hv.n2
    obtain ⟨hh1, hh2⟩ := half_bd hn3
    have hf2 : firstS d.secs.length 2 = 1 + halfN d.secs.length := by unfold firstS; omega
    have hf1 : firstS d.secs.length 1 = 1 := by unfold firstS; omega
    have HF2 := Lib.hid (HF.out.trans (if_neg (by simp)))
    rw [hf1, hf2] at HF2
    have hzs := zeroS_size d.size.toNat
    have hms := markS_size (sz := d.size.toNat) (by omega) 1
    have CZ := rzeros_any d.size.toNat (by omega)
    have CM := rhead_any 1 d.size.toNat (by omega) (by omega) (by omega)
    rw [show ((d.size.toNat : Nat) : Int) = d.size by omega] at CZ CM
    have CZ := Lib.hid CZ
    have CZ7 := CZ
    have CM := Lib.hid CM
    have CH := Lib.hid (fun w vs vp h => rhalf_any w vs vp d h)
    obtain ⟨Z, hZ⟩ : ∃ z, z = zeroS d.size.toNat := ⟨_, rfl⟩
    obtain ⟨MK, hMK⟩ : ∃ z, z = markS d.size.toNat 1 := ⟨_, rfl⟩
    obtain ⟨hf, hhf⟩ : ∃ z, z = halfN d.secs.length := ⟨_, rfl⟩
    rw [← hZ] at hzs HF2 CZ CZ7
    rw [← hMK] at hms HF2 CM
    rw [← hhf] at hh1 hh2 HF2 CH
    clear hZ hMK hhf hf1 hf2 HF
    have hhb : 1 + hf < d.secs.length := by omega
    have hhB : hf ≤ 1000 := by omega
    have hkp := wrD_keep (d := d) hv (i := 1) (s := Z) (by omega) (by omega)
    have CW := Lib.hid (fun w vs vp h => rwrite_any w vs vp d h (by omega) ((1 : Nat) : Int) (by omega) (by omega) Z)
    have HE : R = if wrE d ((1 : Nat) : Int) Z ≠ 0 then (wrD d ((1 : Nat) : Int) Z, wrE d ((1 : Nat) : Int) Z) else runD (wrD d ((1 : Nat) : Int) Z) ([some (1 + hf, Z), none] ++ [some (0, MK), none]) := by
      rw [HF2.out]; rfl
    obtain ⟨D2, hD2⟩ : ∃ x, x = wrD d ((1 : Nat) : Int) Z := ⟨_, rfl⟩
    obtain ⟨N2, hN2⟩ : ∃ x, x = wrE d ((1 : Nat) : Int) Z := ⟨_, rfl⟩
    rw [← hD2, ← hN2] at hkp HE CW
    have HKP := Lib.hid hkp
    have HE := Lib.hid HE
    have HSZ := Lib.hid hzs
    have HMS := Lib.hid hms
    have HVD := Lib.hid hv
    have HP := Lib.hid hpn
    clear hD2 hN2 hkp hzs hms hv hpn HF2 hh1 hh2
    go_upto_region 4 with (fail)
    have HDR : Hid (Below w2.heap.size w2 w2.drew) := below_drew1 (Below.refl _ _)
    refine prom_start3 (by kernel_rfl) 9 7 [6] (fun i v w => match i with
      | 0 => v = .agg #[.int .i64 d.size, .slice A d.secs.length c, .slice P d.pend.length cp, .int .i64 d.left]
      | 1 => v = .pointer (some ⟨W.heap.size, 0, none⟩)
      | 2 => v = .int .i64 d.size
      | 3 => v = .string Z
      | 4 => ∃ vs2 vp2, v = .tuple #[.agg #[.int .i64 D2.size, vs2, vp2, .int .i64 D2.left], .int .i64 N2] ∧ DskP w vs2 vp2 D2
      | 5 => ∃ vs2 vp2, v = .tuple #[.agg #[.int .i64 D2.size, vs2, vp2, .int .i64 D2.left], .int .i64 N2] ∧ DskP w vs2 vp2 D2
      | 6 => ∃ vs2 vp2, v = .agg #[.int .i64 D2.size, vs2, vp2, .int .i64 D2.left] ∧ DskP w vs2 vp2 D2
      | 7 => v = .int .i64 N2
      | _ => ∃ b, v = .pointer (some ⟨b, 0, none⟩) ∧ Var w b none 0 none 0 noDisk ∧ W.heap.size + 2 ≤ b)  (by kernel_rfl) (fun i v w w' h hb => ?_) ?_ ?_ ?_
    · match i, h with
      | 0, h => exact h
      | 1, h => exact h
      | 2, h => exact h
      | 3, h => exact h
      | 4, h => exact (let ⟨vs2, vp2, e, hp⟩ := h; ⟨vs2, vp2, e, hp.keep (Keeps.of_below hb)⟩)
      | 5, h => exact (let ⟨vs2, vp2, e, hp⟩ := h; ⟨vs2, vp2, e, hp.keep (Keeps.of_below hb)⟩)
      | 6, h => exact (let ⟨vs2, vp2, e, hp⟩ := h; ⟨vs2, vp2, e, hp.keep (Keeps.of_below hb)⟩)
      | 7, h => exact h
      | 8, h => exact (let ⟨b, e, hp, hq⟩ := h; ⟨b, e, hp.keep hb, hq⟩)
      | _ + 9, h => exact (let ⟨b, e, hp, hq⟩ := h; ⟨b, e, hp.keep hb, hq⟩)
    · rintro i o hi hix ho a w1 hdf hlen hold hbel hdep K hK
      clear hdf
      have hix2 : ∀ {A : Prop}, i = 7 → A := fun e => absurd e hix
      clear hix
      have hV := (HV.out.keep HDR.out).keep hbel
      obtain ⟨q0, q1, q2, q3, _⟩ := hV.facts
      have s1 : a.tmps.getD 1 undef = .pointer (some ⟨W.heap.size, 0, none⟩) := by
        rw [Array.getD_eq_getD_getElem?, hold 1 ?_]
        · rfl
        · intro j hj
          have : j = 0 ∨ j = 1 ∨ j = 2 ∨ j = 3 ∨ j = 4 ∨ j = 5 ∨ j = 6 ∨ j = 7 ∨ j = 8 := by omega
          rcases this with rfl | rfl | rfl | rfl | rfl | rfl | rfl | rfl | rfl <;> decide
      have hi' : i = 0 ∨ i = 1 ∨ i = 2 ∨ i = 3 ∨ i = 4 ∨ i = 5 ∨ i = 6 ∨ i = 7 ∨ i = 8 := by omega
      rcases hi' with rfl | rfl | rfl | rfl | rfl | rfl | rfl | rfl | rfl
      · clear hix2; obtain rfl := Option.some.inj ho
        unfold Oper.wp
        simp only [execOp, Act.eval, s1]
        go_simp
        exact hK _ w1 rfl (Below.refl _ _)
      · clear hix2; obtain rfl := Option.some.inj ho
        unfold Oper.wp
        simp only [execOp, Act.eval, s1]
        go_simp
        exact hK _ w1 rfl (Below.refl _ _)
      · clear hix2; obtain rfl := Option.some.inj ho
        have e15 := hdep 1 15 (by omega) (by kernel_rfl) (by kernel_rfl)
        simp only at e15
        unfold Oper.wp
        simp only [execOp, Act.eval, e15]
        go_simp
        exact hK _ w1 rfl (Below.refl _ _)
      · clear hix2; obtain rfl := Option.some.inj ho
        have e16 := hdep 2 16 (by omega) (by kernel_rfl) (by kernel_rfl)
        simp only at e16
        unfold Oper.wp
        simp only [execOp, Act.eval, e16]
        go_simp
        refine (CZ.out w1).mono ?_
        rintro e' w4 ⟨rfl, hb4⟩
        exact hK _ w4 rfl hb4
      · clear hix2; obtain rfl := Option.some.inj ho
        have e14 := hdep 0 14 (by omega) (by kernel_rfl) (by kernel_rfl)
        simp only at e14
        have e17 := hdep 3 17 (by omega) (by kernel_rfl) (by kernel_rfl)
        simp only at e17
        unfold Oper.wp
        simp only [execOp, Act.eval, e14, e17]
        go_simp
        refine (CW.out w1 _ _ hV.dk).mono ?_
        rintro e' w4 ⟨vs4, vp4, rfl, hv4, hb4⟩
        exact hK _ w4 ⟨vs4, vp4, rfl, hv4⟩ hb4
      · clear hix2; obtain rfl := Option.some.inj ho
        have e18 := hdep 4 18 (by omega) (by kernel_rfl) (by kernel_rfl)
        simp only at e18
        obtain ⟨vs2, vp2, hx18, ht18⟩ := e18
        unfold Oper.wp
        simp only [execOp, Act.eval, hx18]
        go_simp
        exact hK _ w1 ⟨vs2, vp2, rfl, ht18⟩ (Below.refl _ _)
      · clear hix2; obtain rfl := Option.some.inj ho
        have e13 := hdep 5 13 (by omega) (by kernel_rfl) (by kernel_rfl)
        simp only at e13
        obtain ⟨vs2, vp2, hx13, ht13⟩ := e13
        unfold Oper.wp
        simp only [execOp, Act.eval, hx13]
        go_simp
        exact hK _ w1 ⟨vs2, vp2, rfl, ht13⟩ (Below.refl _ _)
      · exact hix2 rfl
      · clear hix2; obtain rfl := Option.some.inj ho
        unfold Oper.wp
        simp only [execOp, Act.eval]
        go_simp
        exact hK _ _ ⟨w1.heap.size, rfl, Var.zero w1, by have := hbel.size; have := HDR.out.size; have := hsw; omega⟩ ((Below.refl _ _).alloc (Nat.le_refl _) _)
    · rintro o ho a w1 hlen hold hbel hdep
      obtain rfl := Option.some.inj ho
      have e13 := hdep 5 13 (by omega) (by kernel_rfl) (by kernel_rfl)
      simp only at e13
      obtain ⟨vs2, vp2, hx13, ht13⟩ := e13
      refine ⟨_, rfl, fun w' => ?_⟩
      simp only [execOp, Act.eval, hx13]
      go_simp
    · rintro a w1 hdf hlen hold hbel hnew
      have e19 := hnew 6 19 (by omega) (by kernel_rfl)
      simp only at e19
      have e20 := hnew 7 20 (by omega) (by kernel_rfl)
      simp only at e20
      have e5 := hnew 8 5 (by omega) (by kernel_rfl)
      simp only at e5
      obtain ⟨vs2, vp2, e19, hd2⟩ := e19
      obtain ⟨bx, e5, hv9, hbx⟩ := e5
      have hact := act_eq [14, 15, 16, 17, 18, 13, 19, 20, 5] hdf hlen (fun t ht => hold t (fun j hj hd => by
        have : j = 0 ∨ j = 1 ∨ j = 2 ∨ j = 3 ∨ j = 4 ∨ j = 5 ∨ j = 6 ∨ j = 7 ∨ j = 8 := by omega
        rcases this with rfl | rfl | rfl | rfl | rfl | rfl | rfl | rfl | rfl <;> (obtain rfl := Option.some.inj hd; exact ht (by decide))))
      simp only [List.foldl, e20, e19, e5, List.setIfInBounds_toArray, List.set_cons_zero, List.set_cons_succ] at hact
      clear hdf hlen hold hnew e20 e19 e5
      generalize a.tmps.getD 14 undef = u14 at hact
      generalize a.tmps.getD 15 undef = u15 at hact
      generalize a.tmps.getD 16 undef = u16 at hact
      generalize a.tmps.getD 17 undef = u17 at hact
      generalize a.tmps.getD 18 undef = u18 at hact
      generalize a.tmps.getD 13 undef = u13 at hact
      subst hact
      have kd := HDR.out.trans (hbel.mono (Nat.le_refl _))
      replace HV := Lib.hid (HV.out.keep kd)
      replace HZ := Lib.hid (HZ.out.keep kd)
      replace KB := Lib.hid (KB.out.trans (kd.mono KB.out.size))
      replace hsw := Nat.lt_of_lt_of_le hsw kd.size
      obtain ⟨A2, c2, P2, cp2, rfl, rfl, _, _, _, _⟩ := hd2.form
      have HX := Lib.hid (hv9.assign hd2)
      replace HV := Lib.hid (HV.out.other (A2 := A2) (c2 := c2) (P2 := P2) (cp2 := cp2) (d2 := D2) hv9 (by omega))
      replace HZ := Lib.hid (HZ.out.other (A2 := A2) (c2 := c2) (P2 := P2) (cp2 := cp2) (d2 := D2) hv9 (by omega))
      replace KB := Lib.hid (put4_below (A := A2) (c := c2) (P := P2) (cp := cp2) (d := D2) KB.out (show W.heap.size ≤ bx by omega))
      obtain ⟨t0, t1, t2, t3, r0, r1, r2, r3⟩ := hv9.facts
      simp only [noDisk, List.length_nil] at t0 t1 t2 t3
      clear hv9 hd2 hbel HDR kd
      replace hsw := HZ.out.blk.lt
      clear CW CZ
      refine AtS.late (i := 9) (by simp only [List.getElem?_toArray, List.getElem?_cons_succ, List.getElem?_cons_zero]; rfl) (by kernel_rfl) (by kernel_rfl) (by kernel_rfl) ?_
      intro K hK
      go_simp
      refine hK _ _ ?_
      clear hK K
      change AtS _ _ _ _ _ _ _ _ _ (put4 w1 bx A2 c2 P2 cp2 D2)
      clear t0 t1 t2 t3 r0 r1 r2 r3
      generalize put4 w1 bx A2 c2 P2 cp2 D2 = w5 at *
      refine AtS.late (i := 10) (by simp only [List.getElem?_toArray, List.getElem?_cons_succ, List.getElem?_cons_zero]; rfl) (by kernel_rfl) (by kernel_rfl) (by kernel_rfl) ?_
      intro K hK
      go_simp
      refine hK _ _ (AtS.done (by kernel_rfl) (NoPanic.normal ?_))
      clear hK K
      go_upto_region 5 with (fail)
      rcases HKP.out with ⟨rfl, z1, z2, z3, z4⟩ | ⟨rfl, z1⟩
      · obtain ⟨A3, c3, P3, cp3, HX, hbx⟩ : ∃ A3 c3 P3 cp3, Hid (Var w5 bx A3 c3 P3 cp3 D2) ∧ W.heap.size + 2 ≤ bx := ⟨_, _, _, _, HX, hbx⟩
        have hps := HP.out
        have HPB : Hid (D2.pend.length ≤ 80001) := by show _ ≤ _; omega
        have HE2 := Lib.hid (HE.out.trans (if_neg (by simp)))
        rw [runD_append] at HE2
        have kp := runD_keep [some (1 + hf, Z), none] D2 z1 (by
          intro w hw
          have : w = (1 + hf, Z) := by simpa using hw
          rw [this, z2, z3]
          exact ⟨hhb, by have := HSZ.out; simp only; omega⟩)
        have hsz2 : D2.size.toNat = d.size.toNat := by rw [z2]
        have CW := Lib.hid (fun w vs vp h => rwr_any w vs vp D2 h z1 (1 + hf) 1 Z (by rw [hsz2, Nat.one_mul]; exact HSZ.out) (by rw [z3]; omega) (by have := HPB.out; omega))
        rw [hsz2, chkB_one HSZ.out, show (wrO (1 + hf) [Z]).map some ++ [none] = [some (1 + hf, Z), none] from rfl] at CW
        obtain ⟨r3, hr3⟩ : ∃ r, r = runD D2 [some (1 + hf, Z), none] := ⟨_, rfl⟩
        rw [← hr3] at HE2 kp CW
        clear hr3
        obtain ⟨D3, N3⟩ := r3
        simp only at HE2 kp CW
        have HKP3 := Lib.hid kp
        have HZ2 := Lib.hid z2
        have HZ3 := Lib.hid z3
        clear kp z1 z2 z3 z4 HKP HE hsz2 hps
        go_upto_region 7 with (fail)
        have HDR : Hid (Below w5.heap.size w5 w5.drew) := below_drew1 (Below.refl _ _)
        generalize w5 = w2 at *
        refine prom_start3 (by kernel_rfl) 11 10 [9] (fun i v w => match i with
          | 0 => v = .agg #[.int .i64 D2.size, .slice A3 D2.secs.length c3, .slice P3 D2.pend.length cp3, .int .i64 D2.left]
          | 1 => v = .agg #[.int .i64 d.size, .slice A d.secs.length c, .slice P d.pend.length cp, .int .i64 d.left]
          | 2 => v = .int .i64 (hf : Int)
          | 3 => v = .int .i64 ((1 + hf : Nat) : Int)
          | 4 => v = .pointer (some ⟨W.heap.size, 0, none⟩)
          | 5 => v = .int .i64 d.size
          | 6 => v = .string Z
          | 7 => ∃ vs2 vp2, v = .tuple #[.agg #[.int .i64 D3.size, vs2, vp2, .int .i64 D3.left], .int .i64 N3] ∧ DskP w vs2 vp2 D3
          | 8 => ∃ vs2 vp2, v = .tuple #[.agg #[.int .i64 D3.size, vs2, vp2, .int .i64 D3.left], .int .i64 N3] ∧ DskP w vs2 vp2 D3
          | 9 => ∃ vs2 vp2, v = .agg #[.int .i64 D3.size, vs2, vp2, .int .i64 D3.left] ∧ DskP w vs2 vp2 D3
          | _ => v = .int .i64 N3)  (by kernel_rfl) (fun i v w w' h hb => ?_) ?_ ?_ ?_
        · match i, h with
          | 0, h => exact h
          | 1, h => exact h
          | 2, h => exact h
          | 3, h => exact h
          | 4, h => exact h
          | 5, h => exact h
          | 6, h => exact h
          | 7, h => exact (let ⟨vs2, vp2, e, hp⟩ := h; ⟨vs2, vp2, e, hp.keep (Keeps.of_below hb)⟩)
          | 8, h => exact (let ⟨vs2, vp2, e, hp⟩ := h; ⟨vs2, vp2, e, hp.keep (Keeps.of_below hb)⟩)
          | 9, h => exact (let ⟨vs2, vp2, e, hp⟩ := h; ⟨vs2, vp2, e, hp.keep (Keeps.of_below hb)⟩)
          | 10, h => exact h
          | _ + 11, h => exact h
        · rintro i o hi hix ho a w1 hdf hlen hold hbel hdep K hK
          clear hdf
          have hix2 : ∀ {A : Prop}, i = 10 → A := fun e => absurd e hix
          clear hix
          have hV := (HV.out.keep HDR.out).keep hbel
          obtain ⟨q0, q1, q2, q3, _⟩ := hV.facts
          have hX := (HX.out.keep HDR.out).keep hbel
          obtain ⟨x0, x1, x2, x3, _⟩ := hX.facts
          have s1 : a.tmps.getD 1 undef = .pointer (some ⟨W.heap.size, 0, none⟩) := by
            rw [Array.getD_eq_getD_getElem?, hold 1 ?_]
            · rfl
            · intro j hj
              have : j = 0 ∨ j = 1 ∨ j = 2 ∨ j = 3 ∨ j = 4 ∨ j = 5 ∨ j = 6 ∨ j = 7 ∨ j = 8 ∨ j = 9 ∨ j = 10 := by omega
              rcases this with rfl | rfl | rfl | rfl | rfl | rfl | rfl | rfl | rfl | rfl | rfl <;> decide
          have s5 : a.tmps.getD 5 undef = .pointer (some ⟨bx, 0, none⟩) := by
            rw [Array.getD_eq_getD_getElem?, hold 5 ?_]
            · rfl
            · intro j hj
              have : j = 0 ∨ j = 1 ∨ j = 2 ∨ j = 3 ∨ j = 4 ∨ j = 5 ∨ j = 6 ∨ j = 7 ∨ j = 8 ∨ j = 9 ∨ j = 10 := by omega
              rcases this with rfl | rfl | rfl | rfl | rfl | rfl | rfl | rfl | rfl | rfl | rfl <;> decide
          have hi' : i = 0 ∨ i = 1 ∨ i = 2 ∨ i = 3 ∨ i = 4 ∨ i = 5 ∨ i = 6 ∨ i = 7 ∨ i = 8 ∨ i = 9 ∨ i = 10 := by omega
          rcases hi' with rfl | rfl | rfl | rfl | rfl | rfl | rfl | rfl | rfl | rfl | rfl
          · clear hix2; obtain rfl := Option.some.inj ho
            unfold Oper.wp
            simp only [execOp, Act.eval, s5]
            go_simp
            exact hK _ w1 rfl (Below.refl _ _)
          · clear hix2; obtain rfl := Option.some.inj ho
            unfold Oper.wp
            simp only [execOp, Act.eval, s1]
            go_simp
            exact hK _ w1 rfl (Below.refl _ _)
          · clear hix2; obtain rfl := Option.some.inj ho
            have e27 := hdep 1 27 (by omega) (by kernel_rfl) (by kernel_rfl)
            simp only at e27
            unfold Oper.wp
            simp only [execOp, Act.eval, e27]
            go_simp
            refine (CH.out w1 _ _ hV.dk).mono ?_
            rintro e' w4 ⟨rfl, hb4⟩
            exact hK _ w4 rfl hb4
          · clear hix2; obtain rfl := Option.some.inj ho
            have e28 := hdep 2 28 (by omega) (by kernel_rfl) (by kernel_rfl)
            simp only at e28
            unfold Oper.wp
            simp only [execOp, Act.eval, e28]
            go_simp
            exact hK _ w1 (by simp only; rw [i64w (by omega) (by omega)]; exact congrArg (Value.int .i64) (by omega)) (Below.refl _ _)
          · clear hix2; obtain rfl := Option.some.inj ho
            unfold Oper.wp
            simp only [execOp, Act.eval, s1]
            go_simp
            exact hK _ w1 rfl (Below.refl _ _)
          · clear hix2; obtain rfl := Option.some.inj ho
            have e30 := hdep 4 30 (by omega) (by kernel_rfl) (by kernel_rfl)
            simp only at e30
            unfold Oper.wp
            simp only [execOp, Act.eval, e30]
            go_simp
            exact hK _ w1 rfl (Below.refl _ _)
          · clear hix2; obtain rfl := Option.some.inj ho
            have e31 := hdep 5 31 (by omega) (by kernel_rfl) (by kernel_rfl)
            simp only at e31
            unfold Oper.wp
            simp only [execOp, Act.eval, e31]
            go_simp
            refine (CZ7.out w1).mono ?_
            rintro e' w4 ⟨rfl, hb4⟩
            exact hK _ w4 rfl hb4
          · clear hix2; obtain rfl := Option.some.inj ho
            have e26 := hdep 0 26 (by omega) (by kernel_rfl) (by kernel_rfl)
            simp only at e26
            have e29 := hdep 3 29 (by omega) (by kernel_rfl) (by kernel_rfl)
            simp only at e29
            have e32 := hdep 6 32 (by omega) (by kernel_rfl) (by kernel_rfl)
            simp only at e32
            unfold Oper.wp
            simp only [execOp, Act.eval, e26, e29, e32]
            go_simp
            refine (CW.out w1 _ _ hX.dk).mono ?_
            rintro e' w4 ⟨vs4, vp4, rfl, hv4, hb4⟩
            exact hK _ w4 ⟨vs4, vp4, rfl, hv4⟩ hb4
          · clear hix2; obtain rfl := Option.some.inj ho
            have e33 := hdep 7 33 (by omega) (by kernel_rfl) (by kernel_rfl)
            simp only at e33
            obtain ⟨vs2, vp2, hx33, ht33⟩ := e33
            unfold Oper.wp
            simp only [execOp, Act.eval, hx33]
            go_simp
            exact hK _ w1 ⟨vs2, vp2, rfl, ht33⟩ (Below.refl _ _)
          · clear hix2; obtain rfl := Option.some.inj ho
            have e25 := hdep 8 25 (by omega) (by kernel_rfl) (by kernel_rfl)
            simp only at e25
            obtain ⟨vs2, vp2, hx25, ht25⟩ := e25
            unfold Oper.wp
            simp only [execOp, Act.eval, hx25]
            go_simp
            exact hK _ w1 ⟨vs2, vp2, rfl, ht25⟩ (Below.refl _ _)
          · exact hix2 rfl
        · rintro o ho a w1 hlen hold hbel hdep
          obtain rfl := Option.some.inj ho
          have e25 := hdep 8 25 (by omega) (by kernel_rfl) (by kernel_rfl)
          simp only at e25
          obtain ⟨vs2, vp2, hx25, ht25⟩ := e25
          refine ⟨_, rfl, fun w' => ?_⟩
          simp only [execOp, Act.eval, hx25]
          go_simp
        · rintro a w1 hdf hlen hold hbel hnew
          have e34 := hnew 9 34 (by omega) (by kernel_rfl)
          simp only at e34
          have e35 := hnew 10 35 (by omega) (by kernel_rfl)
          simp only at e35
          obtain ⟨vs2, vp2, e34, hd2⟩ := e34
          have hact := act_eq [26, 27, 28, 29, 30, 31, 32, 33, 25, 34, 35] hdf hlen (fun t ht => hold t (fun j hj hd => by
            have : j = 0 ∨ j = 1 ∨ j = 2 ∨ j = 3 ∨ j = 4 ∨ j = 5 ∨ j = 6 ∨ j = 7 ∨ j = 8 ∨ j = 9 ∨ j = 10 := by omega
            rcases this with rfl | rfl | rfl | rfl | rfl | rfl | rfl | rfl | rfl | rfl | rfl <;> (obtain rfl := Option.some.inj hd; exact ht (by decide))))
          simp only [List.foldl, e35, e34, List.setIfInBounds_toArray, List.set_cons_zero, List.set_cons_succ] at hact
          clear hdf hlen hold hnew e35 e34
          generalize a.tmps.getD 26 undef = u26 at hact
          generalize a.tmps.getD 27 undef = u27 at hact
          generalize a.tmps.getD 28 undef = u28 at hact
          generalize a.tmps.getD 29 undef = u29 at hact
          generalize a.tmps.getD 30 undef = u30 at hact
          generalize a.tmps.getD 31 undef = u31 at hact
          generalize a.tmps.getD 32 undef = u32 at hact
          generalize a.tmps.getD 33 undef = u33 at hact
          generalize a.tmps.getD 25 undef = u25 at hact
          subst hact
          have kd := HDR.out.trans (hbel.mono (Nat.le_refl _))
          replace HV := Lib.hid (HV.out.keep kd)
          replace HZ := Lib.hid (HZ.out.keep kd)
          replace KB := Lib.hid (KB.out.trans (kd.mono KB.out.size))
          replace hsw := Nat.lt_of_lt_of_le hsw kd.size
          replace HX := Lib.hid (HX.out.keep kd)
          obtain ⟨A2, c2, P2, cp2, rfl, rfl, _, _, _, _⟩ := hd2.form
          obtain ⟨t0, t1, t2, t3, r0, r1, r2, r3⟩ := HX.out.facts
          replace HV := Lib.hid (HV.out.other (A2 := A2) (c2 := c2) (P2 := P2) (cp2 := cp2) (d2 := D3) HX.out (by omega))
          replace HZ := Lib.hid (HZ.out.other (A2 := A2) (c2 := c2) (P2 := P2) (cp2 := cp2) (d2 := D3) HX.out (by omega))
          replace HX := Lib.hid (HX.out.assign hd2)
          replace KB := Lib.hid (put4_below (A := A2) (c := c2) (P := P2) (cp := cp2) (d := D3) KB.out (show W.heap.size ≤ bx by omega))
          clear hd2 hbel HDR kd
          replace hsw := HZ.out.blk.lt
          clear CW CZ7 CH
          refine AtS.late (i := 11) (by simp only [List.getElem?_toArray, List.getElem?_cons_succ, List.getElem?_cons_zero]; rfl) (by kernel_rfl) (by kernel_rfl) (by kernel_rfl) ?_
          intro K hK
          go_simp
          refine hK _ _ ?_
          clear hK K
          change AtS _ _ _ _ _ _ _ _ _ (put4 w1 bx A2 c2 P2 cp2 D3)
          clear t0 t1 t2 t3 r0 r1 r2 r3
          generalize put4 w1 bx A2 c2 P2 cp2 D3 = w5 at *
          refine AtS.late (i := 12) (by simp only [List.getElem?_toArray, List.getElem?_cons_succ, List.getElem?_cons_zero]; rfl) (by kernel_rfl) (by kernel_rfl) (by kernel_rfl) ?_
          intro K hK
          go_simp
          refine hK _ _ (AtS.done (by kernel_rfl) (NoPanic.normal ?_))
          clear hK K
          go_upto_region 8 with (fail)
          obtain ⟨e3, z1, z2, z3, z4⟩ := HKP3.out
          rcases e3 with e3 | e3
          · subst e3
            obtain ⟨A4, c4, P4, cp4, HX, hbx⟩ : ∃ A4 c4 P4 cp4, Hid (Var w5 bx A4 c4 P4 cp4 D3) ∧ W.heap.size + 2 ≤ bx := ⟨_, _, _, _, HX, hbx⟩
            have HE3 := Lib.hid (HE2.out.trans (if_neg (by simp)))
            have hsz3 : D3.size.toNat = d.size.toNat := by rw [z2, HZ2.out]
            have hl3 : D3.secs.length = d.secs.length := by rw [z3, HZ3.out]
            have CW := Lib.hid (fun w vs vp h => rwr_any w vs vp D3 h z1 0 1 MK (by rw [hsz3, Nat.one_mul]; exact HMS.out) (by rw [hl3]; omega) (by have := HPB.out; simp only [List.length_cons, List.length_nil] at z4; omega))
            rw [hsz3, chkB_one HMS.out, show (wrO 0 [MK]).map some ++ [none] = [some (0, MK), none] from rfl] at CW
            obtain ⟨r4, hr4⟩ : ∃ r, r = runD D3 [some (0, MK), none] := ⟨_, rfl⟩
            rw [← hr4] at HE3 CW
            clear hr4
            obtain ⟨D4, N4⟩ := r4
            simp only at HE3 CW
            clear z1 z2 z3 z4 HKP3 HE2 hsz3 hl3 HZ2 HZ3
            go_upto_region 10 with (fail)
            have HDR : Hid (Below w5.heap.size w5 w5.drew) := below_drew1 (Below.refl _ _)
            generalize w5 = w2 at *
            refine prom_start3 (by kernel_rfl) 7 6 [5] (fun i v w => match i with
              | 0 => v = .agg #[.int .i64 D3.size, .slice A4 D3.secs.length c4, .slice P4 D3.pend.length cp4, .int .i64 D3.left]
              | 1 => v = .pointer (some ⟨W.heap.size, 0, none⟩)
              | 2 => v = .int .i64 d.size
              | 3 => v = .string MK
              | 4 => ∃ vs2 vp2, v = .tuple #[.agg #[.int .i64 D4.size, vs2, vp2, .int .i64 D4.left], .int .i64 N4] ∧ DskP w vs2 vp2 D4
              | 5 => ∃ vs2 vp2, v = .agg #[.int .i64 D4.size, vs2, vp2, .int .i64 D4.left] ∧ DskP w vs2 vp2 D4
              | _ => v = .int .i64 N4)  (by kernel_rfl) (fun i v w w' h hb => ?_) ?_ ?_ ?_
            · match i, h with
              | 0, h => exact h
              | 1, h => exact h
              | 2, h => exact h
              | 3, h => exact h
              | 4, h => exact (let ⟨vs2, vp2, e, hp⟩ := h; ⟨vs2, vp2, e, hp.keep (Keeps.of_below hb)⟩)
              | 5, h => exact (let ⟨vs2, vp2, e, hp⟩ := h; ⟨vs2, vp2, e, hp.keep (Keeps.of_below hb)⟩)
              | 6, h => exact h
              | _ + 7, h => exact h
            · rintro i o hi hix ho a w1 hdf hlen hold hbel hdep K hK
              clear hdf
              have hix2 : ∀ {A : Prop}, i = 6 → A := fun e => absurd e hix
              clear hix
              have hV := (HV.out.keep HDR.out).keep hbel
              obtain ⟨q0, q1, q2, q3, _⟩ := hV.facts
              have hX := (HX.out.keep HDR.out).keep hbel
              obtain ⟨x0, x1, x2, x3, _⟩ := hX.facts
              have s1 : a.tmps.getD 1 undef = .pointer (some ⟨W.heap.size, 0, none⟩) := by
                rw [Array.getD_eq_getD_getElem?, hold 1 ?_]
                · rfl
                · intro j hj
                  have : j = 0 ∨ j = 1 ∨ j = 2 ∨ j = 3 ∨ j = 4 ∨ j = 5 ∨ j = 6 := by omega
                  rcases this with rfl | rfl | rfl | rfl | rfl | rfl | rfl <;> decide
              have s5 : a.tmps.getD 5 undef = .pointer (some ⟨bx, 0, none⟩) := by
                rw [Array.getD_eq_getD_getElem?, hold 5 ?_]
                · rfl
                · intro j hj
                  have : j = 0 ∨ j = 1 ∨ j = 2 ∨ j = 3 ∨ j = 4 ∨ j = 5 ∨ j = 6 := by omega
                  rcases this with rfl | rfl | rfl | rfl | rfl | rfl | rfl <;> decide
              have hi' : i = 0 ∨ i = 1 ∨ i = 2 ∨ i = 3 ∨ i = 4 ∨ i = 5 ∨ i = 6 := by omega
              rcases hi' with rfl | rfl | rfl | rfl | rfl | rfl | rfl
              · clear hix2; obtain rfl := Option.some.inj ho
                unfold Oper.wp
                simp only [execOp, Act.eval, s5]
                go_simp
                exact hK _ w1 rfl (Below.refl _ _)
              · clear hix2; obtain rfl := Option.some.inj ho
                unfold Oper.wp
                simp only [execOp, Act.eval, s1]
                go_simp
                exact hK _ w1 rfl (Below.refl _ _)
              · clear hix2; obtain rfl := Option.some.inj ho
                have e41 := hdep 1 41 (by omega) (by kernel_rfl) (by kernel_rfl)
                simp only at e41
                unfold Oper.wp
                simp only [execOp, Act.eval, e41]
                go_simp
                exact hK _ w1 rfl (Below.refl _ _)
              · clear hix2; obtain rfl := Option.some.inj ho
                have e42 := hdep 2 42 (by omega) (by kernel_rfl) (by kernel_rfl)
                simp only at e42
                unfold Oper.wp
                simp only [execOp, Act.eval, e42]
                go_simp
                refine (CM.out w1).mono ?_
                rintro e' w4 ⟨rfl, hb4⟩
                exact hK _ w4 rfl hb4
              · clear hix2; obtain rfl := Option.some.inj ho
                have e40 := hdep 0 40 (by omega) (by kernel_rfl) (by kernel_rfl)
                simp only at e40
                have e43 := hdep 3 43 (by omega) (by kernel_rfl) (by kernel_rfl)
                simp only at e43
                unfold Oper.wp
                simp only [execOp, Act.eval, e40, e43]
                go_simp
                refine (CW.out w1 _ _ hX.dk).mono ?_
                rintro e' w4 ⟨vs4, vp4, rfl, hv4, hb4⟩
                exact hK _ w4 ⟨vs4, vp4, rfl, hv4⟩ hb4
              · clear hix2; obtain rfl := Option.some.inj ho
                have e44 := hdep 4 44 (by omega) (by kernel_rfl) (by kernel_rfl)
                simp only at e44
                obtain ⟨vs2, vp2, hx44, ht44⟩ := e44
                unfold Oper.wp
                simp only [execOp, Act.eval, hx44]
                go_simp
                exact hK _ w1 ⟨vs2, vp2, rfl, ht44⟩ (Below.refl _ _)
              · exact hix2 rfl
            · rintro o ho a w1 hlen hold hbel hdep
              obtain rfl := Option.some.inj ho
              have e44 := hdep 4 44 (by omega) (by kernel_rfl) (by kernel_rfl)
              simp only at e44
              obtain ⟨vs2, vp2, hx44, ht44⟩ := e44
              refine ⟨_, rfl, fun w' => ?_⟩
              simp only [execOp, Act.eval, hx44]
              go_simp
            · rintro a w1 hdf hlen hold hbel hnew
              have e45 := hnew 5 45 (by omega) (by kernel_rfl)
              simp only at e45
              have e46 := hnew 6 46 (by omega) (by kernel_rfl)
              simp only at e46
              obtain ⟨vs2, vp2, e45, hd2⟩ := e45
              have hact := act_eq [40, 41, 42, 43, 44, 45, 46] hdf hlen (fun t ht => hold t (fun j hj hd => by
                have : j = 0 ∨ j = 1 ∨ j = 2 ∨ j = 3 ∨ j = 4 ∨ j = 5 ∨ j = 6 := by omega
                rcases this with rfl | rfl | rfl | rfl | rfl | rfl | rfl <;> (obtain rfl := Option.some.inj hd; exact ht (by decide))))
              simp only [List.foldl, e46, e45, List.setIfInBounds_toArray, List.set_cons_zero, List.set_cons_succ] at hact
              clear hdf hlen hold hnew e46 e45
              generalize a.tmps.getD 40 undef = u40 at hact
              generalize a.tmps.getD 41 undef = u41 at hact
              generalize a.tmps.getD 42 undef = u42 at hact
              generalize a.tmps.getD 43 undef = u43 at hact
              generalize a.tmps.getD 44 undef = u44 at hact
              subst hact
              have kd := HDR.out.trans (hbel.mono (Nat.le_refl _))
              replace HV := Lib.hid (HV.out.keep kd)
              replace HZ := Lib.hid (HZ.out.keep kd)
              replace KB := Lib.hid (KB.out.trans (kd.mono KB.out.size))
              replace hsw := Nat.lt_of_lt_of_le hsw kd.size
              replace HX := Lib.hid (HX.out.keep kd)
              obtain ⟨A2, c2, P2, cp2, rfl, rfl, _, _, _, _⟩ := hd2.form
              obtain ⟨t0, t1, t2, t3, r0, r1, r2, r3⟩ := HZ.out.facts
              simp only [noDisk, List.length_nil] at t0 t1 t2 t3
              replace HZ := Lib.hid (HZ.out.assign hd2)
              replace KB := Lib.hid (put4_below (A := A2) (c := c2) (P := P2) (cp := cp2) (d := D4) KB.out (show W.heap.size ≤ W.heap.size + 1 by omega))
              clear hd2 hbel HDR kd HV HX
              clear CW CM
              refine AtS.late (i := 7) (by simp only [List.getElem?_toArray, List.getElem?_cons_succ, List.getElem?_cons_zero]; rfl) (by kernel_rfl) (by kernel_rfl) (by kernel_rfl) ?_
              intro K hK
              go_simp
              refine hK _ _ ?_
              clear hK K
              change AtS _ _ _ _ _ _ _ _ _ (put4 w1 (W.heap.size + 1) A2 c2 P2 cp2 D4)
              clear t0 t1 t2 t3 r0 r1 r2 r3
              generalize put4 w1 (W.heap.size + 1) A2 c2 P2 cp2 D4 = w5 at *
              refine AtS.late (i := 8) (by simp only [List.getElem?_toArray, List.getElem?_cons_succ, List.getElem?_cons_zero]; rfl) (by kernel_rfl) (by kernel_rfl) (by kernel_rfl) ?_
              intro K hK
              go_simp
              refine hK _ _ (AtS.done (by kernel_rfl) (NoPanic.normal ?_))
              clear hK K
              obtain ⟨k0, k1, k2, k3, _⟩ := HZ.out.facts
              go_wp2
              exact bodyPost_ret (v := .tuple #[.agg #[.int .i64 D4.size, .slice A2 D4.secs.length c2, .slice P2 D4.pend.length cp2, .int .i64 D4.left], .int .i64 N4]) (by simp [results, Try.results22, go_sem, k0, k1, k2, k3]) rfl (by rw [HE3.out]; exact ⟨_, _, rfl, HZ.out.dk, KB.out⟩)
          · subst e3
            have HE3 : Hid (R = (D3, 20)) := by show _ = _; rw [HE2.out, if_pos (by simp)]
            clear z1 z2 z3 z4 HKP3 HE2 HZ2 HZ3
            obtain ⟨q0, q1, q2, q3, _⟩ := HX.out.facts
            obtain ⟨t0, t1, t2, t3, r0, r1, r2, r3⟩ := HZ.out.facts
            simp only [noDisk, List.length_nil] at t0 t1 t2 t3
            have VR := Lib.hid (HZ.out.assign HX.out.dk)
            have KR := Lib.hid (put4_below (A := A2) (c := c2) (P := P2) (cp := cp2) (d := D3) KB.out (show W.heap.size ≤ W.heap.size + 1 by omega))
            go_wp2
            change bodyPost _ _ _ _ _ (put4 w5 (W.heap.size + 1) A2 c2 P2 cp2 D3)
            obtain ⟨k0, k1, k2, k3, _⟩ := VR.out.facts
            clear q0 q1 q2 q3 t0 t1 t2 t3 r0 r1 r2 r3
            generalize put4 w5 (W.heap.size + 1) A2 c2 P2 cp2 D3 = wx at *
            exact bodyPost_ret (v := .tuple #[.agg #[.int .i64 D3.size, .slice A2 D3.secs.length c2, .slice P2 D3.pend.length cp2, .int .i64 D3.left], .int .i64 20]) (by simp [results, Try.results22, go_sem, k0, k1, k2, k3]) rfl (by rw [HE3.out]; exact ⟨_, _, rfl, VR.out.dk, KR.out⟩)
      · subst z1
        have HE2 : Hid (R = (D2, 20)) := by show _ = _; rw [HE.out, if_pos (by simp)]
        clear HE HKP
        obtain ⟨q0, q1, q2, q3, _⟩ := HV.out.facts
        obtain ⟨t0, t1, t2, t3, r0, r1, r2, r3⟩ := HZ.out.facts
        simp only [noDisk, List.length_nil] at t0 t1 t2 t3
        have VR := Lib.hid (HZ.out.assign HV.out.dk)
        have KR := Lib.hid (put4_below (A := A) (c := c) (P := P) (cp := cp) (d := D2) KB.out (show W.heap.size ≤ W.heap.size + 1 by omega))
        go_wp2
        change bodyPost _ _ _ _ _ (put4 w5 (W.heap.size + 1) A c P cp D2)
        obtain ⟨k0, k1, k2, k3, _⟩ := VR.out.facts
        clear q0 q1 q2 q3 t0 t1 t2 t3 r0 r1 r2 r3
        generalize put4 w5 (W.heap.size + 1) A c P cp D2 = wx at *
        exact bodyPost_ret (v := .tuple #[.agg #[.int .i64 D2.size, .slice A D2.secs.length c, .slice P D2.pend.length cp, .int .i64 D2.left], .int .i64 20]) (by simp [results, Try.results22, go_sem, k0, k1, k2, k3]) rfl (by rw [HE2.out]; exact ⟨_, _, rfl, VR.out.dk, KR.out⟩)
  · have HE : Hid (R = (noDisk, N1)) := HF.out.trans (if_pos hn)
    clear HF hv0
    obtain ⟨t0, t1, t2, t3, r0, r1, r2, r3⟩ := HZ.out.facts
    simp only [noDisk, List.length_nil] at t0 t1 t2 t3
    have VR := Lib.hid (HZ.out.assign (d' := noDisk) (A' := none) (c' := 0) (P' := none) (cp' := 0) (Dsk.nodisk w2))
    have KR := Lib.hid (put4_below (A := none) (c := 0) (P := none) (cp := 0) (d := noDisk) KB.out (show W.heap.size ≤ W.heap.size + 1 by omega))
    go_wp2
    change bodyPost _ _ _ _ _ (put4 w2 (W.heap.size + 1) none 0 none 0 noDisk)
    obtain ⟨k0, k1, k2, k3, _⟩ := VR.out.facts
    clear t0 t1 t2 t3 r0 r1 r2 r3
    generalize put4 w2 (W.heap.size + 1) none 0 none 0 noDisk = wx at *
    exact bodyPost_ret (v := .tuple #[.agg #[.int .i64 0, .slice none 0 0, .slice none 0 0, .int .i64 0], .int .i64 N1]) (by simp only [noDisk, List.length_nil] at k0 k1 k2 k3; simp [results, Try.results22, go_sem, k0, k1, k2, k3]) rfl (by rw [HE.out]; exact ⟨_, _, rfl, VR.out.dk, KR.out⟩)
end Go.Proofs.Ytockmhhiomdlkaa
