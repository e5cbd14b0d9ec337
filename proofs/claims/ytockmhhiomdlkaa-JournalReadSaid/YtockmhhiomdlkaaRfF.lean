/- The reference's active, area. -/
import Derived.Test.YtockmhhiomdlkaaRfE
import Derived.Test.YtockmhhiomdlkaaProm2
namespace Go.Proofs.Ytockmhhiomdlkaa
set_option linter.unusedVariables false
set_option linter.unusedSimpArgs false
open Go.RowKit

theorem cur_read {d : Dk} (hv : Valid d) {i : Nat} (hi : i < d.secs.length) : rdE d i = 0 ∧ rdB d i = (cur d).getD i ⟨#[]⟩ := by
  have h1 := rd_in (chk_zero.2 hv) hi (show i < (cur d).length by rw [cur_length]; exact hi)
  refine ⟨h1.1, ?_⟩
  rw [h1.2, List.getD, List.getElem?_eq_getElem (by rw [cur_length]; exact hi)]; rfl
theorem cur_size {d : Dk} (hv : Valid d) {i : Nat} (hi : i < d.secs.length) : ((cur d).getD i ⟨#[]⟩).size = d.size.toNat := by
  have h1 := getD_siz (cur_siz hv) (i := i) (by rw [cur_length]; exact hi)
  exact h1
def actV (d : Dk) : Nat := if actN d = 1 ∨ actN d = 2 then actN d else 0
set_option maxRecDepth 100000 in
set_option maxHeartbeats 2000000 in
theorem ractive_any (W : World) (vs vp : Value) (d : Dk) (h : DskP W vs vp d) (hv : Valid d) (hn3 : 3 ≤ d.secs.length) :
    Calls Try.prog 44 #[.agg #[.int .i64 d.size, vs, vp, .int .i64 d.left]] W (ErrPost W ((actV d : Nat) : Int)) := by
  obtain ⟨A, c, P, cp, rfl, rfl, hc, hcp, hm, hmp⟩ := h.form
  have hbk := Blk.new W #[.int .i64 d.size, .slice A d.secs.length c, .slice P d.pend.length cp, .int .i64 d.left] 25
  have K1 := (Below.refl W.heap.size W).alloc (Nat.le_refl _) (.cells #[.int .i64 d.size, .slice A d.secs.length c, .slice P d.pend.length cp, .int .i64 d.left] 25)
  obtain ⟨r1, r2⟩ := cur_read hv (i := 0) (by omega)
  have r3 := cur_size hv (i := 0) (by omega)
  have hs1 := hv.s1
  have CR := rread_any _ _ _ d (h.keep (Keeps.of_below K1)) ((0 : Nat) : Int) (by omega) (by omega)
  rw [r1, r2] at CR
  have CR := Lib.hid CR
  have HAN : Hid (actN d = (byte0 ((cur d).getD 0 ⟨#[]⟩)).toNat) := rfl
  generalize (cur d).getD 0 ⟨#[]⟩ = s at *
  have h0 : 0 < s.size := by omega
  have hb0 : byte0 s = s[0] := by
    have h9 := head_at s h0
    unfold byte0 bts
    rw [List.headD_eq_head?_getD, h9]; rfl
  rw [hb0] at HAN
  have hlt := s[0].toNat_lt
  obtain ⟨x, hx⟩ : ∃ x : Nat, x = s[0].toNat := ⟨_, rfl⟩
  rw [← hx] at HAN hlt
  have HX := Lib.hid hx
  clear r1 r2 r3 hb0 hx
  go_enter Try.func44, Try.ntmps44
  go_upto_region 1 with (fail)
  generalize W.alloc (.cells #[.int .i64 d.size, .slice A d.secs.length c, .slice P d.pend.length cp, .int .i64 d.left] 25) = w1 at *
  obtain ⟨q0, q1, q2, q3⟩ := box4 hbk (Below.refl _ _)
  go_wp2_with fail
  refine CR.out.mono ?_
  rintro e w2 ⟨rfl, hb2⟩
  have K2 := K1.trans (hb2.mono K1.size)
  clear CR q0 q1 q2 q3 hbk K1 hb2
  by_cases h1 : x = 1
  · have g1 : ((s[0].toNat : Int) == 1) = true := by rw [← HX.out, h1]; rfl
    have HR : Hid (((actV d : Nat) : Int) = (s[0].toNat : Int)) := by show _ = _; unfold actV; rw [HAN.out, if_pos (.inl h1), HX.out]
    have hl2 := s[0].toNat_lt
    clear h1 HAN
    go_wp2
    go_ret
    exact ⟨ret_int HR.out.symm, K2⟩
  · have g1 : ((s[0].toNat : Int) == 1) = false := by rw [← HX.out]; simp; omega
    by_cases h2 : x = 2
    · have g2 : ((s[0].toNat : Int) == 2) = true := by rw [← HX.out, h2]; rfl
      have HR : Hid (((actV d : Nat) : Int) = (s[0].toNat : Int)) := by show _ = _; unfold actV; rw [HAN.out, if_pos (.inr h2), HX.out]
      have hl2 := s[0].toNat_lt
      clear h1 h2 HAN
      go_wp2
      go_ret
      exact ⟨ret_int HR.out.symm, K2⟩
    · have g2 : ((s[0].toNat : Int) == 2) = false := by rw [← HX.out]; simp; omega
      have HR : Hid (((actV d : Nat) : Int) = 0) := by show _ = _; unfold actV; rw [HAN.out, if_neg (by omega)]; rfl
      clear h1 h2 HAN
      go_wp2
      go_ret
      exact ⟨ret_int HR.out.symm, K2⟩
set_option maxRecDepth 100000 in
set_option maxHeartbeats 4000000 in
theorem rarea_any (W : World) (vs vp : Value) (d : Dk) (h : DskP W vs vp d) (hv : Valid d) (hn3 : 3 ≤ d.secs.length) (ar : Nat) (ha : ar = 1 ∨ ar = 2) :
    Calls Try.prog 69 #[.agg #[.int .i64 d.size, vs, vp, .int .i64 d.left], .int .i64 ar] W fun e w => ∃ v, e = .returned v ∧ OwS w W.heap.size v (((cur d).drop (firstS d.secs.length ar)).take (halfN d.secs.length)) ∧ Below W.heap.size W w := by
  obtain ⟨A, c, P, cp, rfl, rfl, hc, hcp, hm, hmp⟩ := h.form
  obtain ⟨i1, hi1, hy0, hy1, hy2⟩ := info_parts Try.info_str
  have hbk := (Blk.new W #[.int .i64 d.size, .slice A d.secs.length c, .slice P d.pend.length cp, .int .i64 d.left] 25).alloc (.cells #[] 9)
  have al := (Below.refl W.heap.size W).alloc (Nat.le_refl _) (.cells #[.int .i64 d.size, .slice A d.secs.length c, .slice P d.pend.length cp, .int .i64 d.left] 25)
  have K1 := al.alloc al.size (.cells #[] 9)
  have HE0 := own_empty (W.alloc (.cells #[.int .i64 d.size, .slice A d.secs.length c, .slice P d.pend.length cp, .int .i64 d.left] 25)) 9 1
  rw [World.size_alloc] at HE0
  have hfb := first_bd hn3 ha
  have hhb := half_bd hn3
  have hn2 := hv.n2
  have hF := first_w (n := d.secs.length) (a := ar) hn2 (by omega)
  have HM1 := Lib.hid hF.2.1
  have HM2 := Lib.hid hF.2.2.1
  have hmb : (ar - 1) * halfN d.secs.length ≤ 1000 := hF.2.2.2.2.1
  have HRD : Hid (∀ i, i < d.secs.length → rdE d i = 0 ∧ rdB d i = (cur d).getD i ⟨#[]⟩) := fun i hi => cur_read hv hi
  have HCL := Lib.hid (cur_length d)
  obtain ⟨F, hFe⟩ : ∃ F, F = firstS d.secs.length ar := ⟨_, rfl⟩
  rw [← hFe] at hfb HM2 ⊢
  obtain ⟨hf1, hf2, -, -⟩ := hfb
  clear hF hFe al
  go_enter Try.func69, Try.ntmps69
  go_upto_region 2 with (fail)
  generalize (W.alloc (.cells #[.int .i64 d.size, .slice A d.secs.length c, .slice P d.pend.length cp, .int .i64 d.left] 25)).alloc (.cells #[] 9) = w1 at *
  have HB1 := Lib.hid hbk
  have HO1 : Hid (OwS w1 (W.heap.size + 1) (.slice (some ⟨W.heap.size + 1, 0, none⟩) 0 0) (((cur d).drop F).take 0)) := HE0
  have KK := Lib.hid K1
  clear hbk HE0 K1
  go_wp2
  go_loopw [5, 6] (fun ov iv wr => ∃ (k : Nat) (oA : Option Addr) (oc : Nat), k ≤ halfN d.secs.length ∧ iv = .int .i64 k ∧ ov = .slice oA k oc ∧ Hid (Blk wr W.heap.size 25 #[.int .i64 d.size, .slice A d.secs.length c, .slice P d.pend.length cp, .int .i64 d.left]) ∧ Hid (OwS wr (W.heap.size + 1) (.slice oA k oc) (((cur d).drop F).take k)) ∧ Hid (Below W.heap.size W wr) ∧ W.heap.size + 1 ≤ wr.heap.size) (fun _ iv _ => halfN d.secs.length - (intOf iv).toNat)
  case atStart => exact ⟨0, _, _, by omega, rfl, rfl, HB1, HO1, KK, by have := HB1.out.lt; omega⟩
  case round =>
    clear HB1 HO1 KK
    obtain ⟨k, oA, oc, hk, rfl, rfl, HB, HO, HK, hsz⟩ := hrel
    have CH0 := Lib.hid (rhalf_any wr _ _ d (h.keep (Keeps.of_below HK.out)))
    obtain ⟨q0, q1, q2, q3⟩ := box4 HB.out (Below.refl _ _)
    go_wp2_with fail
    refine CH0.out.mono ?_
    rintro e w2 ⟨rfl, hb2⟩
    replace HB := Lib.hid (HB.out.keep hb2)
    replace HO := Lib.hid (OwS.keep HO.out hb2)
    replace HK := Lib.hid (HK.out.trans (hb2.mono HK.out.size))
    have hsz2 := Nat.le_trans hsz hb2.size
    clear CH0 q0 q1 q2 q3 hb2 hsz
    by_cases hlt : k < halfN d.secs.length
    · have hlt' : (k : Int) < (halfN d.secs.length : Int) := by omega
      go_upto_region 5 with (fail)
      have HDR : Hid (Below w2.heap.size w2 w2.drew) := below_drew1 (Below.refl _ _)
      have HBc := HB
      have CH := Lib.hid (fun w' (hb : Below w2.drew.heap.size w2.drew w') => rhalf_any w' _ _ d (h.keep (Keeps.of_below (HK.out.trans ((HDR.out.trans (hb.mono (Nat.le_refl _))).mono HK.out.size)))))
      obtain ⟨z1, z2⟩ := HRD.out (F + k) (by omega)
      have CR0 := fun w' (hb : Below w2.drew.heap.size w2.drew w') => rread_any w' _ _ d (h.keep (Keeps.of_below (HK.out.trans ((HDR.out.trans (hb.mono (Nat.le_refl _))).mono HK.out.size)))) ((F + k : Nat) : Int) (by omega) (by omega)
      rw [z1, z2] at CR0
      have CR := Lib.hid CR0
      have HTK : Hid (((cur d).drop F).take (k + 1) = ((cur d).drop F).take k ++ [(cur d).getD (F + k) ⟨#[]⟩]) := by
        show _ = _
        have hl : k < ((cur d).drop F).length := by rw [List.length_drop, HCL.out]; omega
        rw [List.take_succ_eq_append_getElem hl, List.getElem_drop, List.getD, List.getElem?_eq_getElem (by rw [HCL.out]; omega)]; rfl
      clear z1 z2 CR0
      generalize (cur d).getD (F + k) ⟨#[]⟩ = X at *
      have hhle : halfN d.secs.length ≤ 1000 := by omega
      generalize hhf : halfN d.secs.length = hf at *
      refine prom_start2 (by kernel_rfl) 15 (fun i v w => match i with
        | 0 => v = .agg #[.int .i64 d.size, .slice A d.secs.length c, .slice P d.pend.length cp, .int .i64 d.left]
        | 1 => v = .int .i64 ((ar : Nat) : Int)
        | 2 => v = .int .i64 ((ar - 1 : Nat) : Int)
        | 3 => v = .agg #[.int .i64 d.size, .slice A d.secs.length c, .slice P d.pend.length cp, .int .i64 d.left]
        | 4 => v = .int .i64 (hf : Int)
        | 5 => v = .int .i64 (((ar - 1) * hf : Nat) : Int)
        | 6 => v = .int .i64 ((F : Nat) : Int)
        | 7 => v = .int .i64 (k : Int)
        | 8 => v = .int .i64 ((F + k : Nat) : Int)
        | 9 => v = .tuple #[.string X, .int .i64 0]
        | 10 => v = .tuple #[.string X, .int .i64 0]
        | 11 => v = .string X
        | 12 => v = .int .i64 0
        | 13 => v = .string X
        | _ => v = .int .i64 0) 0 (by kernel_rfl) (fun i v w w' h hb => ?_) ?_ ?_
      · match i, h with
        | 0, h => exact h
        | 1, h => exact h
        | 2, h => exact h
        | 3, h => exact h
        | 4, h => exact h
        | 5, h => exact h
        | 6, h => exact h
        | 7, h => exact h
        | 8, h => exact h
        | 9, h => exact h
        | 10, h => exact h
        | 11, h => exact h
        | 12, h => exact h
        | 13, h => exact h
        | 14, h => exact h
        | _ + 15, h => exact h
      · rintro i o hi ho a w1 hdf hlen hold hbel hdep K hK
        clear hdf
        have hV := (HBc.out.keep HDR.out).keep hbel
        obtain ⟨q0, q1, q2, q3⟩ := box4 hV (Below.refl _ _)
        have s2 : a.tmps.getD 2 undef = .pointer (some ⟨W.heap.size, 0, none⟩) := by
          rw [Array.getD_eq_getD_getElem?, hold 2 ?_]
          · rfl
          · intro j hj
            have : j = 0 ∨ j = 1 ∨ j = 2 ∨ j = 3 ∨ j = 4 ∨ j = 5 ∨ j = 6 ∨ j = 7 ∨ j = 8 ∨ j = 9 ∨ j = 10 ∨ j = 11 ∨ j = 12 ∨ j = 13 ∨ j = 14 := by omega
            rcases this with rfl | rfl | rfl | rfl | rfl | rfl | rfl | rfl | rfl | rfl | rfl | rfl | rfl | rfl | rfl <;> decide
        have s1 : a.tmps.getD 1 undef = .int .i64 ((ar : Nat) : Int) := by
          rw [Array.getD_eq_getD_getElem?, hold 1 ?_]
          · rfl
          · intro j hj
            have : j = 0 ∨ j = 1 ∨ j = 2 ∨ j = 3 ∨ j = 4 ∨ j = 5 ∨ j = 6 ∨ j = 7 ∨ j = 8 ∨ j = 9 ∨ j = 10 ∨ j = 11 ∨ j = 12 ∨ j = 13 ∨ j = 14 := by omega
            rcases this with rfl | rfl | rfl | rfl | rfl | rfl | rfl | rfl | rfl | rfl | rfl | rfl | rfl | rfl | rfl <;> decide
        have s6 : a.tmps.getD 6 undef = .int .i64 (k : Int) := by
          rw [Array.getD_eq_getD_getElem?, hold 6 ?_]
          · rfl
          · intro j hj
            have : j = 0 ∨ j = 1 ∨ j = 2 ∨ j = 3 ∨ j = 4 ∨ j = 5 ∨ j = 6 ∨ j = 7 ∨ j = 8 ∨ j = 9 ∨ j = 10 ∨ j = 11 ∨ j = 12 ∨ j = 13 ∨ j = 14 := by omega
            rcases this with rfl | rfl | rfl | rfl | rfl | rfl | rfl | rfl | rfl | rfl | rfl | rfl | rfl | rfl | rfl <;> decide
        have hi' : i = 0 ∨ i = 1 ∨ i = 2 ∨ i = 3 ∨ i = 4 ∨ i = 5 ∨ i = 6 ∨ i = 7 ∨ i = 8 ∨ i = 9 ∨ i = 10 ∨ i = 11 ∨ i = 12 ∨ i = 13 ∨ i = 14 := by omega
        rcases hi' with rfl | rfl | rfl | rfl | rfl | rfl | rfl | rfl | rfl | rfl | rfl | rfl | rfl | rfl | rfl
        · obtain rfl := Option.some.inj ho
          unfold Oper.wp
          simp only [execOp, Act.eval, s2]
          go_simp
          exact hK _ w1 rfl (Below.refl _ _)
        · obtain rfl := Option.some.inj ho
          unfold Oper.wp
          simp only [execOp, Act.eval, s1]
          go_simp
          exact hK _ w1 rfl (Below.refl _ _)
        · obtain rfl := Option.some.inj ho
          have e18 := hdep 1 18 (by omega) (by kernel_rfl) (by kernel_rfl)
          simp only at e18
          unfold Oper.wp
          simp only [execOp, Act.eval, e18]
          go_simp
          exact hK _ w1 (by simp only; rw [i64w (by omega) (by omega)]; exact congrArg (Value.int .i64) (show ((ar : Nat) : Int) - 1 = ((ar - 1 : Nat) : Int) by omega)) (Below.refl _ _)
        · obtain rfl := Option.some.inj ho
          unfold Oper.wp
          simp only [execOp, Act.eval, s2]
          go_simp
          exact hK _ w1 rfl (Below.refl _ _)
        · obtain rfl := Option.some.inj ho
          have e20 := hdep 3 20 (by omega) (by kernel_rfl) (by kernel_rfl)
          simp only at e20
          unfold Oper.wp
          simp only [execOp, Act.eval, e20]
          go_simp
          refine (CH.out w1 hbel).mono ?_
          rintro e' w4 ⟨rfl, hb4⟩
          exact hK _ w4 (rfl) hb4
        · obtain rfl := Option.some.inj ho
          have e19 := hdep 2 19 (by omega) (by kernel_rfl) (by kernel_rfl)
          simp only at e19
          have e21 := hdep 4 21 (by omega) (by kernel_rfl) (by kernel_rfl)
          simp only at e21
          unfold Oper.wp
          simp only [execOp, Act.eval, e19, e21]
          go_simp
          exact hK _ w1 (by simp only; rw [i64w (by omega) (by omega)]; exact congrArg (Value.int .i64) HM1.out) (Below.refl _ _)
        · obtain rfl := Option.some.inj ho
          have e22 := hdep 5 22 (by omega) (by kernel_rfl) (by kernel_rfl)
          simp only at e22
          unfold Oper.wp
          simp only [execOp, Act.eval, e22]
          go_simp
          exact hK _ w1 (by simp only; rw [i64w (by omega) (by omega)]; exact congrArg (Value.int .i64) HM2.out) (Below.refl _ _)
        · obtain rfl := Option.some.inj ho
          unfold Oper.wp
          simp only [execOp, Act.eval, s6]
          go_simp
          exact hK _ w1 rfl (Below.refl _ _)
        · obtain rfl := Option.some.inj ho
          have e23 := hdep 6 23 (by omega) (by kernel_rfl) (by kernel_rfl)
          simp only at e23
          have e24 := hdep 7 24 (by omega) (by kernel_rfl) (by kernel_rfl)
          simp only at e24
          unfold Oper.wp
          simp only [execOp, Act.eval, e23, e24]
          go_simp
          exact hK _ w1 (by simp only; rw [i64w (by omega) (by omega)]; try exact congrArg (Value.int .i64) (show (F : Int) + (k : Int) = ((F + k : Nat) : Int) by omega)) (Below.refl _ _)
        · obtain rfl := Option.some.inj ho
          have e17 := hdep 0 17 (by omega) (by kernel_rfl) (by kernel_rfl)
          simp only at e17
          have e25 := hdep 8 25 (by omega) (by kernel_rfl) (by kernel_rfl)
          simp only at e25
          unfold Oper.wp
          simp only [execOp, Act.eval, e17, e25]
          go_simp
          refine (CR.out w1 hbel).mono ?_
          rintro e' w4 ⟨rfl, hb4⟩
          exact hK _ w4 (rfl) hb4
        · obtain rfl := Option.some.inj ho
          have e26 := hdep 9 26 (by omega) (by kernel_rfl) (by kernel_rfl)
          simp only at e26
          unfold Oper.wp
          simp only [execOp, Act.eval, e26]
          go_simp
          exact hK _ w1 rfl (Below.refl _ _)
        · obtain rfl := Option.some.inj ho
          have e16 := hdep 10 16 (by omega) (by kernel_rfl) (by kernel_rfl)
          simp only at e16
          unfold Oper.wp
          simp only [execOp, Act.eval, e16]
          go_simp
          exact hK _ w1 rfl (Below.refl _ _)
        · obtain rfl := Option.some.inj ho
          have e16 := hdep 10 16 (by omega) (by kernel_rfl) (by kernel_rfl)
          simp only at e16
          unfold Oper.wp
          simp only [execOp, Act.eval, e16]
          go_simp
          exact hK _ w1 rfl (Below.refl _ _)
        · obtain rfl := Option.some.inj ho
          have e27 := hdep 11 27 (by omega) (by kernel_rfl) (by kernel_rfl)
          simp only at e27
          unfold Oper.wp
          simp only [execOp, Act.eval, e27]
          go_simp
          exact hK _ w1 rfl (Below.refl _ _)
        · obtain rfl := Option.some.inj ho
          have e28 := hdep 12 28 (by omega) (by kernel_rfl) (by kernel_rfl)
          simp only at e28
          unfold Oper.wp
          simp only [execOp, Act.eval, e28]
          go_simp
          exact hK _ w1 rfl (Below.refl _ _)
      · rintro a w1 hdf hlen hold hbel hnew
        have e7 := hnew 13 7 (by omega) (by kernel_rfl)
        simp only at e7
        have hact := act_eq [17, 18, 19, 20, 21, 22, 23, 24, 25, 26, 16, 27, 28, 7, 8] hdf hlen (fun t ht => hold t (fun j hj hd => by
          have : j = 0 ∨ j = 1 ∨ j = 2 ∨ j = 3 ∨ j = 4 ∨ j = 5 ∨ j = 6 ∨ j = 7 ∨ j = 8 ∨ j = 9 ∨ j = 10 ∨ j = 11 ∨ j = 12 ∨ j = 13 ∨ j = 14 := by omega
          rcases this with rfl | rfl | rfl | rfl | rfl | rfl | rfl | rfl | rfl | rfl | rfl | rfl | rfl | rfl | rfl <;> (obtain rfl := Option.some.inj hd; exact ht (by decide))))
        simp only [List.foldl, e7, List.setIfInBounds_toArray, List.set_cons_zero, List.set_cons_succ] at hact
        clear hdf hlen hold hnew e7
        generalize a.tmps.getD 17 undef = u17 at hact
        generalize a.tmps.getD 18 undef = u18 at hact
        generalize a.tmps.getD 19 undef = u19 at hact
        generalize a.tmps.getD 20 undef = u20 at hact
        generalize a.tmps.getD 21 undef = u21 at hact
        generalize a.tmps.getD 22 undef = u22 at hact
        generalize a.tmps.getD 23 undef = u23 at hact
        generalize a.tmps.getD 24 undef = u24 at hact
        generalize a.tmps.getD 25 undef = u25 at hact
        generalize a.tmps.getD 26 undef = u26 at hact
        generalize a.tmps.getD 16 undef = u16 at hact
        generalize a.tmps.getD 27 undef = u27 at hact
        generalize a.tmps.getD 28 undef = u28 at hact
        generalize a.tmps.getD 8 undef = u8 at hact
        subst hact
        have kd := HDR.out.trans (hbel.mono (Nat.le_refl _))
        have HB3 := Lib.hid (HBc.out.keep kd)
        have HO3 := Lib.hid (OwS.keep HO.out kd)
        have HK3 := Lib.hid (HK.out.trans (kd.mono HK.out.size))
        have hsz3 := Nat.le_trans hsz2 kd.size
        clear HBc HB HO HK HDR hbel kd CH CR
        refine AtS.done (by kernel_rfl) (NoPanic.normal ?_)
        have hlk : (((cur d).drop F).take k).length = k := by rw [List.length_take, List.length_drop, HCL.out]; omega
        have HLK := Lib.hid hlk
        have hrow : w1.ownsRow (W.heap.size + 1) 9 1 (.slice oA k oc) k ((((cur d).drop F).take k).map .string) := by
          have := HO3.out
          unfold OwS at this
          rw [HLK.out] at this
          exact this
        have HR := Lib.hid hrow
        clear hlk hrow
        go_wp2_with (at_builtin; go_must (refine wpList_append_any _ rfl (.tmp 29) (.tmp 31) _ rfl (W.heap.size + 1) 9 i1 _ 1 16 Try.underlying22 hi1 hy0 hy1 hy2 rfl (by omega) (.slice oA k oc) k _ rfl (HR.out.alloc _) _ 1 1 [.string X] rfl rfl (CellsAt.of_new _ _ _ _) (by simp [Value.oneCell']) (by omega) (by omega) (by simp; omega) ?_; intro v4 w4 hown4 hgr4 hat4))
        obtain ⟨nA, nc, rfl⟩ := own_form hown4
        have HB4 := Lib.hid ((HB3.out.alloc (.cells #[.string X] 9)).grown hgr4 (own_ne_type (HR.out.alloc (.cells #[.string X] 9)) (HB3.out.alloc (.cells #[.string X] 9)) (by decide)).symm)
        have HK4 := Lib.hid ((HK3.out.alloc HK3.out.size (.cells #[.string X] 9)).grown hgr4 (by have := HK3.out.size; simp; omega) (fun g h => by have := (HR.out.lt g h).1; omega))
        have HO4 : Hid (OwS w4 (W.heap.size + 1) (.slice nA (k + 1) nc) (((cur d).drop F).take (k + 1))) := by
          show World.ownsRow _ _ _ _ _ _ _
          rw [HTK.out, List.length_append, List.map_append, HLK.out]
          exact hown4
        have hsz4 : W.heap.size + 1 ≤ w4.heap.size := by have := hgr4.size; simp at this; omega
        clear hown4 hgr4 hat4 HR HO3 HB3 HK3 HTK HLK
        subst hhf
        go_wp2
        go_roundw
        case rel => exact ⟨k + 1, nA, nc, by omega, by go_num, rfl, HB4, HO4, HK4, hsz4⟩
        case measure => simp [intOf]; omega
    · obtain rfl : k = halfN d.secs.length := by omega
      have HO' := Lib.hid (OwS.rebase HO.out (Nat.le_succ _))
      clear HO HB
      go_wp2
      go_ret
      exact ⟨_, rfl, HO'.out, HK.out⟩
end Go.Proofs.Ytockmhhiomdlkaa
