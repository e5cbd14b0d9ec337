/- The reference's open, Records, Room. -/
import Derived.Test.YtockmhhiomdlkaaRfF
namespace Go.Proofs.Ytockmhhiomdlkaa
set_option linter.unusedVariables false
set_option linter.unusedSimpArgs false
open Go.RowKit

/-- An answer of the reference's open. -/
def OpnR (r : (Nat × List Txt × Nat) × Int) (W : World) (e : Ending) (w : World) : Prop :=
  ∃ v, e = .returned (.tuple #[v, .int .i64 (r.1.2.2 : Int), .int .i64 r.2]) ∧ Txs w v r.1.2.1 ∧ Below W.heap.size W w
theorem OpnR.err {W w : World} {k : Int} (h : Below W.heap.size W w) : OpnR ((0, [], 0), k) W (.returned (.tuple #[.slice (some ⟨w.heap.size, 0, none⟩) 0 0, .int .i64 0, .int .i64 k])) (w.alloc (.cells #[] 9)) :=
  ⟨_, rfl, txs_ownS (l := []) rfl (own_empty w 9 1), h.alloc h.size _⟩
theorem openD_area {d : Dk} (h : chkJ d = 0) (ha : actN d = 1 ∨ actN d = 2) : openD d = match areaR ((((cur d).drop (firstS d.secs.length (actN d))).take (halfN d.secs.length)).flatMap bts) d.size.toNat (halfN d.secs.length) with
    | none => ((0, [], 0), 13)
    | some x => ((actN d, x.1, x.2), 0) := by
  unfold openD
  rw [if_neg (fun e => e h)]
  unfold openL
  rw [if_pos (show (byte0 ((cur d).getD 0 ⟨#[]⟩)).toNat = 1 ∨ (byte0 ((cur d).getD 0 ⟨#[]⟩)).toNat = 2 from ha), cur_length]
  unfold areaOf
  rw [show (byte0 ((cur d).getD 0 ⟨#[]⟩)).toNat = actN d from rfl]
  cases areaR ((((cur d).drop (firstS d.secs.length (actN d))).take (halfN d.secs.length)).flatMap bts) d.size.toNat (halfN d.secs.length) <;> rfl
set_option maxRecDepth 100000 in
set_option maxHeartbeats 4000000 in
theorem ropen_any (W : World) (vs vp : Value) (d : Dk) (h : DskP W vs vp d) :
    Calls Try.prog 41 #[.agg #[.int .i64 d.size, vs, vp, .int .i64 d.left]] W (OpnR (openD d) W) := by
  obtain ⟨A, c, P, cp, rfl, rfl, hc, hcp, hm, hmp⟩ := h.form
  have hbk := Blk.new W #[.int .i64 d.size, .slice A d.secs.length c, .slice P d.pend.length cp, .int .i64 d.left] 25
  have K1 := (Below.refl W.heap.size W).alloc (Nat.le_refl _) (.cells #[.int .i64 d.size, .slice A d.secs.length c, .slice P d.pend.length cp, .int .i64 d.left] 25)
  have CC := Lib.hid (rjcheck_any _ _ _ d (h.keep (Keeps.of_below K1)))
  go_enter Try.func41, Try.ntmps41
  go_upto_region 1 with (fail)
  generalize W.alloc (.cells #[.int .i64 d.size, .slice A d.secs.length c, .slice P d.pend.length cp, .int .i64 d.left] 25) = w1 at *
  obtain ⟨q0, q1, q2, q3⟩ := box4 hbk (Below.refl _ _)
  have hkj : Hid (∀ h : chkJ d = 0, Valid d ∧ 3 ≤ d.secs.length) := chkJ_zero
  have HOB : Hid (chkJ d ≠ 0 → openD d = ((0, [], 0), chkJ d)) := openD_bad
  have HON : Hid (chkJ d = 0 → ¬ (actN d = 1 ∨ actN d = 2) → openD d = ((0, [], 0), 13)) := openD_none
  have HOA : Hid (chkJ d = 0 → actN d = 1 ∨ actN d = 2 → openD d = match areaR ((((cur d).drop (firstS d.secs.length (actN d))).take (halfN d.secs.length)).flatMap bts) d.size.toNat (halfN d.secs.length) with | none => ((0, [], 0), 13) | some x => ((actN d, x.1, x.2), 0)) := openD_area
  generalize chkJ d = kk at *
  go_wp2_with fail
  refine CC.out.mono ?_
  rintro e w2 ⟨rfl, hb2⟩
  have HB2 := Lib.hid (hbk.keep hb2)
  have HK2 := Lib.hid (K1.trans (hb2.mono K1.size))
  clear CC q0 q1 q2 q3 hbk K1 hb2
  by_cases hk : kk = 0
  · subst hk
    obtain ⟨hv, hn3⟩ := hkj.out (by trivial)
    have HVL := Lib.hid hv
    have v1 := hv.s1
    have v2 := hv.s2
    have v4 := hv.n2
    have CA0 := Lib.hid (ractive_any w2 _ _ d (h.keep (Keeps.of_below HK2.out)) hv hn3)
    obtain ⟨q0, q1, q2, q3⟩ := box4 HB2.out (Below.refl _ _)
    clear hkj HOB hv
    have HAV : Hid (actV d = if actN d = 1 ∨ actN d = 2 then actN d else 0) := rfl
    generalize hAVe : actV d = av at *
    have HAVE := Lib.hid hAVe
    clear hAVe
    go_wp2_with fail
    refine CA0.out.mono ?_
    rintro e w3 ⟨rfl, hb3⟩
    have HBc := Lib.hid (HB2.out.keep hb3)
    have HK3 := Lib.hid (HK2.out.trans (hb3.mono HK2.out.size))
    clear CA0 q0 q1 q2 q3 hb3 HB2 HK2
    by_cases ha : actN d = 1 ∨ actN d = 2
    · have hav := HAV.out.trans (if_pos ha)
      have HE := Lib.hid (HOA.out (by trivial) ha)
      clear HON HOA
      obtain ⟨ac, hac⟩ : ∃ ac, ac = actN d := ⟨_, rfl⟩
      rw [← hac] at ha hav HE HAV
      clear hac
      subst hav
      have hav0 : (((av : Nat) : Int) == 0) = false := by simp; omega
      have hfb := first_bd hn3 ha
      have hhb := half_bd hn3
      have hh5 : halfN d.secs.length ≤ 500 := by unfold halfN; omega
      have HSZ : Hid (Siz d.size.toNat (((cur d).drop (firstS d.secs.length av)).take (halfN d.secs.length))) := ((cur_siz HVL.out).drop _).take _
      have HAL : Hid ((((cur d).drop (firstS d.secs.length av)).take (halfN d.secs.length)).length = halfN d.secs.length) := by
        show _ = _
        rw [List.length_take, List.length_drop, cur_length]
        omega
      go_upto_region 6 with (fail)
      have HDR : Hid (Below w3.heap.size w3 w3.drew) := below_drew1 (Below.refl _ _)
      have hsw : W.heap.size ≤ w3.heap.size := HK3.out.size
      have HKW : ∀ w', Below w3.drew.heap.size w3.drew w' → Below W.heap.size W w' := fun w' hb => HK3.out.trans ((HDR.out.trans (hb.mono (Nat.le_refl _))).mono HK3.out.size)
      have CA0 := fun w' (hb : Below w3.drew.heap.size w3.drew w') => ractive_any w' _ _ d (h.keep (Keeps.of_below (HKW w' hb))) HVL.out hn3
      rw [HAVE.out] at CA0
      have CA := Lib.hid CA0
      have CAr := Lib.hid (fun w' (hb : Below w3.drew.heap.size w3.drew w') => rarea_any w' _ _ d (h.keep (Keeps.of_below (HKW w' hb))) HVL.out hn3 av ha)
      clear CA0 HKW
      obtain ⟨AL, hAL⟩ : ∃ AL, AL = ((cur d).drop (firstS d.secs.length av)).take (halfN d.secs.length) := ⟨_, rfl⟩
      rw [← hAL] at CAr HSZ HAL HE
      have HAL' := HAL.out
      rw [← HAL.out] at HE
      obtain ⟨O, hO⟩ : ∃ O, O = areaR (AL.flatMap bts) d.size.toNat AL.length := ⟨_, rfl⟩
      rw [← hO] at HE
      obtain ⟨orr, hor⟩ : ∃ x, x = (O.map (·.1)).getD [] := ⟨_, rfl⟩
      obtain ⟨ou, hou⟩ : ∃ x : Nat, x = (O.map (·.2)).getD 0 := ⟨_, rfl⟩
      obtain ⟨ob, hob⟩ : ∃ x : Bool, x = O.isSome := ⟨_, rfl⟩
      have HO : Hid (((areaR (AL.flatMap bts) d.size.toNat AL.length).map (·.1)).getD [] = orr ∧ ((areaR (AL.flatMap bts) d.size.toNat AL.length).map (·.2)).getD 0 = ou ∧ (areaR (AL.flatMap bts) d.size.toNat AL.length).isSome = ob) := ⟨by rw [← hO]; exact hor.symm, by rw [← hO]; exact hou.symm, by rw [← hO]; exact hob.symm⟩
      have HR : Hid (ob = true ∧ openD d = ((av, orr, ou), 0) ∨ ob = false ∧ openD d = ((0, [], 0), 13)) := by
        show _ ∨ _
        rw [hob, hor, hou, HE.out]
        cases O with
        | none => exact .inr ⟨rfl, rfl⟩
        | some x => exact .inl ⟨rfl, rfl⟩
      generalize hac2 : av = ac at *
      clear hO hor hou hob HE hAL HAV hac2 hav0 HAL'
      refine prom_start2 (by kernel_rfl) 14 (fun i v w => match i with
        | 0 => v = .agg #[.int .i64 d.size, .slice A d.secs.length c, .slice P d.pend.length cp, .int .i64 d.left]
        | 1 => v = .agg #[.int .i64 d.size, .slice A d.secs.length c, .slice P d.pend.length cp, .int .i64 d.left]
        | 2 => v = .int .i64 ((ac : Nat) : Int)
        | 3 => OwS w W.heap.size v AL
        | 4 => v = .pointer (some ⟨W.heap.size, 0, none⟩)
        | 5 => v = .int .i64 d.size
        | 6 => ∃ v2, v = .tuple #[v2, .int .i64 (ou : Int), .bool ob] ∧ Txs w v2 orr
        | 7 => ∃ v2, v = .tuple #[v2, .int .i64 (ou : Int), .bool ob] ∧ Txs w v2 orr
        | 8 => Txs w v orr
        | 9 => v = .int .i64 (ou : Int)
        | 10 => v = .bool ob
        | 11 => Txs w v orr
        | 12 => v = .int .i64 (ou : Int)
        | _ => v = .bool ob) 0 (by kernel_rfl) (fun i v w w' h hb => ?_) ?_ ?_
      · match i, h with
        | 0, h => exact h
        | 1, h => exact h
        | 2, h => exact h
        | 3, h => exact OwS.keep h hb
        | 4, h => exact h
        | 5, h => exact h
        | 6, h => exact (let ⟨v2, e, hp⟩ := h; ⟨v2, e, hp.keep (Keeps.of_below hb)⟩)
        | 7, h => exact (let ⟨v2, e, hp⟩ := h; ⟨v2, e, hp.keep (Keeps.of_below hb)⟩)
        | 8, h => exact h.keep (Keeps.of_below hb)
        | 9, h => exact h
        | 10, h => exact h
        | 11, h => exact h.keep (Keeps.of_below hb)
        | 12, h => exact h
        | 13, h => exact h
        | _ + 14, h => exact h
      · rintro i o hi ho a w1 hdf hlen hold hbel hdep K hK
        clear hdf
        have hV := (HBc.out.keep HDR.out).keep hbel
        obtain ⟨q0, q1, q2, q3⟩ := box4 hV (Below.refl _ _)
        have s1 : a.tmps.getD 1 undef = .pointer (some ⟨W.heap.size, 0, none⟩) := by
          rw [Array.getD_eq_getD_getElem?, hold 1 ?_]
          · rfl
          · intro j hj
            have : j = 0 ∨ j = 1 ∨ j = 2 ∨ j = 3 ∨ j = 4 ∨ j = 5 ∨ j = 6 ∨ j = 7 ∨ j = 8 ∨ j = 9 ∨ j = 10 ∨ j = 11 ∨ j = 12 ∨ j = 13 := by omega
            rcases this with rfl | rfl | rfl | rfl | rfl | rfl | rfl | rfl | rfl | rfl | rfl | rfl | rfl | rfl <;> decide
        have hi' : i = 0 ∨ i = 1 ∨ i = 2 ∨ i = 3 ∨ i = 4 ∨ i = 5 ∨ i = 6 ∨ i = 7 ∨ i = 8 ∨ i = 9 ∨ i = 10 ∨ i = 11 ∨ i = 12 ∨ i = 13 := by omega
        rcases hi' with rfl | rfl | rfl | rfl | rfl | rfl | rfl | rfl | rfl | rfl | rfl | rfl | rfl | rfl
        · obtain rfl := Option.some.inj ho
          unfold Oper.wp
          simp only [execOp, Act.eval, s1]
          go_simp
          exact hK _ w1 rfl (Below.refl _ _)
        · obtain rfl := Option.some.inj ho
          unfold Oper.wp
          simp only [execOp, Act.eval, s1]
          go_simp
          exact hK _ w1 rfl (Below.refl _ _)
        · obtain rfl := Option.some.inj ho
          have e21 := hdep 1 21 (by omega) (by kernel_rfl) (by kernel_rfl)
          simp only at e21
          unfold Oper.wp
          simp only [execOp, Act.eval, e21]
          go_simp
          refine (CA.out w1 hbel).mono ?_
          rintro e' w4 ⟨rfl, hb4⟩
          exact hK _ w4 (rfl) hb4
        · obtain rfl := Option.some.inj ho
          have e20 := hdep 0 20 (by omega) (by kernel_rfl) (by kernel_rfl)
          simp only at e20
          have e22 := hdep 2 22 (by omega) (by kernel_rfl) (by kernel_rfl)
          simp only at e22
          unfold Oper.wp
          simp only [execOp, Act.eval, e20, e22]
          go_simp
          refine (CAr.out w1 hbel).mono ?_
          rintro e' w4 ⟨v4, rfl, hv4, hb4⟩
          exact hK _ w4 (OwS.rebase hv4 (by have := hbel.size; have := HDR.out.size; have := hsw; omega)) hb4
        · obtain rfl := Option.some.inj ho
          unfold Oper.wp
          simp only [execOp, Act.eval, s1]
          go_simp
          exact hK _ w1 rfl (Below.refl _ _)
        · obtain rfl := Option.some.inj ho
          have e24 := hdep 4 24 (by omega) (by kernel_rfl) (by kernel_rfl)
          simp only at e24
          unfold Oper.wp
          simp only [execOp, Act.eval, e24]
          go_simp
          exact hK _ w1 rfl (Below.refl _ _)
        · obtain rfl := Option.some.inj ho
          have e23 := hdep 3 23 (by omega) (by kernel_rfl) (by kernel_rfl)
          simp only at e23
          have e25 := hdep 5 25 (by omega) (by kernel_rfl) (by kernel_rfl)
          simp only at e25
          obtain ⟨g, cap, hx23, _, _, _, _⟩ := own_row (show w1.ownsRow W.heap.size 9 1 (a.tmps.getD 23 undef) AL.length (AL.map .string) from e23) (by have := HAL.out; omega)
          rw [hx23] at e23
          have CD := rdivide_any w1 g cap AL (OwS.strs e23) d.size.toNat (by omega) (by omega) HSZ.out (by have := HAL.out; omega)
          rw [show ((d.size.toNat : Nat) : Int) = d.size by omega] at CD
          have CD := Lib.hid CD
          unfold Oper.wp
          simp only [execOp, Act.eval, hx23, e25]
          go_simp
          refine CD.out.mono ?_
          rintro e' w4 ⟨v4, rfl, hv4, hb4⟩
          obtain ⟨o1, o2, o3⟩ := HO.out
          rw [o2, o3]
          rw [o1] at hv4
          exact hK _ w4 ⟨v4, rfl, hv4⟩ hb4
        · obtain rfl := Option.some.inj ho
          have e26 := hdep 6 26 (by omega) (by kernel_rfl) (by kernel_rfl)
          simp only at e26
          obtain ⟨v2, hx26, ht26⟩ := e26
          unfold Oper.wp
          simp only [execOp, Act.eval, hx26]
          go_simp
          exact hK _ w1 ⟨v2, rfl, ht26⟩ (Below.refl _ _)
        · obtain rfl := Option.some.inj ho
          have e19 := hdep 7 19 (by omega) (by kernel_rfl) (by kernel_rfl)
          simp only at e19
          obtain ⟨v2, hx19, ht19⟩ := e19
          unfold Oper.wp
          simp only [execOp, Act.eval, hx19]
          go_simp
          exact hK _ w1 ht19 (Below.refl _ _)
        · obtain rfl := Option.some.inj ho
          have e19 := hdep 7 19 (by omega) (by kernel_rfl) (by kernel_rfl)
          simp only at e19
          obtain ⟨v2, hx19, ht19⟩ := e19
          unfold Oper.wp
          simp only [execOp, Act.eval, hx19]
          go_simp
          exact hK _ w1 rfl (Below.refl _ _)
        · obtain rfl := Option.some.inj ho
          have e19 := hdep 7 19 (by omega) (by kernel_rfl) (by kernel_rfl)
          simp only at e19
          obtain ⟨v2, hx19, ht19⟩ := e19
          unfold Oper.wp
          simp only [execOp, Act.eval, hx19]
          go_simp
          exact hK _ w1 rfl (Below.refl _ _)
        · obtain rfl := Option.some.inj ho
          have e27 := hdep 8 27 (by omega) (by kernel_rfl) (by kernel_rfl)
          simp only at e27
          generalize hv27 : a.tmps.getD 27 undef = v27 at *
          unfold Oper.wp
          simp only [execOp, Act.eval, hv27]
          go_simp
          exact hK _ w1 e27 (Below.refl _ _)
        · obtain rfl := Option.some.inj ho
          have e28 := hdep 9 28 (by omega) (by kernel_rfl) (by kernel_rfl)
          simp only at e28
          unfold Oper.wp
          simp only [execOp, Act.eval, e28]
          go_simp
          exact hK _ w1 rfl (Below.refl _ _)
        · obtain rfl := Option.some.inj ho
          have e29 := hdep 10 29 (by omega) (by kernel_rfl) (by kernel_rfl)
          simp only at e29
          unfold Oper.wp
          simp only [execOp, Act.eval, e29]
          go_simp
          exact hK _ w1 rfl (Below.refl _ _)
      · rintro a w1 hdf hlen hold hbel hnew
        have e7 := hnew 12 7 (by omega) (by kernel_rfl)
        simp only at e7
        have e8 := hnew 13 8 (by omega) (by kernel_rfl)
        simp only at e8
        have e6 := hnew 11 6 (by omega) (by kernel_rfl)
        simp only at e6
        have hact := act_eq [20, 21, 22, 23, 24, 25, 26, 19, 27, 28, 29, 6, 7, 8] hdf hlen (fun t ht => hold t (fun j hj hd => by
          have : j = 0 ∨ j = 1 ∨ j = 2 ∨ j = 3 ∨ j = 4 ∨ j = 5 ∨ j = 6 ∨ j = 7 ∨ j = 8 ∨ j = 9 ∨ j = 10 ∨ j = 11 ∨ j = 12 ∨ j = 13 := by omega
          rcases this with rfl | rfl | rfl | rfl | rfl | rfl | rfl | rfl | rfl | rfl | rfl | rfl | rfl | rfl <;> (obtain rfl := Option.some.inj hd; exact ht (by decide))))
        simp only [List.foldl, e7, e8, List.setIfInBounds_toArray, List.set_cons_zero, List.set_cons_succ] at hact
        clear hdf hlen hold hnew e7 e8
        generalize a.tmps.getD 20 undef = u20 at hact
        generalize a.tmps.getD 21 undef = u21 at hact
        generalize a.tmps.getD 22 undef = u22 at hact
        generalize a.tmps.getD 23 undef = u23 at hact
        generalize a.tmps.getD 24 undef = u24 at hact
        generalize a.tmps.getD 25 undef = u25 at hact
        generalize a.tmps.getD 26 undef = u26 at hact
        generalize a.tmps.getD 19 undef = u19 at hact
        generalize a.tmps.getD 27 undef = u27 at hact
        generalize a.tmps.getD 28 undef = u28 at hact
        generalize a.tmps.getD 29 undef = u29 at hact
        generalize a.tmps.getD 6 undef = u6 at hact e6
        subst hact
        have kd := HDR.out.trans (hbel.mono (Nat.le_refl _))
        have HK4 := Lib.hid (HK3.out.trans (kd.mono HK3.out.size))
        have HT := Lib.hid e6
        clear HBc HK3 HDR hbel kd CA CAr e6 HO
        refine AtS.done (by kernel_rfl) (NoPanic.normal ?_)
        rcases HR.out with ⟨hb1, hr1⟩ | ⟨hb1, hr1⟩
        · subst hb1
          have HE := Lib.hid hr1
          clear hr1 HR
          go_wp2
          go_ret3
          rw [HE.out]
          exact ⟨_, rfl, HT.out, HK4.out⟩
        · subst hb1
          have HE := Lib.hid hr1
          clear hr1 HR
          go_wp2
          go_ret3
          rw [HE.out]
          exact OpnR.err HK4.out
    · have hav := HAV.out.trans (if_neg ha)
      subst hav
      have HE := Lib.hid (HON.out (by trivial) ha)
      clear HON HOA HAV ha
      go_wp2
      go_ret3
      rw [HE.out]
      exact OpnR.err HK3.out
  · have hne : (kk != 0) = true := by simpa using hk
    have HE := Lib.hid (HOB.out hk)
    clear HOB HON HOA hkj
    go_wp2
    go_ret3
    rw [HE.out]
    exact OpnR.err HK2.out
end Go.Proofs.Ytockmhhiomdlkaa
