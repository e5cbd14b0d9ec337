/- journal: Format. journal: Append. journal: Rewrite. -/
import Derived.Test.YtockmhhiomdlkaaJoB
import Derived.Test.YtockmhhiomdlkaaJnAll
namespace Go.Proofs.Ytockmhhiomdlkaa
set_option linter.unusedVariables false
set_option linter.unusedSimpArgs false
open Go.RowKit

set_option maxRecDepth 100000 in
set_option maxHeartbeats 2000000 in
theorem format_any (W : World) (vs vp : Value) (d : Dk) (h : DskP W vs vp d) (hn : d.pend.length ≤ 10000) :
    Calls Try.prog 21 #[.agg #[.int .i64 d.size, vs, vp, .int .i64 d.left]] W (DkPost W (fmtD d).1 (fmtD d).2) := by
  obtain ⟨A, c, P, cp, rfl, rfl, hc, hcp, hm, hmp⟩ := h.form
  have hbk := (Blk.new W #[.int .i64 d.size, .slice A d.secs.length c, .slice P d.pend.length cp, .int .i64 d.left] 25).alloc (.cells #[.int .i64 0, .slice none 0 0, .slice none 0 0, .int .i64 0] 25)
  have hbr := Blk.new (W.alloc (.cells #[.int .i64 d.size, .slice A d.secs.length c, .slice P d.pend.length cp, .int .i64 d.left] 25)) #[.int .i64 0, .slice none 0 0, .slice none 0 0, .int .i64 0] 25
  rw [World.size_alloc] at hbr
  have K1 := ((Below.refl W.heap.size W).alloc (Nat.le_refl _) (.cells #[.int .i64 d.size, .slice A d.secs.length c, .slice P d.pend.length cp, .int .i64 d.left] 25)).alloc (by simp) (.cells #[.int .i64 0, .slice none 0 0, .slice none 0 0, .int .i64 0] 25)
  have HV1 : Var _ W.heap.size A c P cp d := ⟨hbk, h.keep (Keeps.of_below K1)⟩
  have HFm : Hid (fmtD d = if chkJ d ≠ 0 then (noDisk, chkJ d) else runD d (twoO [(firstS d.secs.length 1, zeroS d.size.toNat), (firstS d.secs.length 2, zeroS d.size.toNat)] (0, markS d.size.toNat 1))) := rfl
  clear hbk
  go_enter Try.func21, Try.ntmps21
  go_upto_region 1 with (fail)
  generalize (W.alloc (.cells #[.int .i64 d.size, .slice A d.secs.length c, .slice P d.pend.length cp, .int .i64 d.left] 25)).alloc (.cells #[.int .i64 0, .slice none 0 0, .slice none 0 0, .int .i64 0] 25) = w1 at *
  have CH := Lib.hid (jcheck_any w1 _ _ d HV1.dk)
  obtain ⟨q0, q1, q2, q3⟩ := box4 HV1.blk (Below.refl _ _)
  by_cases hk : chkJ d = 0
  · obtain ⟨hval, hn3⟩ := chkJ_zero hk
    have CH0 : Hid (Calls Try.prog 47 #[.agg #[.int .i64 d.size, .slice A d.secs.length c, .slice P d.pend.length cp, .int .i64 d.left]] w1 (ErrPost w1 0)) := by
      have := CH.out
      rwa [hk] at this
    have HE := Lib.hid (HFm.out.trans (if_neg (by simp [hk])))
    have v1 := hval.s1
    have v2 := hval.s2
    have v4 := hval.n2
    clear CH hk HFm
    go_wp2_with fail
    refine CH0.out.mono ?_
    rintro e w2 ⟨rfl, hb2⟩
    have HV2 := HV1.keep hb2
    have hbr2 := hbr.keep hb2
    have K2 := K1.trans (hb2.mono K1.size)
    have CP := padded_any [] d.size.toNat (by simp) (by omega) w2
    rw [show ((d.size.toNat : Nat) : Int) = d.size by omega] at CP
    have HZ : Hid (strB (padT d.size.toNat []) = zeroS d.size.toNat) := rfl
    have CP' := Lib.hid CP
    clear CH0 q0 q1 q2 q3 HV1 hbr hb2 K1 CP
    obtain ⟨q0, q1, q2, q3⟩ := box4 HV2.blk (Below.refl _ _)
    rw [HZ.out] at CP'
    go_wp2_with fail
    refine CP'.out.mono ?_
    rintro e w3 ⟨rfl, hb3⟩
    have HV3 := Lib.hid (HV2.keep hb3)
    have HR3 := Lib.hid (hbr2.keep hb3)
    have K3 := Lib.hid (K2.trans (hb3.mono K2.size))
    clear CP' q0 q1 q2 q3 HV2 hbr2 hb3 K2
    go_upto_region 5 with (fail)
    obtain ⟨h1, h2⟩ := half_bd hn3
    have hF1 : firstS d.secs.length 1 ≤ 1001 := by unfold firstS halfN; omega
    have hF2 : firstS d.secs.length 2 ≤ 1001 := by unfold firstS halfN; omega
    have HDR : Hid (Below w3.heap.size w3 w3.drew) := below_drew1 (Below.refl _ _)
    have CF1 := Lib.hid (fun w' (hb : Below w3.drew.heap.size w3.drew w') => first_any w' _ _ d (((HV3.out.keep HDR.out).keep hb).dk) v4 1 ⟨by omega, by omega⟩)
    have CF2 := Lib.hid (fun w' (hb : Below w3.drew.heap.size w3.drew w') => first_any w' _ _ d (((HV3.out.keep HDR.out).keep hb).dk) v4 2 ⟨by omega, by omega⟩)
    have CM0 := fun w' => padded_any [1] d.size.toNat (by simp; omega) (by omega) w'
    have e1 : strB (padT d.size.toNat [1]) = markS d.size.toNat 1 := rfl
    rw [show ((d.size.toNat : Nat) : Int) = d.size by omega, e1] at CM0
    have CM := Lib.hid CM0
    clear CM0 e1
    obtain ⟨OPS, hO⟩ : ∃ o, o = twoO [(firstS d.secs.length 1, zeroS d.size.toNat), (firstS d.secs.length 2, zeroS d.size.toNat)] (0, markS d.size.toNat 1) := ⟨_, rfl⟩
    have HOPS := Lib.hid hO
    rw [← hO] at HE
    clear hO
    generalize firstS d.secs.length 1 = F1 at *
    generalize firstS d.secs.length 2 = F2 at *
    generalize zeroS d.size.toNat = Z at *
    generalize markS d.size.toNat 1 = MK at *
    refine prom_start (by kernel_rfl) 15 (fun i v w => match i with
      | 0 => v = .agg #[.int .i64 d.size, .slice A d.secs.length c, .slice P d.pend.length cp, .int .i64 d.left]
      | 1 => v = .agg #[.int .i64 d.size, .slice A d.secs.length c, .slice P d.pend.length cp, .int .i64 d.left]
      | 2 => v = .int .i64 (F1 : Int)
      | 3 => v = .string Z
      | 4 => OpV w v (some (F1, Z))
      | 5 => v = .agg #[.int .i64 d.size, .slice A d.secs.length c, .slice P d.pend.length cp, .int .i64 d.left]
      | 6 => v = .int .i64 (F2 : Int)
      | 7 => v = .string Z
      | 8 => OpV w v (some (F2, Z))
      | 9 => v = .pointer (some ⟨W.heap.size, 0, none⟩)
      | 10 => v = .int .i64 d.size
      | 11 => v = .string MK
      | 12 => OpV w v (some (0, MK))
      | 13 => Ops w v OPS
      | _ => ∃ vs2 vp2, v = .tuple #[.agg #[.int .i64 (runD d OPS).1.size, vs2, vp2, .int .i64 (runD d OPS).1.left], .int .i64 (runD d OPS).2] ∧ DskP w vs2 vp2 (runD d OPS).1) 0 (by kernel_rfl) (fun i v w w' h hb => ?_) ?_ ?_
    · match i, h with
      | 0, h => exact h
      | 1, h => exact h
      | 2, h => exact h
      | 3, h => exact h
      | 4, h => exact OpV.keep h hb
      | 5, h => exact h
      | 6, h => exact h
      | 7, h => exact h
      | 8, h => exact OpV.keep h hb
      | 9, h => exact h
      | 10, h => exact h
      | 11, h => exact h
      | 12, h => exact OpV.keep h hb
      | 13, h => exact Ops.keep h hb
      | 14, h => exact (let ⟨vs2, vp2, e, hp⟩ := h; ⟨vs2, vp2, e, hp.keep (Keeps.of_below hb)⟩)
      | _ + 15, h => exact (let ⟨vs2, vp2, e, hp⟩ := h; ⟨vs2, vp2, e, hp.keep (Keeps.of_below hb)⟩)
    · rintro i o hi ho a w1 hdf hlen hold hbel hdep K hK
      clear hdf
      have hV := (HV3.out.keep HDR.out).keep hbel
      obtain ⟨q0, q1, q2, q3⟩ := box4 hV.blk (Below.refl _ _)
      have s1 : a.tmps.getD 1 undef = .pointer (some ⟨W.heap.size, 0, none⟩) := by
        rw [Array.getD_eq_getD_getElem?, hold 1 ?_]
        · rfl
        · intro j hj
          have : j = 0 ∨ j = 1 ∨ j = 2 ∨ j = 3 ∨ j = 4 ∨ j = 5 ∨ j = 6 ∨ j = 7 ∨ j = 8 ∨ j = 9 ∨ j = 10 ∨ j = 11 ∨ j = 12 ∨ j = 13 ∨ j = 14 := by omega
          rcases this with rfl | rfl | rfl | rfl | rfl | rfl | rfl | rfl | rfl | rfl | rfl | rfl | rfl | rfl | rfl <;> decide
      have s5 : a.tmps.getD 5 undef = .string Z := by
        rw [Array.getD_eq_getD_getElem?, hold 5 ?_]
        · rfl
        · intro j hj
          have : j = 0 ∨ j = 1 ∨ j = 2 ∨ j = 3 ∨ j = 4 ∨ j = 5 ∨ j = 6 ∨ j = 7 ∨ j = 8 ∨ j = 9 ∨ j = 10 ∨ j = 11 ∨ j = 12 ∨ j = 13 ∨ j = 14 := by omega
          rcases this with rfl | rfl | rfl | rfl | rfl | rfl | rfl | rfl | rfl | rfl | rfl | rfl | rfl | rfl | rfl <;> decide
      have hi' : i = 0 ∨ i = 1 ∨ i = 2 ∨ i = 3 ∨ i = 4 ∨ i = 5 ∨ i = 6 ∨ i = 7 ∨ i = 8 ∨ i = 9 ∨ i = 10 ∨ i = 11 ∨ i = 12 ∨ i = 13 ∨ i = 14 := by omega
      rcases hi' with rfl | rfl | rfl | rfl | rfl | rfl | rfl | rfl | rfl | rfl | rfl | rfl | rfl | rfl | rfl
      · obtain rfl := Option.some.inj ho
        unfold Oper.wp
        simp only [execOp, Act.eval, s1]
        go_simp
        exact hK _ w1 rfl (Below.refl _ _)
      · obtain rfl := Option.some.inj ho
        unfold Oper.wp
        simp only [execOp, Act.eval, s1]
        go_simp
        exact hK _ w1 rfl (Below.refl _ _)
      · obtain rfl := Option.some.inj ho
        have e16 := hdep 1 16 (by omega) (by kernel_rfl) (by kernel_rfl)
        simp only at e16
        unfold Oper.wp
        simp only [execOp, Act.eval, e16]
        go_simp
        refine (CF1.out w1 hbel).mono ?_
        rintro e' w4 ⟨rfl, hb4⟩
        exact hK _ w4 (rfl) hb4
      · obtain rfl := Option.some.inj ho
        unfold Oper.wp
        simp only [execOp, Act.eval, s5]
        go_simp
        exact hK _ w1 rfl (Below.refl _ _)
      · obtain rfl := Option.some.inj ho
        have e17 := hdep 2 17 (by omega) (by kernel_rfl) (by kernel_rfl)
        simp only at e17
        have e18 := hdep 3 18 (by omega) (by kernel_rfl) (by kernel_rfl)
        simp only at e18
        unfold Oper.wp
        simp only [execOp, Act.eval, e17, e18]
        go_simp
        refine (jwrite_any F1 Z (by omega) w1).mono ?_
        rintro e' w4 ⟨v4, rfl, hv4, hb4⟩
        exact hK _ w4 (hv4) hb4
      · obtain rfl := Option.some.inj ho
        unfold Oper.wp
        simp only [execOp, Act.eval, s1]
        go_simp
        exact hK _ w1 rfl (Below.refl _ _)
      · obtain rfl := Option.some.inj ho
        have e20 := hdep 5 20 (by omega) (by kernel_rfl) (by kernel_rfl)
        simp only at e20
        unfold Oper.wp
        simp only [execOp, Act.eval, e20]
        go_simp
        refine (CF2.out w1 hbel).mono ?_
        rintro e' w4 ⟨rfl, hb4⟩
        exact hK _ w4 (rfl) hb4
      · obtain rfl := Option.some.inj ho
        unfold Oper.wp
        simp only [execOp, Act.eval, s5]
        go_simp
        exact hK _ w1 rfl (Below.refl _ _)
      · obtain rfl := Option.some.inj ho
        have e21 := hdep 6 21 (by omega) (by kernel_rfl) (by kernel_rfl)
        simp only at e21
        have e22 := hdep 7 22 (by omega) (by kernel_rfl) (by kernel_rfl)
        simp only at e22
        unfold Oper.wp
        simp only [execOp, Act.eval, e21, e22]
        go_simp
        refine (jwrite_any F2 Z (by omega) w1).mono ?_
        rintro e' w4 ⟨v4, rfl, hv4, hb4⟩
        exact hK _ w4 (hv4) hb4
      · obtain rfl := Option.some.inj ho
        unfold Oper.wp
        simp only [execOp, Act.eval, s1]
        go_simp
        exact hK _ w1 rfl (Below.refl _ _)
      · obtain rfl := Option.some.inj ho
        have e24 := hdep 9 24 (by omega) (by kernel_rfl) (by kernel_rfl)
        simp only at e24
        unfold Oper.wp
        simp only [execOp, Act.eval, e24]
        go_simp
        exact hK _ w1 rfl (Below.refl _ _)
      · obtain rfl := Option.some.inj ho
        have e25 := hdep 10 25 (by omega) (by kernel_rfl) (by kernel_rfl)
        simp only at e25
        unfold Oper.wp
        simp only [execOp, Act.eval, e25]
        go_simp
        refine (CM.out w1).mono ?_
        rintro e' w4 ⟨rfl, hb4⟩
        exact hK _ w4 (rfl) hb4
      · obtain rfl := Option.some.inj ho
        have e26 := hdep 11 26 (by omega) (by kernel_rfl) (by kernel_rfl)
        simp only at e26
        unfold Oper.wp
        simp only [execOp, Act.eval, e26]
        go_simp
        refine (jwrite_any 0 MK (by omega) w1).mono ?_
        rintro e' w4 ⟨v4, rfl, hv4, hb4⟩
        exact hK _ w4 (hv4) hb4
      · obtain rfl := Option.some.inj ho
        have e19 := hdep 4 19 (by omega) (by kernel_rfl) (by kernel_rfl)
        simp only at e19
        have e23 := hdep 8 23 (by omega) (by kernel_rfl) (by kernel_rfl)
        simp only at e23
        have e27 := hdep 12 27 (by omega) (by kernel_rfl) (by kernel_rfl)
        simp only at e27
        have f19 := e19
        obtain ⟨b1, c1, x19, y19⟩ := e19
        rw [x19] at f19
        have f23 := e23
        obtain ⟨b2, c2, x23, y23⟩ := e23
        rw [x23] at f23
        have f27 := e27
        obtain ⟨b3, c3, x27, y27⟩ := e27
        rw [x27] at f27
        have hol := ((((OpL.one f19).append (OpL.one f23)).append (OpL.one (w := w1) (v := .func (.func 39) #[] #[]) (o := none) rfl)).append (OpL.one f27)).append (OpL.one (w := w1) (v := .func (.func 39) #[] #[]) (o := none) rfl)
        have hon : Ops (w1.alloc (.cells #[.func (.func 66) #[] #[.pointer (some ⟨b1, 0, none⟩), .pointer (some ⟨c1, 0, none⟩)], .func (.func 66) #[] #[.pointer (some ⟨b2, 0, none⟩), .pointer (some ⟨c2, 0, none⟩)], .func (.func 39) #[] #[], .func (.func 66) #[] #[.pointer (some ⟨b3, 0, none⟩), .pointer (some ⟨c3, 0, none⟩)], .func (.func 39) #[] #[]] 70)) (.slice (some ⟨w1.heap.size, 0, none⟩) 5 5) OPS := by
          rw [HOPS.out]
          exact ops_new hol (by simp)
        clear hlen
        rw [Array.getD_eq_getD_getElem?] at x19 x23 x27
        unfold Oper.wp
        simp only [execOp, Act.eval]
        go_simp
        exact hK _ _ hon ((Below.refl _ _).alloc (Nat.le_refl _) _)
      · obtain rfl := Option.some.inj ho
        have e15 := hdep 0 15 (by omega) (by kernel_rfl) (by kernel_rfl)
        simp only at e15
        have e28 := hdep 13 28 (by omega) (by kernel_rfl) (by kernel_rfl)
        simp only at e28
        generalize hv28 : a.tmps.getD 28 undef = v28 at *
        unfold Oper.wp
        simp only [execOp, Act.eval, e15, hv28]
        go_simp
        refine (run_any w1 _ _ d hV.dk v28 OPS e28 (by rw [HOPS.out]; simp [twoO]; omega)).mono ?_
        rintro e' w4 ⟨vs2, vp2, rfl, hd4, hb4⟩
        exact hK _ w4 ⟨vs2, vp2, rfl, hd4⟩ hb4
    · rintro a w1 hdf hlen hold hbel hnew
      have e29 := hnew 14 29 (by omega) (by kernel_rfl)
      simp only at e29
      obtain ⟨vs2, vp2, e29, hd2⟩ := e29
      have hact := act_eq [15, 16, 17, 18, 19, 20, 21, 22, 23, 24, 25, 26, 27, 28, 29] hdf hlen (fun t ht => hold t (fun j hj hd => by
        have : j = 0 ∨ j = 1 ∨ j = 2 ∨ j = 3 ∨ j = 4 ∨ j = 5 ∨ j = 6 ∨ j = 7 ∨ j = 8 ∨ j = 9 ∨ j = 10 ∨ j = 11 ∨ j = 12 ∨ j = 13 ∨ j = 14 := by omega
        rcases this with rfl | rfl | rfl | rfl | rfl | rfl | rfl | rfl | rfl | rfl | rfl | rfl | rfl | rfl | rfl <;> (obtain rfl := Option.some.inj hd; exact ht (by decide))))
      simp only [List.foldl, e29, List.setIfInBounds_toArray, List.set_cons_zero, List.set_cons_succ] at hact
      clear hdf hlen hold hnew e29
      generalize a.tmps.getD 15 undef = u15 at hact
      generalize a.tmps.getD 16 undef = u16 at hact
      generalize a.tmps.getD 17 undef = u17 at hact
      generalize a.tmps.getD 18 undef = u18 at hact
      generalize a.tmps.getD 19 undef = u19 at hact
      generalize a.tmps.getD 20 undef = u20 at hact
      generalize a.tmps.getD 21 undef = u21 at hact
      generalize a.tmps.getD 22 undef = u22 at hact
      generalize a.tmps.getD 23 undef = u23 at hact
      generalize a.tmps.getD 24 undef = u24 at hact
      generalize a.tmps.getD 25 undef = u25 at hact
      generalize a.tmps.getD 26 undef = u26 at hact
      generalize a.tmps.getD 27 undef = u27 at hact
      generalize a.tmps.getD 28 undef = u28 at hact
      subst hact
      have hbr := (HR3.out.keep HDR.out).keep hbel
      have KB := K3.out.trans ((HDR.out.trans (hbel.mono (Nat.le_refl _))).mono K3.out.size)
      have hlt1 := hbr.lt
      clear hbel HDR HR3 K3 HV3 CF1 CF2 CM HOPS
      generalize runD d OPS = R at *
      obtain ⟨D, N⟩ := R
      simp only at hd2 HE ⊢
      obtain ⟨A2, c2, P2, cp2, rfl, rfl, _, _, _, _⟩ := hd2.form
      have HV2 := Lib.hid (dk_put hbr hd2)
      have K2 := Lib.hid (put4_below (A := A2) (c := c2) (P := P2) (cp := cp2) (d := D) KB (show W.heap.size ≤ W.heap.size + 1 by omega))
      obtain ⟨t0, t1, t2, t3, r0, r1, r2, r3⟩ := box8 hbr (Below.refl _ _)
      clear KB hd2 hbr
      (refine AtS.free (i := 15) (v := ?_) (by simp only [List.getElem?_toArray, List.getElem?_cons_succ, List.getElem?_cons_zero]; rfl) (by kernel_rfl) (by kernel_rfl) (by kernel_rfl) (fun _ _ _ h => h) (by kernel_rfl) (Or.inl ⟨by rfl, fun w _ => ?_⟩) ?_; rotate_left; (go_simp; try with_reducible rfl); simp only [Act.put, List.setIfInBounds_toArray, List.set_cons_zero, List.set_cons_succ])
      (refine AtS.free (i := 16) (v := ?_) (by simp only [List.getElem?_toArray, List.getElem?_cons_succ, List.getElem?_cons_zero]; rfl) (by kernel_rfl) (by kernel_rfl) (by kernel_rfl) (fun _ _ _ h => h) (by kernel_rfl) (Or.inl ⟨by rfl, fun w _ => ?_⟩) ?_; rotate_left; (go_simp; try with_reducible rfl); simp only [Act.put, List.setIfInBounds_toArray, List.set_cons_zero, List.set_cons_succ])
      refine AtS.late (i := 17) (by simp only [List.getElem?_toArray, List.getElem?_cons_succ, List.getElem?_cons_zero]; rfl) (by kernel_rfl) (by kernel_rfl) (by kernel_rfl) ?_
      intro K hK
      go_simp
      refine hK _ _ ?_
      clear hK K
      change AtS _ _ _ _ _ _ _ _ _ (put4 w1 (W.heap.size + 1) A2 c2 P2 cp2 D)
      clear t0 t1 t2 t3 r0 r1 r2 r3 hlt1
      generalize put4 w1 (W.heap.size + 1) A2 c2 P2 cp2 D = w5 at *
      refine AtS.late (i := 18) (by simp only [List.getElem?_toArray, List.getElem?_cons_succ, List.getElem?_cons_zero]; rfl) (by kernel_rfl) (by kernel_rfl) (by kernel_rfl) ?_
      intro K hK
      go_simp
      refine hK _ _ (AtS.done (by kernel_rfl) (NoPanic.normal ?_))
      clear hK K
      obtain ⟨k0, k1, k2, k3⟩ := box4 HV2.out.blk (Below.refl _ _)
      go_wp2
      exact bodyPost_ret (v := .tuple #[.agg #[.int .i64 D.size, .slice A2 D.secs.length c2, .slice P2 D.pend.length cp2, .int .i64 D.left], .int .i64 N]) (by simp [results, Try.results21, go_sem, k0, k1, k2, k3]) rfl (by rw [HE.out]; exact ⟨_, _, rfl, HV2.out.dk, K2.out⟩)
  · have HE := Lib.hid (HFm.out.trans (if_pos hk))
    have hne : (chkJ d != 0) = true := by simpa using hk
    clear HFm hk
    generalize chkJ d = kk at *
    go_wp2_with fail
    refine CH.out.mono ?_
    rintro e w2 ⟨rfl, hb2⟩
    have hbr2 := hbr.keep hb2
    have HV2 := dk_put (A := none) (c := 0) (P := none) (cp := 0) (d := noDisk) hbr2 (Dsk.nodisk w2)
    have K2 := put4_below (A := none) (c := 0) (P := none) (cp := 0) (d := noDisk) (K1.trans (hb2.mono K1.size)) (show W.heap.size ≤ W.heap.size + 1 by omega)
    obtain ⟨t0, t1, t2, t3, r0, r1, r2, r3⟩ := box8 hbr2 (Below.refl _ _)
    clear CH q0 q1 q2 q3 hbr hbr2 hb2 K1 HV1
    go_wp2
    change bodyPost _ _ _ _ _ (put4 w2 (W.heap.size + 1) none 0 none 0 noDisk)
    obtain ⟨k0, k1, k2, k3⟩ := box4 HV2.blk (Below.refl _ _)
    clear t0 t1 t2 t3 r0 r1 r2 r3
    generalize put4 w2 (W.heap.size + 1) none 0 none 0 noDisk = wx at *
    exact bodyPost_ret (v := .tuple #[.agg #[.int .i64 0, .slice none 0 0, .slice none 0 0, .int .i64 0], .int .i64 kk]) (by simp only [noDisk, List.length_nil] at k0 k1 k2 k3; simp [results, Try.results21, go_sem, k0, k1, k2, k3]) rfl (by rw [HE.out]; exact ⟨_, _, rfl, HV2.dk, K2⟩)
end Go.Proofs.Ytockmhhiomdlkaa

namespace Go.Proofs.Ytockmhhiomdlkaa
set_option linter.unusedVariables false
set_option linter.unusedSimpArgs false
open Go.RowKit

theorem openOk {d : Dk} (h : (openD d).2 = 0) : Valid d ∧ 3 ≤ d.secs.length ∧ ((openD d).1.1 = 1 ∨ (openD d).1.1 = 2) ∧ (openD d).1.2.2 ≤ halfN d.secs.length := by
  have hu := (recU_le h).1
  by_cases hk : chkJ d = 0
  · obtain ⟨hv, hn3⟩ := chkJ_zero hk
    refine ⟨hv, hn3, ?_, hu⟩
    by_cases ha : actN d = 1 ∨ actN d = 2
    · rw [openD_some hk ha] at h ⊢
      by_cases hb : (areaD d).2 = true
      · rw [if_pos hb] at h; simp at h
      · rw [if_neg hb]; exact ha
    · rw [openD_none hk ha] at h; simp at h
  · rw [openD_bad hk] at h; exact absurd h hk
theorem putTs_err (l : List Txt) : (putTs l).2 = if OkL l then 0 else 4 := by
  by_cases h : OkL l
  · rw [if_pos h]
    unfold putTs
    rw [if_neg (by rintro (h1 | h1); have := h.1; omega; exact h1 h.2)]
  · rw [if_neg h]
    unfold putTs
    rw [if_pos]
    rcases Nat.lt_or_ge 1000 l.length with h1 | h1
    · exact .inl h1
    · exact .inr fun h2 => h ⟨h1, h2⟩
theorem unflag_eq (s : ByteArray) : (⟨#[0]⟩ : ByteArray) ++ s.extract 1 s.size = unflag s := by
  apply bts_inj
  unfold unflag
  rw [bts_strB]
  show bts (strB [0] ++ _) = _
  unfold bts
  rw [ByteArray.data_append, Array.toList_append]
  show [0] ++ bts (s.extract 1 s.size) = _
  rw [bts_extract, List.take_of_length_le (by rw [List.length_drop, bts_len]; omega)]
  rfl

section
variable {P : Program} {ops : Array Oper} {Q : Exit → Go.Act → World → Prop} {md : Region.Mode} {S : World → Prop} {z : Nat}
theorem AtS.lawS {i : Nat} {oi : Oper} {f : Nat} {listed : Array Bool} {a : Go.Act} {w : World} (hi : ops[i]? = some oi) (hr : Region.ready md ops listed = [i])
    (h : if Region.wanted oi (yielded ops a.tmps) = true then Oper.wp P oi a w (fun a' w' => S w' ∧ AtS P md ops Q S z f (listed.setIfInBounds i true) a' w') Q else False) : AtS P md ops Q S z (f + 1) listed a w := by
  by_cases hw : Region.wanted oi (yielded ops a.tmps) = true
  · rw [if_pos hw] at h
    exact AtS.only hi hr hw fun K hK => Oper.wp_mono (fun a' w' h' => hK a' w' h'.1 h'.2) h
  · rw [if_neg hw] at h
    exact h.elim
end
theorem OwO.rebase {w : World} {B b : Nat} {v : Value} {ops : List (Option Wop)} (h : OwO w B v ops) (hb : b ≤ B) : OwO w b v ops := by
  obtain ⟨vals, h1, h2, h3⟩ := h
  refine ⟨vals, ⟨h1.1, ?_⟩, h2, h3⟩
  rcases h1.2 with h1 | ⟨g, cap, cur, h1, h2, h3⟩
  · exact .inl h1
  · exact .inr ⟨g, cap, cur, h1, by omega, h3⟩
theorem fill_own (w : World) (A : Option Addr) (c : Nat) (S : List ByteArray) (h : Strs w (.slice A S.length c) S) (a e sz B : Nat) (hB : B ≤ w.heap.size) (ha : a + S.length ≤ 10000) (he : e ≤ 10000) (hz : sz ≤ 1000) :
    Calls Try.prog 37 #[.int .i64 a, .slice A S.length c, .int .i64 e, .int .i64 sz] w fun en w' => ∃ v, en = .returned v ∧ OwO w' B v ((fillO a S e sz).map some) ∧ Below w.heap.size w w' :=
  (fill_any w A c S h a e sz ha he hz).mono fun en w' ⟨v, e1, e2, e3⟩ => ⟨v, e1, e2.rebase hB, e3⟩
theorem fillO_len' (a : Nat) (S : List ByteArray) (e sz : Nat) : (fillO a S e sz).length ≤ S.length + 1 := by
  unfold fillO
  rw [List.length_append, wrO_len]
  split <;> simp

set_option maxRecDepth 100000 in
set_option maxHeartbeats 4000000 in
theorem append_any (W : World) (vs vp : Value) (d : Dk) (h : DskP W vs vp d) (hn : d.pend.length ≤ 10000) (lA : Option Addr) (lc : Nat) (l : List Txt) (hl : Txs W (.slice lA l.length lc) l) :
    Calls Try.prog 14 #[.agg #[.int .i64 d.size, vs, vp, .int .i64 d.left], .slice lA l.length lc] W (DkPost W (appD d l).1 (appD d l).2) := by
  obtain ⟨A, c, P, cp, rfl, rfl, hc, hcp, hm, hmp⟩ := h.form
  obtain ⟨_, _, el, hlc, hlm⟩ := Txs.form hl
  cases el
  have hbk := (Blk.new W #[.int .i64 d.size, .slice A d.secs.length c, .slice P d.pend.length cp, .int .i64 d.left] 25).alloc (.cells #[.int .i64 0, .slice none 0 0, .slice none 0 0, .int .i64 0] 25)
  have hbr := Blk.new (W.alloc (.cells #[.int .i64 d.size, .slice A d.secs.length c, .slice P d.pend.length cp, .int .i64 d.left] 25)) #[.int .i64 0, .slice none 0 0, .slice none 0 0, .int .i64 0] 25
  rw [World.size_alloc] at hbr
  have K1 := ((Below.refl W.heap.size W).alloc (Nat.le_refl _) (.cells #[.int .i64 d.size, .slice A d.secs.length c, .slice P d.pend.length cp, .int .i64 d.left] 25)).alloc (by simp) (.cells #[.int .i64 0, .slice none 0 0, .slice none 0 0, .int .i64 0] 25)
  have HV1 : Var _ W.heap.size A c P cp d := ⟨hbk, h.keep (Keeps.of_below K1)⟩
  have HT1 : Txs _ (.slice lA l.length lc) l := hl.keep (Keeps.of_below K1)
  have HF : Hid (appD d l = if (openD d).2 ≠ 0 then (noDisk, (openD d).2) else if ¬ OkL l then (noDisk, 4) else if l = [] then (d, 0) else if halfN d.secs.length - (openD d).1.2.2 < (frS l d.size.toNat).length then (noDisk, 19) else runD d (twoO (appW d.secs.length d.size.toNat (openD d).1.1 (openD d).1.2.2 l) (firstS d.secs.length (openD d).1.1 + (openD d).1.2.2, hd0 (frS l d.size.toNat)))) := rfl
  have HU : Hid ((openD d).2 = 0 → Valid d ∧ 3 ≤ d.secs.length ∧ ((openD d).1.1 = 1 ∨ (openD d).1.1 = 2) ∧ (openD d).1.2.2 ≤ halfN d.secs.length) := openOk
  have CO := Lib.hid (open_any _ _ _ d HV1.dk)
  generalize openD d = r at *
  obtain ⟨⟨a0, rl, u⟩, e0⟩ := r
  simp only at HF HU
  clear hbk
  go_enter Try.func14, Try.ntmps14
  go_upto_region 1 with (fail)
  generalize (W.alloc (.cells #[.int .i64 d.size, .slice A d.secs.length c, .slice P d.pend.length cp, .int .i64 d.left] 25)).alloc (.cells #[.int .i64 0, .slice none 0 0, .slice none 0 0, .int .i64 0] 25) = w1 at *
  obtain ⟨q0, q1, q2, q3⟩ := box4 HV1.blk (Below.refl _ _)
  have HK1 := Lib.hid K1
  have HR1 := Lib.hid hbr
  have HVV := Lib.hid HV1
  have HTT := Lib.hid HT1
  clear K1 hbr HV1 HT1
  go_wp2_with fail
  refine CO.out.mono ?_
  rintro e w2 ⟨v, rfl, ht, hb⟩
  obtain ⟨rA, rc, rfl, _, _⟩ := Txs.form ht
  have K2 := HK1.out.trans (hb.mono HK1.out.size)
  have al : Below w2.heap.size w2 (w2.alloc (.cells #[.int .i64 (a0 : Int), .slice rA rl.length rc, .int .i64 (u : Int)] 61)) := (Below.refl _ _).alloc (Nat.le_refl _) _
  have K3 := Lib.hid (K2.trans (al.mono K2.size))
  have HC3 := Lib.hid (Blk.new w2 #[.int .i64 (a0 : Int), .slice rA rl.length rc, .int .i64 (u : Int)] 61)
  have HV3 := Lib.hid ((HVV.out.keep hb).keep al)
  have HR3 := Lib.hid ((HR1.out.keep hb).keep al)
  have HT3 := Lib.hid ((HTT.out.keep (Keeps.of_below hb)).keep (Keeps.of_below al))
  clear CO HK1 ht hb HVV HR1 HTT al K2 q0 q1 q2 q3
  simp only
  by_cases he : e0 = 0
  · subst he
    obtain ⟨hval, hn3, ha12, hu⟩ := HU.out rfl
    have v1 := hval.s1
    have v2 := hval.s2
    have v4 := hval.n2
    have HHF : Hid (halfN d.secs.length ≤ 500) := by show _ ≤ _; unfold halfN; omega
    clear HU hval
    go_upto_region 4 with (fail)
    generalize hw3 : w2.alloc (.cells #[.int .i64 (a0 : Int), .slice rA rl.length rc, .int .i64 (u : Int)] 61) = w3 at *
    have hC : w2.heap.size < w3.heap.size := by rw [← hw3, World.size_alloc]; omega
    generalize w2.heap.size = cb at *
    clear hw3
    have CE := encodeFrame_any w3 lA lc l HT3.out d.size.toNat (by omega) (by omega)
    rw [show ((d.size.toNat : Nat) : Int) = d.size by omega] at CE
    have CE := Lib.hid CE
    obtain ⟨q0, q1, q2, q3⟩ := box4 HV3.out.blk (Below.refl _ _)
    go_wp2_with fail
    refine CE.out.mono ?_
    rintro e w4 ⟨v4', rfl, hrow, hb4⟩
    clear CE q0 q1 q2 q3
    by_cases hok : OkL l
    · have hpt : (putTs l).2 = 0 := (putTs_err l).trans (if_pos hok)
      rw [hpt]
      have hrow := hrow hpt
      clear hpt
      have HF2 := Lib.hid (HF.out.trans (if_neg (by simp)) |>.trans (if_neg (fun e => e hok)))
      clear HF
      by_cases hne : l = []
      · have HE := Lib.hid (HF2.out.trans (if_pos hne))
        have hS : frS l d.size.toNat = [] := if_pos hne
        rw [hS] at hrow
        obtain ⟨sA, sc, rfl⟩ := own_form hrow
        have hbr4 := HR3.out.keep hb4
        have HV4 := HV3.out.keep hb4
        have K4 := K3.out.trans (hb4.mono K3.out.size)
        have HVr := Lib.hid (dk_put hbr4 HV4.dk)
        have K5 := Lib.hid (put4_below (A := A) (c := c) (P := P) (cp := cp) (d := d) K4 (show W.heap.size ≤ W.heap.size + 1 by omega))
        obtain ⟨t0, t1, t2, t3, r0, r1, r2, r3⟩ := box8 hbr4 (Below.refl _ _)
        obtain ⟨q0, q1, q2, q3⟩ := box4 HV4.blk (Below.refl _ _)
        clear HF2 hne hS hrow hbr4 HV4 K4 K3 HR3 HV3 HC3 HT3 hb4
        simp only [List.length_nil]
        go_wp2
        change bodyPost _ _ _ _ _ (put4 w4 (W.heap.size + 1) A c P cp d)
        obtain ⟨k0, k1, k2, k3⟩ := box4 HVr.out.blk (Below.refl _ _)
        clear t0 t1 t2 t3 r0 r1 r2 r3 q0 q1 q2 q3
        generalize put4 w4 (W.heap.size + 1) A c P cp d = wx at *
        exact bodyPost_ret (v := .tuple #[.agg #[.int .i64 d.size, .slice A d.secs.length c, .slice P d.pend.length cp, .int .i64 d.left], .int .i64 0]) (by simp [results, Try.results14, go_sem, k0, k1, k2, k3]) rfl (by rw [HE.out]; exact ⟨_, _, rfl, HVr.out.dk, K5.out⟩)
      · have hpos : 1 ≤ (frS l d.size.toNat).length := frS_pos hne (by omega)
        have hhd : (hd0 (frS l d.size.toNat)).size = d.size.toNat := frS_hd_size hne (by omega)
        have hhe : frS l d.size.toNat = hd0 (frS l d.size.toNat) :: (frS l d.size.toNat).drop 1 := frS_head hne (by omega)
        have hbig : (frS l d.size.toNat).length ≤ 200000000 := by
          rw [frS_len hne]
          exact need_le (by omega) (by have := frB_len hok; have : 1 ≤ d.size.toNat := by omega
                                       have := Nat.mul_le_mul_left 200000000 this; omega)
        have HFa := Lib.hid (HF2.out.trans (if_neg hne))
        clear HF2 hne hok
        unfold appW at HFa
        obtain ⟨S, hS⟩ : ∃ S, S = frS l d.size.toNat := ⟨_, rfl⟩
        rw [← hS] at hrow hpos hhd hhe hbig HFa
        clear hS
        obtain ⟨g, cap, rfl, hgB, hgl, hgc, hgm⟩ := own_row (show w4.ownsRow w3.heap.size 9 1 v4' S.length (S.map .string) from hrow) (by omega)
        have HGB : Hid (w3.heap.size ≤ g) := hgB
        have HBIG := Lib.hid hbig
        have HHE := Lib.hid hhe
        have HHD := Lib.hid hhd
        have HVc := Lib.hid (HV3.out.keep hb4)
        have HRc := Lib.hid (HR3.out.keep hb4)
        have HCc := Lib.hid (HC3.out.keep hb4)
        have HOc := Lib.hid hrow
        have KBc := Lib.hid hb4
        have hz0 : ¬ ((S.length : Int) = 0) := by omega
        have hz1 : ¬ S = [] := by rintro rfl; simp at hpos
        clear hrow hb4 hhd hhe hbig HT3 hgB hgl
        go_upto_region 9 with (fail)
        have HDR : Hid (Below w4.heap.size w4 w4.drew) := below_drew1 (Below.refl _ _)
        have CH := Lib.hid (fun w' (hb : Below w4.drew.heap.size w4.drew w') => half_any w' _ _ d (((HVc.out.keep HDR.out).keep hb).dk))
        generalize hhf : halfN d.secs.length = hf at *
        refine prom_start (by kernel_rfl) 8 (fun i v w => match i with
          | 0 => v = .slice (some ⟨g, 0, none⟩) S.length cap
          | 1 => v = .int .i64 (S.length : Int)
          | 2 => v = .agg #[.int .i64 d.size, .slice A d.secs.length c, .slice P d.pend.length cp, .int .i64 d.left]
          | 3 => v = .int .i64 (hf : Int)
          | 4 => v = .pointer (some ⟨cb, 2, none⟩)
          | 5 => v = .int .i64 (u : Int)
          | 6 => v = .int .i64 ((hf - u : Nat) : Int)
          | _ => v = .bool (decide (hf - u < S.length))) 0 (by kernel_rfl) (fun i v w w' h hb => ?_) ?_ ?_
        · match i, h with
          | 0, h => exact h
          | 1, h => exact h
          | 2, h => exact h
          | 3, h => exact h
          | 4, h => exact h
          | 5, h => exact h
          | 6, h => exact h
          | 7, h => exact h
          | _ + 8, h => exact h
        · rintro i o hi ho a w1 hdf hlen hold hbel hdep K hK
          clear hdf
          have hV := (HVc.out.keep HDR.out).keep hbel
          obtain ⟨q0, q1, q2, q3⟩ := box4 hV.blk (Below.refl _ _)
          have hC := (HCc.out.keep HDR.out).keep hbel
          obtain ⟨p0, p1, p2, _, _, _⟩ := blk3 hC
          have s2 : a.tmps.getD 2 undef = .pointer (some ⟨W.heap.size, 0, none⟩) := by
            rw [Array.getD_eq_getD_getElem?, hold 2 ?_]
            · rfl
            · intro j hj
              have : j = 0 ∨ j = 1 ∨ j = 2 ∨ j = 3 ∨ j = 4 ∨ j = 5 ∨ j = 6 ∨ j = 7 := by omega
              rcases this with rfl | rfl | rfl | rfl | rfl | rfl | rfl | rfl <;> decide
          have s6 : a.tmps.getD 6 undef = .pointer (some ⟨cb, 0, none⟩) := by
            rw [Array.getD_eq_getD_getElem?, hold 6 ?_]
            · rfl
            · intro j hj
              have : j = 0 ∨ j = 1 ∨ j = 2 ∨ j = 3 ∨ j = 4 ∨ j = 5 ∨ j = 6 ∨ j = 7 := by omega
              rcases this with rfl | rfl | rfl | rfl | rfl | rfl | rfl | rfl <;> decide
          have s8 : a.tmps.getD 8 undef = .slice (some ⟨g, 0, none⟩) S.length cap := by
            rw [Array.getD_eq_getD_getElem?, hold 8 ?_]
            · rfl
            · intro j hj
              have : j = 0 ∨ j = 1 ∨ j = 2 ∨ j = 3 ∨ j = 4 ∨ j = 5 ∨ j = 6 ∨ j = 7 := by omega
              rcases this with rfl | rfl | rfl | rfl | rfl | rfl | rfl | rfl <;> decide
          have hi' : i = 0 ∨ i = 1 ∨ i = 2 ∨ i = 3 ∨ i = 4 ∨ i = 5 ∨ i = 6 ∨ i = 7 := by omega
          rcases hi' with rfl | rfl | rfl | rfl | rfl | rfl | rfl | rfl
          · obtain rfl := Option.some.inj ho
            unfold Oper.wp
            simp only [execOp, Act.eval, s8]
            go_simp
            exact hK _ w1 rfl (Below.refl _ _)
          · obtain rfl := Option.some.inj ho
            have e37 := hdep 0 37 (by omega) (by kernel_rfl) (by kernel_rfl)
            simp only at e37
            unfold Oper.wp
            simp only [execOp, Act.eval, e37]
            go_simp
            exact hK _ w1 rfl (Below.refl _ _)
          · obtain rfl := Option.some.inj ho
            unfold Oper.wp
            simp only [execOp, Act.eval, s2]
            go_simp
            exact hK _ w1 rfl (Below.refl _ _)
          · obtain rfl := Option.some.inj ho
            have e39 := hdep 2 39 (by omega) (by kernel_rfl) (by kernel_rfl)
            simp only at e39
            unfold Oper.wp
            simp only [execOp, Act.eval, e39]
            go_simp
            refine (CH.out w1 hbel).mono ?_
            rintro e' w4 ⟨rfl, hb4⟩
            exact hK _ w4 (rfl) hb4
          · obtain rfl := Option.some.inj ho
            unfold Oper.wp
            simp only [execOp, Act.eval, s6]
            go_simp
            exact hK _ w1 rfl (Below.refl _ _)
          · obtain rfl := Option.some.inj ho
            have e41 := hdep 4 41 (by omega) (by kernel_rfl) (by kernel_rfl)
            simp only at e41
            unfold Oper.wp
            simp only [execOp, Act.eval, e41]
            go_simp
            exact hK _ w1 rfl (Below.refl _ _)
          · obtain rfl := Option.some.inj ho
            have e40 := hdep 3 40 (by omega) (by kernel_rfl) (by kernel_rfl)
            simp only at e40
            have e42 := hdep 5 42 (by omega) (by kernel_rfl) (by kernel_rfl)
            simp only at e42
            have hh := HHF.out
            have hsub : (hf : Int) - (u : Int) = ((hf - u : Nat) : Int) := by omega
            unfold Oper.wp
            simp only [execOp, Act.eval, e40, e42]
            go_simp
            exact hK _ w1 (by simp only; rw [i64w (by omega) (by omega)]; try exact congrArg (Value.int .i64) hsub) (Below.refl _ _)
          · obtain rfl := Option.some.inj ho
            have e38 := hdep 1 38 (by omega) (by kernel_rfl) (by kernel_rfl)
            simp only at e38
            have e43 := hdep 6 43 (by omega) (by kernel_rfl) (by kernel_rfl)
            simp only at e43
            unfold Oper.wp
            simp only [execOp, Act.eval, e38, e43]
            go_simp
            exact hK _ w1 (by simp) (Below.refl _ _)
        · rintro a w1 hdf hlen hold hbel hnew
          have e44 := hnew 7 44 (by omega) (by kernel_rfl)
          simp only at e44
          have hact := act_eq [37, 38, 39, 40, 41, 42, 43, 44] hdf hlen (fun t ht => hold t (fun j hj hd => by
            have : j = 0 ∨ j = 1 ∨ j = 2 ∨ j = 3 ∨ j = 4 ∨ j = 5 ∨ j = 6 ∨ j = 7 := by omega
            rcases this with rfl | rfl | rfl | rfl | rfl | rfl | rfl | rfl <;> (obtain rfl := Option.some.inj hd; exact ht (by decide))))
          simp only [List.foldl, e44, List.setIfInBounds_toArray, List.set_cons_zero, List.set_cons_succ] at hact
          clear hdf hlen hold hnew e44
          generalize a.tmps.getD 37 undef = u37 at hact
          generalize a.tmps.getD 38 undef = u38 at hact
          generalize a.tmps.getD 39 undef = u39 at hact
          generalize a.tmps.getD 40 undef = u40 at hact
          generalize a.tmps.getD 41 undef = u41 at hact
          generalize a.tmps.getD 42 undef = u42 at hact
          generalize a.tmps.getD 43 undef = u43 at hact
          subst hact
          refine AtS.done (by kernel_rfl) (NoPanic.normal ?_)
          have kd := HDR.out.trans (hbel.mono (Nat.le_refl _))
          have HV5 := Lib.hid (HVc.out.keep kd)
          have HR5 := Lib.hid (HRc.out.keep kd)
          have HC5 := Lib.hid (HCc.out.keep kd)
          have HO5 := Lib.hid (OwS.keep HOc.out kd)
          have KB5 := Lib.hid (KBc.out.trans (kd.mono KBc.out.size))
          clear HVc HRc HCc HOc KBc kd hbel HDR CH
          subst hhf
          clear hz0 hz1
          by_cases hroom : halfN d.secs.length - u < S.length
          · have HE := Lib.hid (HFa.out.trans (if_pos hroom))
            have hbr5 := HR5.out
            have K4 := K3.out.trans (KB5.out.mono K3.out.size)
            clear HFa
            simp only [hroom, decide_true]
            have HV2 := dk_put (A := none) (c := 0) (P := none) (cp := 0) (d := noDisk) hbr5 (Dsk.nodisk w1)
            have K2 := put4_below (A := none) (c := 0) (P := none) (cp := 0) (d := noDisk) K4 (show W.heap.size ≤ W.heap.size + 1 by omega)
            obtain ⟨t0, t1, t2, t3, r0, r1, r2, r3⟩ := box8 hbr5 (Below.refl _ _)
            clear hbr5 K4 K3 HR3 HV3 HC3 HV5 HR5 HC5 HO5 KB5 HHE HHD HBIG
            go_wp2
            change bodyPost _ _ _ _ _ (put4 w1 (W.heap.size + 1) none 0 none 0 noDisk)
            obtain ⟨k0, k1, k2, k3⟩ := box4 HV2.blk (Below.refl _ _)
            clear t0 t1 t2 t3 r0 r1 r2 r3
            generalize put4 w1 (W.heap.size + 1) none 0 none 0 noDisk = wx at *
            exact bodyPost_ret (v := .tuple #[.agg #[.int .i64 0, .slice none 0 0, .slice none 0 0, .int .i64 0], .int .i64 19]) (by simp only [noDisk, List.length_nil] at k0 k1 k2 k3; simp [results, Try.results14, go_sem, k0, k1, k2, k3]) rfl (by rw [HE.out]; exact ⟨_, _, rfl, HV2.dk, K2⟩)
          · have HE := Lib.hid (HFa.out.trans (if_neg hroom))
            clear HFa HBIG
            simp only [hroom, decide_false]
            generalize hw5 : w1 = w5 at *
            clear hw5
            obtain ⟨g1, g2⟩ := half_bd hn3
            have hF := first_bd hn3 ha12
            have CF := Lib.hid (first_any w5 _ _ d HV5.out.dk v4 a0 (by omega))
            obtain ⟨F, hFe⟩ : ∃ F, F = firstS d.secs.length a0 := ⟨_, rfl⟩
            rw [← hFe] at CF HE hF
            clear hFe
            obtain ⟨hF1, hF2, -, -⟩ := hF
            obtain ⟨q0, q1, q2, q3⟩ := box4 HV5.out.blk (Below.refl _ _)
            obtain ⟨p0, p1, p2, _, _, _⟩ := blk3 HC5.out
            go_wp2_with fail
            refine CF.out.mono ?_
            rintro e w6 ⟨rfl, hb6⟩
            have hO6 := OwS.keep HO5.out hb6
            have hC6 := HC5.out.keep hb6
            have KB6 := Lib.hid (KB5.out.trans (hb6.mono KB5.out.size))
            obtain ⟨p0', p1', p2', _, _, _⟩ := blk3 hC6
            obtain ⟨s0, sf⟩ := own_at hO6 (i := 0) (u := .string (hd0 S)) (by rw [HHE.out]; simp [hd0])
            obtain ⟨FL, hFL⟩ : ∃ FL, FL = hd0 S := ⟨_, rfl⟩
            rw [← hFL] at HHE HHD s0 HE
            clear hFL
            have hadd : IntKind.i64.wrap ((F : Int) + (u : Int)) = ((F + u : Nat) : Int) := by rw [i64w (by omega) (by omega)]; omega
            have hsz : 1 ≤ FL.size := by have := HHD.out; omega
            have hsz' : (1 : Int) ≤ (FL.size : Int) := by omega
            have hszb : ¬ 9223372036854775807 < FL.size := by have := HHD.out; omega
            have HO6 := Lib.hid (own_set hO6 (i := 0) (.string (unflag FL)))
            have HSW := Lib.hid (KB6.out.setCell (p := ⟨g, 0, none⟩) HGB.out (.string (unflag FL)))
            have HUF := Lib.hid (unflag_eq FL)
            clear q0 q1 q2 q3 p0 p1 p2 hC6 hO6 CF HV5 HR5 HC5 HO5 KB5 hb6
            go_upto_region 15 with (fail)
            rw [HUF.out, show ((F : Int) + (u : Int)) = ((F + u : Nat) : Int) by omega]
            obtain ⟨T, hT⟩ : ∃ T, T = unflag FL :: S.drop 1 := ⟨_, rfl⟩
            have hTl : T.length = S.length := by rw [hT, List.length_cons, List.length_drop]; omega
            rw [← hT] at HE
            have HOT : OwS (w6.setCell ⟨g, 0, none⟩ (.string (unflag FL))) w3.heap.size (.slice (some ⟨g, 0, none⟩) T.length cap) T := by
              have h1 := HO6.out
              have h2 : (S.map Value.string).set 0 (.string (unflag FL)) = T.map Value.string := by
                rw [hT]
                have := HHE.out
                generalize S.drop 1 = S1 at *
                rw [this]; rfl
              rw [h2] at h1
              unfold OwS
              rw [hTl]
              exact h1
            have HOc := Lib.hid HOT
            rw [← hTl]
            have HTL := Lib.hid hTl
            have hroom' : u + T.length ≤ halfN d.secs.length := by omega
            clear hT hTl HOT HO6 HHE HUF hadd hroom hpos s0 sf p0' p1' p2' hrow
            generalize w6.setCell ⟨g, 0, none⟩ (.string (unflag FL)) = w7 at *
            have KBc := HSW
            have HVc := Lib.hid (HV3.out.keep KBc.out)
            have HBL : Hid (w3.heap.size ≤ w7.heap.size) := KBc.out.size
            clear HSW KB6
            go_upto_region 15 with (fail)
            have HDR : Hid (Below w7.heap.size w7 w7.drew) := below_drew1 (Below.refl _ _)
            have CH := Lib.hid (fun w' (hb : Below w7.drew.heap.size w7.drew w') => half_any w' _ _ d (((HVc.out.keep HDR.out).keep hb).dk))
            have CF0 := fun w' (hb : Below w7.drew.heap.size w7.drew w') => fill_own w' (some ⟨g, 0, none⟩) cap T (OwS.strs (OwS.keep (OwS.keep HOc.out HDR.out) hb)) (F + u) (F + halfN d.secs.length) d.size.toNat w3.heap.size (by have h1 := HBL.out; have h2 := hb.size; have h3 : w7.drew.heap.size = w7.heap.size := rfl; omega) (by omega) (by have := HHF.out; omega) (by omega)
            rw [show ((d.size.toNat : Nat) : Int) = d.size by omega] at CF0
            obtain ⟨OF, hOF⟩ : ∃ OF, OF = (fillO (F + u) T (F + halfN d.secs.length) d.size.toNat).map some := ⟨_, rfl⟩
            rw [← hOF] at CF0
            have HOF := Lib.hid hOF
            have CFi := Lib.hid CF0
            clear hOF CF0
            have HHF2 := HHF.out
            generalize hhf : halfN d.secs.length = hf at *
            refine prom_start (by kernel_rfl) 10 (fun i v w => match i with
              | 0 => v = .int .i64 ((F + u : Nat) : Int)
              | 1 => v = .slice (some ⟨g, 0, none⟩) T.length cap
              | 2 => v = .int .i64 ((F : Nat) : Int)
              | 3 => v = .agg #[.int .i64 d.size, .slice A d.secs.length c, .slice P d.pend.length cp, .int .i64 d.left]
              | 4 => v = .int .i64 (hf : Int)
              | 5 => v = .int .i64 ((F + hf : Nat) : Int)
              | 6 => v = .pointer (some ⟨W.heap.size, 0, none⟩)
              | 7 => v = .int .i64 d.size
              | 8 => OwO w w3.heap.size v OF
              | _ => OwO w w3.heap.size v OF) 0 (by kernel_rfl) (fun i v w w' h hb => ?_) ?_ ?_
            · match i, h with
              | 0, h => exact h
              | 1, h => exact h
              | 2, h => exact h
              | 3, h => exact h
              | 4, h => exact h
              | 5, h => exact h
              | 6, h => exact h
              | 7, h => exact h
              | 8, h => exact OwO.below h hb
              | 9, h => exact OwO.below h hb
              | _ + 10, h => exact OwO.below h hb
            · rintro i o hi ho a w1 hdf hlen hold hbel hdep K hK
              clear hdf
              have hV := (HVc.out.keep HDR.out).keep hbel
              obtain ⟨q0, q1, q2, q3⟩ := box4 hV.blk (Below.refl _ _)
              have s2 : a.tmps.getD 2 undef = .pointer (some ⟨W.heap.size, 0, none⟩) := by
                rw [Array.getD_eq_getD_getElem?, hold 2 ?_]
                · rfl
                · intro j hj
                  have : j = 0 ∨ j = 1 ∨ j = 2 ∨ j = 3 ∨ j = 4 ∨ j = 5 ∨ j = 6 ∨ j = 7 ∨ j = 8 ∨ j = 9 := by omega
                  rcases this with rfl | rfl | rfl | rfl | rfl | rfl | rfl | rfl | rfl | rfl <;> decide
              have s8 : a.tmps.getD 8 undef = .slice (some ⟨g, 0, none⟩) T.length cap := by
                rw [Array.getD_eq_getD_getElem?, hold 8 ?_]
                · rfl
                · intro j hj
                  have : j = 0 ∨ j = 1 ∨ j = 2 ∨ j = 3 ∨ j = 4 ∨ j = 5 ∨ j = 6 ∨ j = 7 ∨ j = 8 ∨ j = 9 := by omega
                  rcases this with rfl | rfl | rfl | rfl | rfl | rfl | rfl | rfl | rfl | rfl <;> decide
              have s10 : a.tmps.getD 10 undef = .int .i64 ((F + u : Nat) : Int) := by
                rw [Array.getD_eq_getD_getElem?, hold 10 ?_]
                · rfl
                · intro j hj
                  have : j = 0 ∨ j = 1 ∨ j = 2 ∨ j = 3 ∨ j = 4 ∨ j = 5 ∨ j = 6 ∨ j = 7 ∨ j = 8 ∨ j = 9 := by omega
                  rcases this with rfl | rfl | rfl | rfl | rfl | rfl | rfl | rfl | rfl | rfl <;> decide
              have s9 : a.tmps.getD 9 undef = .int .i64 ((F : Nat) : Int) := by
                rw [Array.getD_eq_getD_getElem?, hold 9 ?_]
                · rfl
                · intro j hj
                  have : j = 0 ∨ j = 1 ∨ j = 2 ∨ j = 3 ∨ j = 4 ∨ j = 5 ∨ j = 6 ∨ j = 7 ∨ j = 8 ∨ j = 9 := by omega
                  rcases this with rfl | rfl | rfl | rfl | rfl | rfl | rfl | rfl | rfl | rfl <;> decide
              have hi' : i = 0 ∨ i = 1 ∨ i = 2 ∨ i = 3 ∨ i = 4 ∨ i = 5 ∨ i = 6 ∨ i = 7 ∨ i = 8 ∨ i = 9 := by omega
              rcases hi' with rfl | rfl | rfl | rfl | rfl | rfl | rfl | rfl | rfl | rfl
              · obtain rfl := Option.some.inj ho
                unfold Oper.wp
                simp only [execOp, Act.eval, s10]
                go_simp
                exact hK _ w1 rfl (Below.refl _ _)
              · obtain rfl := Option.some.inj ho
                unfold Oper.wp
                simp only [execOp, Act.eval, s8]
                go_simp
                exact hK _ w1 rfl (Below.refl _ _)
              · obtain rfl := Option.some.inj ho
                unfold Oper.wp
                simp only [execOp, Act.eval, s9]
                go_simp
                exact hK _ w1 rfl (Below.refl _ _)
              · obtain rfl := Option.some.inj ho
                unfold Oper.wp
                simp only [execOp, Act.eval, s2]
                go_simp
                exact hK _ w1 rfl (Below.refl _ _)
              · obtain rfl := Option.some.inj ho
                have e65 := hdep 3 65 (by omega) (by kernel_rfl) (by kernel_rfl)
                simp only at e65
                unfold Oper.wp
                simp only [execOp, Act.eval, e65]
                go_simp
                refine (CH.out w1 hbel).mono ?_
                rintro e' w4 ⟨rfl, hb4⟩
                exact hK _ w4 (rfl) hb4
              · obtain rfl := Option.some.inj ho
                have e64 := hdep 2 64 (by omega) (by kernel_rfl) (by kernel_rfl)
                simp only at e64
                have e66 := hdep 4 66 (by omega) (by kernel_rfl) (by kernel_rfl)
                simp only at e66
                unfold Oper.wp
                simp only [execOp, Act.eval, e64, e66]
                go_simp
                exact hK _ w1 (by simp only; rw [i64w (by omega) (by omega)]; try exact congrArg (Value.int .i64) (show (((F : Nat) : Int)) + (hf : Int) = ((F + hf : Nat) : Int) by omega)) (Below.refl _ _)
              · obtain rfl := Option.some.inj ho
                unfold Oper.wp
                simp only [execOp, Act.eval, s2]
                go_simp
                exact hK _ w1 rfl (Below.refl _ _)
              · obtain rfl := Option.some.inj ho
                have e68 := hdep 6 68 (by omega) (by kernel_rfl) (by kernel_rfl)
                simp only at e68
                unfold Oper.wp
                simp only [execOp, Act.eval, e68]
                go_simp
                exact hK _ w1 rfl (Below.refl _ _)
              · obtain rfl := Option.some.inj ho
                have e62 := hdep 0 62 (by omega) (by kernel_rfl) (by kernel_rfl)
                simp only at e62
                have e63 := hdep 1 63 (by omega) (by kernel_rfl) (by kernel_rfl)
                simp only at e63
                have e67 := hdep 5 67 (by omega) (by kernel_rfl) (by kernel_rfl)
                simp only at e67
                have e69 := hdep 7 69 (by omega) (by kernel_rfl) (by kernel_rfl)
                simp only at e69
                unfold Oper.wp
                simp only [execOp, Act.eval, e62, e63, e67, e69]
                go_simp
                refine (CFi.out w1 hbel).mono ?_
                rintro e' w4 ⟨v4, rfl, hv4, hb4⟩
                exact hK _ w4 (hv4) hb4
              · obtain rfl := Option.some.inj ho
                have e70 := hdep 8 70 (by omega) (by kernel_rfl) (by kernel_rfl)
                simp only at e70
                generalize hvx : a.tmps.getD 70 undef = vx at *
                unfold Oper.wp
                simp only [execOp, Act.eval, hvx]
                go_simp
                exact hK _ w1 e70 (Below.refl _ _)
            · rintro a w1 hdf hlen hold hbel hnew
              have e12 := hnew 9 12 (by omega) (by kernel_rfl)
              simp only at e12
              have hact := act_eq [62, 63, 64, 65, 66, 67, 68, 69, 70, 12] hdf hlen (fun t ht => hold t (fun j hj hd => by
                have : j = 0 ∨ j = 1 ∨ j = 2 ∨ j = 3 ∨ j = 4 ∨ j = 5 ∨ j = 6 ∨ j = 7 ∨ j = 8 ∨ j = 9 := by omega
                rcases this with rfl | rfl | rfl | rfl | rfl | rfl | rfl | rfl | rfl | rfl <;> (obtain rfl := Option.some.inj hd; exact ht (by decide))))
              simp only [List.foldl, List.setIfInBounds_toArray, List.set_cons_zero, List.set_cons_succ] at hact
              clear hdf hlen hold hnew 
              generalize a.tmps.getD 62 undef = u62 at hact
              generalize a.tmps.getD 63 undef = u63 at hact
              generalize a.tmps.getD 64 undef = u64 at hact
              generalize a.tmps.getD 65 undef = u65 at hact
              generalize a.tmps.getD 66 undef = u66 at hact
              generalize a.tmps.getD 67 undef = u67 at hact
              generalize a.tmps.getD 68 undef = u68 at hact
              generalize a.tmps.getD 69 undef = u69 at hact
              generalize a.tmps.getD 70 undef = u70 at hact
              generalize a.tmps.getD 12 undef = u12 at hact e12
              subst hact
              refine AtS.done (by kernel_rfl) (NoPanic.normal ?_)
              have kd := HDR.out.trans (hbel.mono (Nat.le_refl _))
              have KB8 := Lib.hid (KBc.out.trans (kd.mono KBc.out.size))
              have HOW := Lib.hid e12
              clear HVc HOc KBc kd hbel HDR CH CFi e12 HHF HHF2 HBL
              subst hhf
              generalize hw8 : w1 = w8 at *
              clear hw8
              have HOPS : Hid (runD d (twoO (fillO (F + u) T (F + halfN d.secs.length) d.size.toNat) (F + u, FL)) = runD d (OF ++ [none, some (F + u, FL), none])) := by show _ = _; rw [HOF.out]; rfl
              have HOFL : Hid (OF.length ≤ 600) := by
                show _ ≤ _
                rw [HOF.out, List.length_map]
                have := fillO_len' (F + u) T (F + halfN d.secs.length) d.size.toNat
                omega
              have hFu : F + u ≤ 100000 := by omega
              clear HOF
              generalize twoO (fillO (F + u) T (F + halfN d.secs.length) d.size.toNat) (F + u, FL) = OPS at *
              go_upto_region 16 with (fail)
              obtain ⟨i1, hi1, hy0, hy1, hy2⟩ := info_parts Try.info_op
              have HSS0 : ∀ w', Below w3.heap.size w3 w' → w'.cell? ⟨W.heap.size, 0, none⟩ = some (.int .i64 d.size) ∧ w'.cell? ⟨W.heap.size, 1, none⟩ = some (.slice A d.secs.length c) ∧ w'.cell? ⟨W.heap.size, 2, none⟩ = some (.slice P d.pend.length cp) ∧ w'.cell? ⟨W.heap.size, 3, none⟩ = some (.int .i64 d.left) := fun w' hb => box4 (HV3.out.keep hb).blk (Below.refl _ _)
              have HSS := Lib.hid HSS0
              clear HSS0
              have HDR : Hid (Below w8.heap.size w8 w8.drew) := below_drew1 (Below.refl _ _)
              have KB9 := Lib.hid (KB8.out.trans (HDR.out.mono KB8.out.size))
              obtain ⟨vals, hrow, hol, hoc⟩ := HOW.out.below HDR.out
              obtain ⟨oA, oc, rfl⟩ := own_form hrow
              have HRow := Lib.hid hrow
              have HOL := Lib.hid hol
              have HOC := Lib.hid hoc
              clear hrow hol hoc HOW HDR KB8
              refine AtS.start (S := fun w => w.cell? ⟨W.heap.size, 0, none⟩ = some (.int .i64 d.size) ∧ w.cell? ⟨W.heap.size, 1, none⟩ = some (.slice A d.secs.length c) ∧ w.cell? ⟨W.heap.size, 2, none⟩ = some (.slice P d.pend.length cp) ∧ w.cell? ⟨W.heap.size, 3, none⟩ = some (.int .i64 d.left)) (by kernel_rfl) (HSS.out _ KB9.out) 7 ?_
              generalize w8.drew = w9 at *
              simp only [List.size_toArray, List.length_cons, List.length_nil]
              (refine AtS.load (i := 0) (v := ?_) (by simp only [List.getElem?_toArray, List.getElem?_cons_succ, List.getElem?_cons_zero]; rfl) (by kernel_rfl) (by kernel_rfl) (by kernel_rfl) (fun _ _ _ h => h) [] (by kernel_rfl) (Or.inl ⟨by rfl, fun w hSw => ?_⟩) ?_; rotate_left; ((try dsimp only at hSw); go_split_ands; go_simp; try with_reducible rfl); simp only [Act.put, List.setIfInBounds_toArray, List.set_cons_zero, List.set_cons_succ])
              (refine AtS.free (i := 1) (v := ?_) (by simp only [List.getElem?_toArray, List.getElem?_cons_succ, List.getElem?_cons_zero]; rfl) (by kernel_rfl) (by kernel_rfl) (by kernel_rfl) (fun _ _ _ h => h) (by kernel_rfl) (Or.inl ⟨by rfl, fun w _ => ?_⟩) ?_; rotate_left; (go_simp; try with_reducible rfl); simp only [Act.put, List.setIfInBounds_toArray, List.set_cons_zero, List.set_cons_succ])
              (refine AtS.free (i := 2) (v := ?_) (by simp only [List.getElem?_toArray, List.getElem?_cons_succ, List.getElem?_cons_zero]; rfl) (by kernel_rfl) (by kernel_rfl) (by kernel_rfl) (fun _ _ _ h => h) (by kernel_rfl) (Or.inl ⟨by rfl, fun w _ => ?_⟩) ?_; rotate_left; (go_simp; try with_reducible rfl); simp only [Act.put, List.setIfInBounds_toArray, List.set_cons_zero, List.set_cons_succ])
              (refine AtS.free (i := 3) (v := ?_) (by simp only [List.getElem?_toArray, List.getElem?_cons_succ, List.getElem?_cons_zero]; rfl) (by kernel_rfl) (by kernel_rfl) (by kernel_rfl) (fun _ _ _ h => h) (by kernel_rfl) (Or.inl ⟨by rfl, fun w _ => ?_⟩) ?_; rotate_left; (go_simp; try with_reducible rfl); simp only [Act.put, List.setIfInBounds_toArray, List.set_cons_zero, List.set_cons_succ])
              refine AtS.only (i := 4) (by simp only [List.getElem?_toArray, List.getElem?_cons_succ, List.getElem?_cons_zero]; rfl) (by kernel_rfl) (by rfl) ?_
              intro K hK
              go_simp
              refine (jwrite_any (F + u) FL (by omega) w9).mono ?_
              rintro e w10 ⟨v10, rfl, hv10, hb10⟩
              have KB10 := Lib.hid (KB9.out.trans (hb10.mono KB9.out.size))
              refine hK _ _ (HSS.out _ KB10.out) ?_
              clear hK K
              try simp only [Act.put, List.setIfInBounds_toArray, List.set_cons_zero, List.set_cons_succ]
              have HRow10 := Lib.hid (own_stab (M := fun _ => False) HRow.out (fun _ _ h => h) _ (Agree.of_below hb10 _))
              have HOL10 := Lib.hid (HOL.out.keep hb10)
              have HOV := Lib.hid hv10
              obtain ⟨b1, b2, rfl, -⟩ := hv10
              clear hb10 KB9 HRow HOL
              refine AtS.only (i := 5) (by simp only [List.getElem?_toArray, List.getElem?_cons_succ, List.getElem?_cons_zero]; rfl) (by kernel_rfl) (by rfl) ?_
              intro K hK
              go_simp
              have al := (Below.refl w10.heap.size w10).alloc (Nat.le_refl _) (.cells #[.func (.func 39) #[] #[], .func (.func 66) #[] #[.pointer (some ⟨b1, 0, none⟩), .pointer (some ⟨b2, 0, none⟩)], .func (.func 39) #[] #[]] 70)
              have KB11 := Lib.hid (KB10.out.trans (al.mono KB10.out.size))
              refine hK _ _ (HSS.out _ KB11.out) ?_
              clear hK K
              try simp only [Act.put, List.setIfInBounds_toArray, List.set_cons_zero, List.set_cons_succ]
              have HRow11 := Lib.hid (own_stab (M := fun _ => False) HRow10.out (fun _ _ h => h) _ (Agree.of_below al _))
              have HOL11 := Lib.hid (HOL10.out.keep al)
              have HOV11 := Lib.hid (HOV.out.keep al)
              have HCA : Hid (CellsAt (w10.alloc (.cells #[.func (.func 39) #[] #[], .func (.func 66) #[] #[.pointer (some ⟨b1, 0, none⟩), .pointer (some ⟨b2, 0, none⟩)], .func (.func 39) #[] #[]] 70)) (some ⟨w10.heap.size, 0, none⟩) [.func (.func 39) #[] #[], .func (.func 66) #[] #[.pointer (some ⟨b1, 0, none⟩), .pointer (some ⟨b2, 0, none⟩)], .func (.func 39) #[] #[]]) := CellsAt.of_new _ _ _ _
              have hsz11 := KB11.out.size
              generalize w10.alloc (.cells #[.func (.func 39) #[] #[], .func (.func 66) #[] #[.pointer (some ⟨b1, 0, none⟩), .pointer (some ⟨b2, 0, none⟩)], .func (.func 39) #[] #[]] 70) = w11 at *
              generalize w10.heap.size = g11 at *
              clear al KB10 HRow10 HOL10 HOV
              refine AtS.lawS (i := 6) (by simp only [List.getElem?_toArray, List.getElem?_cons_succ, List.getElem?_cons_zero]; rfl) (by kernel_rfl) ?_
              refine step_append_any _ rfl _ _ _ rfl w3.heap.size 70 i1 _ 1 8 Try.underlying67 hi1 hy0 hy1 hy2 rfl (by omega) (.slice oA OF.length oc) OF.length _ rfl HRow11.out _ 3 3 [.func (.func 39) #[] #[], .func (.func 66) #[] #[.pointer (some ⟨b1, 0, none⟩), .pointer (some ⟨b2, 0, none⟩)], .func (.func 39) #[] #[]] rfl rfl HCA.out (by simp [Value.oneCell']) (by have := HOFL.out; omega) (by have := HOFL.out; omega) hsz11 ?_
              intro v12 w12 hown12 hgr12 hat12
              have KB12 := Lib.hid (KB11.out.grown hgr12 hsz11 (fun g h => (World.ownsRow.lt HRow11.out g h).1))
              have HOW12 : Hid (OwO w12 w3.heap.size v12 (OF ++ [none, some (F + u, FL), none])) :=
                OwO.grow (n1 := [.func (.func 39) #[] #[], .func (.func 66) #[] #[.pointer (some ⟨b1, 0, none⟩), .pointer (some ⟨b2, 0, none⟩)], .func (.func 39) #[] #[]]) (o1 := [none, some (F + u, FL), none]) HRow11.out HOL11.out HOC.out (((OpL.one (w := w11) (v := (.func (.func 39) #[] #[])) (o := none) rfl).append (OpL.one HOV11.out)).append (OpL.one (w := w11) (v := (.func (.func 39) #[] #[])) (o := none) rfl)) (by simp [Value.oneCell']) hgr12 hown12
              refine ⟨HSS.out _ KB12.out, ?_⟩
              try simp only [Act.put, List.setIfInBounds_toArray, List.set_cons_zero, List.set_cons_succ]
              have HV12 := Lib.hid (HV3.out.keep KB12.out)
              have hbr12 := HR3.out.keep KB12.out
              have K12 := K3.out.trans (KB12.out.mono K3.out.size)
              have hlen : d.pend.length + (OF ++ [none, some (F + u, FL), none]).length ≤ 100000 := by have := HOFL.out; simp; omega
              clear hown12 hgr12 hat12 KB11 HRow11 HOL11 HOV11 HCA hsz11
              refine AtS.late (i := 7) (by simp only [List.getElem?_toArray, List.getElem?_cons_succ, List.getElem?_cons_zero]; rfl) (by kernel_rfl) (by kernel_rfl) (by kernel_rfl) ?_
              intro K hK
              go_simp
              refine (run_any w12 _ _ d HV12.out.dk v12 _ HOW12.out.ops hlen).mono ?_
              rintro e w13 ⟨vs2, vp2, rfl, hd2, hb13⟩
              refine hK _ _ ?_
              clear hK K
              try simp only [Act.put, List.setIfInBounds_toArray, List.set_cons_zero, List.set_cons_succ]
              have hbr := hbr12.keep hb13
              have KB := K12.trans (hb13.mono K12.size)
              have hlt1 := hbr.lt
              clear hbr12 K12 HV12 KB12 HOW12 hlen hb13
              rw [← HOPS.out] at hd2 ⊢
              generalize runD d _ = R at *
              obtain ⟨D, N⟩ := R
              simp only at hd2 HE ⊢
              obtain ⟨A2, c2, P2, cp2, rfl, rfl, _, _, _, _⟩ := hd2.form
              have HV2 := Lib.hid (dk_put hbr hd2)
              have K2 := Lib.hid (put4_below (A := A2) (c := c2) (P := P2) (cp := cp2) (d := D) KB (show W.heap.size ≤ W.heap.size + 1 by omega))
              obtain ⟨t0, t1, t2, t3, r0, r1, r2, r3⟩ := box8 hbr (Below.refl _ _)
              clear KB hd2 hbr
              (refine AtS.free (i := 8) (v := ?_) (by simp only [List.getElem?_toArray, List.getElem?_cons_succ, List.getElem?_cons_zero]; rfl) (by kernel_rfl) (by kernel_rfl) (by kernel_rfl) (fun _ _ _ h => h) (by kernel_rfl) (Or.inl ⟨by rfl, fun w _ => ?_⟩) ?_; rotate_left; (go_simp; try with_reducible rfl); simp only [Act.put, List.setIfInBounds_toArray, List.set_cons_zero, List.set_cons_succ])
              (refine AtS.free (i := 9) (v := ?_) (by simp only [List.getElem?_toArray, List.getElem?_cons_succ, List.getElem?_cons_zero]; rfl) (by kernel_rfl) (by kernel_rfl) (by kernel_rfl) (fun _ _ _ h => h) (by kernel_rfl) (Or.inl ⟨by rfl, fun w _ => ?_⟩) ?_; rotate_left; (go_simp; try with_reducible rfl); simp only [Act.put, List.setIfInBounds_toArray, List.set_cons_zero, List.set_cons_succ])
              refine AtS.late (i := 10) (by simp only [List.getElem?_toArray, List.getElem?_cons_succ, List.getElem?_cons_zero]; rfl) (by kernel_rfl) (by kernel_rfl) (by kernel_rfl) ?_
              intro K hK
              go_simp
              refine hK _ _ ?_
              clear hK K
              change AtS _ _ _ _ _ _ _ _ _ (put4 w13 (W.heap.size + 1) A2 c2 P2 cp2 D)
              clear t0 t1 t2 t3 r0 r1 r2 r3 hlt1
              generalize put4 w13 (W.heap.size + 1) A2 c2 P2 cp2 D = w14 at *
              refine AtS.late (i := 11) (by simp only [List.getElem?_toArray, List.getElem?_cons_succ, List.getElem?_cons_zero]; rfl) (by kernel_rfl) (by kernel_rfl) (by kernel_rfl) ?_
              intro K hK
              go_simp
              refine hK _ _ (AtS.done (by kernel_rfl) (NoPanic.normal ?_))
              clear hK K
              obtain ⟨k0, k1, k2, k3⟩ := box4 HV2.out.blk (Below.refl _ _)
              go_wp2
              exact bodyPost_ret (v := .tuple #[.agg #[.int .i64 D.size, .slice A2 D.secs.length c2, .slice P2 D.pend.length cp2, .int .i64 D.left], .int .i64 N]) (by simp [results, Try.results14, go_sem, k0, k1, k2, k3]) rfl (by rw [HE.out]; exact ⟨_, _, rfl, HV2.out.dk, K2.out⟩)
    · have HE := Lib.hid (HF.out.trans (if_neg (by simp)) |>.trans (if_pos hok))
      rw [(putTs_err l).trans (if_neg hok)]
      have K4 := K3.out.trans (hb4.mono K3.out.size)
      have hbr4 := HR3.out.keep hb4
      clear hrow
      have HV2 := dk_put (A := none) (c := 0) (P := none) (cp := 0) (d := noDisk) hbr4 (Dsk.nodisk w4)
      have K2 := put4_below (A := none) (c := 0) (P := none) (cp := 0) (d := noDisk) K4 (show W.heap.size ≤ W.heap.size + 1 by omega)
      obtain ⟨t0, t1, t2, t3, r0, r1, r2, r3⟩ := box8 hbr4 (Below.refl _ _)
      clear hbr4 K4 K3 HR3 HV3 HC3 HT3 hb4 HF
      go_wp2
      change bodyPost _ _ _ _ _ (put4 w4 (W.heap.size + 1) none 0 none 0 noDisk)
      obtain ⟨k0, k1, k2, k3⟩ := box4 HV2.blk (Below.refl _ _)
      clear t0 t1 t2 t3 r0 r1 r2 r3
      generalize put4 w4 (W.heap.size + 1) none 0 none 0 noDisk = wx at *
      exact bodyPost_ret (v := .tuple #[.agg #[.int .i64 0, .slice none 0 0, .slice none 0 0, .int .i64 0], .int .i64 4]) (by simp only [noDisk, List.length_nil] at k0 k1 k2 k3; simp [results, Try.results14, go_sem, k0, k1, k2, k3]) rfl (by rw [HE.out]; exact ⟨_, _, rfl, HV2.dk, K2⟩)
  · have HE := Lib.hid (HF.out.trans (if_pos he))
    have hne : (e0 != 0) = true := by simpa using he
    clear HF HU
    have hbr4 := HR3.out
    have K4 := K3.out
    go_upto_region 3 with (fail)
    generalize w2.alloc (.cells #[.int .i64 (a0 : Int), .slice rA rl.length rc, .int .i64 (u : Int)] 61) = w3 at *
    have HV2 := dk_put (A := none) (c := 0) (P := none) (cp := 0) (d := noDisk) hbr4 (Dsk.nodisk w3)
    have K2 := put4_below (A := none) (c := 0) (P := none) (cp := 0) (d := noDisk) K4 (show W.heap.size ≤ W.heap.size + 1 by omega)
    obtain ⟨t0, t1, t2, t3, r0, r1, r2, r3⟩ := box8 hbr4 (Below.refl _ _)
    clear hbr4 K4 K3 HR3 HV3 HC3 HT3
    go_wp2
    change bodyPost _ _ _ _ _ (put4 w3 (W.heap.size + 1) none 0 none 0 noDisk)
    obtain ⟨k0, k1, k2, k3⟩ := box4 HV2.blk (Below.refl _ _)
    clear t0 t1 t2 t3 r0 r1 r2 r3
    generalize put4 w3 (W.heap.size + 1) none 0 none 0 noDisk = wx at *
    exact bodyPost_ret (v := .tuple #[.agg #[.int .i64 0, .slice none 0 0, .slice none 0 0, .int .i64 0], .int .i64 e0]) (by simp only [noDisk, List.length_nil] at k0 k1 k2 k3; simp [results, Try.results14, go_sem, k0, k1, k2, k3]) rfl (by rw [HE.out]; exact ⟨_, _, rfl, HV2.dk, K2⟩)
end Go.Proofs.Ytockmhhiomdlkaa

namespace Go.Proofs.Ytockmhhiomdlkaa
set_option linter.unusedVariables false
set_option linter.unusedSimpArgs false
open Go.RowKit

set_option maxRecDepth 100000 in
set_option maxHeartbeats 4000000 in
theorem rewrite_any (W : World) (vs vp : Value) (d : Dk) (h : DskP W vs vp d) (hn : d.pend.length ≤ 10000) (lA : Option Addr) (lc : Nat) (l : List Txt) (hl : Txs W (.slice lA l.length lc) l) :
    Calls Try.prog 24 #[.agg #[.int .i64 d.size, vs, vp, .int .i64 d.left], .slice lA l.length lc] W (DkPost W (rewD d l).1 (rewD d l).2) := by
  obtain ⟨A, c, P, cp, rfl, rfl, hc, hcp, hm, hmp⟩ := h.form
  obtain ⟨_, _, el, hlc, hlm⟩ := Txs.form hl
  cases el
  have hbk := (Blk.new W #[.int .i64 d.size, .slice A d.secs.length c, .slice P d.pend.length cp, .int .i64 d.left] 25).alloc (.cells #[.int .i64 0, .slice none 0 0, .slice none 0 0, .int .i64 0] 25)
  have hbr := Blk.new (W.alloc (.cells #[.int .i64 d.size, .slice A d.secs.length c, .slice P d.pend.length cp, .int .i64 d.left] 25)) #[.int .i64 0, .slice none 0 0, .slice none 0 0, .int .i64 0] 25
  rw [World.size_alloc] at hbr
  have K1 := ((Below.refl W.heap.size W).alloc (Nat.le_refl _) (.cells #[.int .i64 d.size, .slice A d.secs.length c, .slice P d.pend.length cp, .int .i64 d.left] 25)).alloc (by simp) (.cells #[.int .i64 0, .slice none 0 0, .slice none 0 0, .int .i64 0] 25)
  have HV1 : Var _ W.heap.size A c P cp d := ⟨hbk, h.keep (Keeps.of_below K1)⟩
  have HT1 : Txs _ (.slice lA l.length lc) l := hl.keep (Keeps.of_below K1)
  have HF : Hid (rewD d l = if (openD d).2 ≠ 0 then (noDisk, (openD d).2) else if ¬ OkL l then (noDisk, 4) else if halfN d.secs.length < (frS l d.size.toNat).length then (noDisk, 19) else runD d (twoO (rewW d.secs.length d.size.toNat (openD d).1.1 l) (0, markS d.size.toNat (3 - (openD d).1.1)))) := rfl
  have HU : Hid ((openD d).2 = 0 → Valid d ∧ 3 ≤ d.secs.length ∧ ((openD d).1.1 = 1 ∨ (openD d).1.1 = 2) ∧ (openD d).1.2.2 ≤ halfN d.secs.length) := openOk
  have CO := Lib.hid (open_any _ _ _ d HV1.dk)
  generalize openD d = r at *
  obtain ⟨⟨a0, rl, u⟩, e0⟩ := r
  simp only at HF HU
  clear hbk
  go_enter Try.func24, Try.ntmps24
  go_upto_region 1 with (fail)
  generalize (W.alloc (.cells #[.int .i64 d.size, .slice A d.secs.length c, .slice P d.pend.length cp, .int .i64 d.left] 25)).alloc (.cells #[.int .i64 0, .slice none 0 0, .slice none 0 0, .int .i64 0] 25) = w1 at *
  obtain ⟨q0, q1, q2, q3⟩ := box4 HV1.blk (Below.refl _ _)
  have HK1 := Lib.hid K1
  have HR1 := Lib.hid hbr
  have HVV := Lib.hid HV1
  have HTT := Lib.hid HT1
  clear K1 hbr HV1 HT1
  go_wp2_with fail
  refine CO.out.mono ?_
  rintro e w2 ⟨v, rfl, ht, hb⟩
  obtain ⟨rA, rc, rfl, _, _⟩ := Txs.form ht
  have K2 := HK1.out.trans (hb.mono HK1.out.size)
  have al : Below w2.heap.size w2 (w2.alloc (.cells #[.int .i64 (a0 : Int), .slice rA rl.length rc, .int .i64 (u : Int)] 61)) := (Below.refl _ _).alloc (Nat.le_refl _) _
  have K3 := Lib.hid (K2.trans (al.mono K2.size))
  have HC3 := Lib.hid (Blk.new w2 #[.int .i64 (a0 : Int), .slice rA rl.length rc, .int .i64 (u : Int)] 61)
  have HV3 := Lib.hid ((HVV.out.keep hb).keep al)
  have HR3 := Lib.hid ((HR1.out.keep hb).keep al)
  have HT3 := Lib.hid ((HTT.out.keep (Keeps.of_below hb)).keep (Keeps.of_below al))
  clear CO HK1 ht hb HVV HR1 HTT al K2 q0 q1 q2 q3
  simp only
  by_cases he : e0 = 0
  · subst he
    obtain ⟨hval, hn3, ha12, hu⟩ := HU.out rfl
    have v1 := hval.s1
    have v2 := hval.s2
    have v4 := hval.n2
    have HHF : Hid (halfN d.secs.length ≤ 500) := by show _ ≤ _; unfold halfN; omega
    clear HU hval
    go_upto_region 4 with (fail)
    generalize hw3 : w2.alloc (.cells #[.int .i64 (a0 : Int), .slice rA rl.length rc, .int .i64 (u : Int)] 61) = w3 at *
    have hC : w2.heap.size < w3.heap.size := by rw [← hw3, World.size_alloc]; omega
    generalize w2.heap.size = cb at *
    clear hw3
    have CE := encodeFrame_any w3 lA lc l HT3.out d.size.toNat (by omega) (by omega)
    rw [show ((d.size.toNat : Nat) : Int) = d.size by omega] at CE
    have CE := Lib.hid CE
    obtain ⟨q0, q1, q2, q3⟩ := box4 HV3.out.blk (Below.refl _ _)
    go_wp2_with fail
    refine CE.out.mono ?_
    rintro e w4 ⟨v4', rfl, hrow, hb4⟩
    clear CE q0 q1 q2 q3
    by_cases hok : OkL l
    · have hpt : (putTs l).2 = 0 := (putTs_err l).trans (if_pos hok)
      rw [hpt]
      have hrow := hrow hpt
      clear hpt
      have HFa := Lib.hid (HF.out.trans (if_neg (by simp)) |>.trans (if_neg (fun e => e hok)))
      clear HF hok
      unfold rewW at HFa
      obtain ⟨S, hS⟩ : ∃ S, S = frS l d.size.toNat := ⟨_, rfl⟩
      rw [← hS] at hrow HFa
      clear hS
      obtain ⟨sA, sc, rfl⟩ := own_form (show w4.ownsRow w3.heap.size 9 1 v4' S.length (S.map .string) from hrow)
      have HVc := Lib.hid (HV3.out.keep hb4)
      have HRc := Lib.hid (HR3.out.keep hb4)
      have HCc := Lib.hid (HC3.out.keep hb4)
      have HOc := Lib.hid hrow
      have KBc := Lib.hid hb4
      have CH := Lib.hid (half_any w4 _ _ d HVc.out.dk)
      obtain ⟨q0, q1, q2, q3⟩ := box4 HVc.out.blk (Below.refl _ _)
      clear hrow hb4 HT3
      go_wp2_with fail
      refine CH.out.mono ?_
      rintro e w5 ⟨rfl, hb5⟩
      have HV5 := Lib.hid (HVc.out.keep hb5)
      have HR5 := Lib.hid (HRc.out.keep hb5)
      have HC5 := Lib.hid (HCc.out.keep hb5)
      have HO5 := Lib.hid (OwS.keep HOc.out hb5)
      have KB5 := Lib.hid (KBc.out.trans (hb5.mono KBc.out.size))
      clear HVc HRc HCc HOc KBc hb5 CH q0 q1 q2 q3
      by_cases hroom : halfN d.secs.length < S.length
      · have HE := Lib.hid (HFa.out.trans (if_pos hroom))
        have hbr5 := HR5.out
        have K4 := K3.out.trans (KB5.out.mono K3.out.size)
        clear HFa
        have HV2 := dk_put (A := none) (c := 0) (P := none) (cp := 0) (d := noDisk) hbr5 (Dsk.nodisk w5)
        have K2 := put4_below (A := none) (c := 0) (P := none) (cp := 0) (d := noDisk) K4 (show W.heap.size ≤ W.heap.size + 1 by omega)
        obtain ⟨t0, t1, t2, t3, r0, r1, r2, r3⟩ := box8 hbr5 (Below.refl _ _)
        clear hbr5 K4 K3 HR3 HV3 HC3 HV5 HR5 HC5 HO5 KB5
        go_wp2
        change bodyPost _ _ _ _ _ (put4 w5 (W.heap.size + 1) none 0 none 0 noDisk)
        obtain ⟨k0, k1, k2, k3⟩ := box4 HV2.blk (Below.refl _ _)
        clear t0 t1 t2 t3 r0 r1 r2 r3
        generalize put4 w5 (W.heap.size + 1) none 0 none 0 noDisk = wx at *
        exact bodyPost_ret (v := .tuple #[.agg #[.int .i64 0, .slice none 0 0, .slice none 0 0, .int .i64 0], .int .i64 19]) (by simp only [noDisk, List.length_nil] at k0 k1 k2 k3; simp [results, Try.results24, go_sem, k0, k1, k2, k3]) rfl (by rw [HE.out]; exact ⟨_, _, rfl, HV2.dk, K2⟩)
      · have HE := Lib.hid (HFa.out.trans (if_neg hroom))
        clear HFa
        obtain ⟨g1, g2⟩ := half_bd hn3
        obtain ⟨O, hO⟩ : ∃ O : Nat, O = 3 - a0 := ⟨_, rfl⟩
        have hO12 : O = 1 ∨ O = 2 := by omega
        have hF := first_bd hn3 hO12
        have HCF := Lib.hid (first_any w5 _ _ d HV5.out.dk v4 O (by omega))
        obtain ⟨p0, p1, p2, _, _, _⟩ := blk3 HC5.out
        obtain ⟨q0, q1, q2, q3⟩ := box4 HV5.out.blk (Below.refl _ _)
        rw [← hO] at HE
        have hOi : (3 : Int) - (a0 : Int) = (O : Int) := by omega
        clear hO
        obtain ⟨F, hFe⟩ : ∃ F, F = firstS d.secs.length O := ⟨_, rfl⟩
        rw [← hFe] at HCF HE hF
        clear hFe
        obtain ⟨hF1, hF2, -, -⟩ := hF
        go_upto_region 10 with (fail)
        try rw [hOi]
        clear hOi p0 p1 p2
        go_wp2_with fail
        refine HCF.out.mono ?_
        rintro e w7 ⟨rfl, hb7⟩
        have HVc := Lib.hid (HV5.out.keep hb7)
        have HOc := Lib.hid (OwS.keep HO5.out hb7)
        have KBc := Lib.hid (KB5.out.trans (hb7.mono KB5.out.size))
        have HBL : Hid (w3.heap.size ≤ w7.heap.size) := KBc.out.size
        have hroom' : S.length ≤ halfN d.secs.length := by omega
        clear HV5 HR5 HC5 HO5 KB5 hb7 HCF q0 q1 q2 q3 hroom
        go_upto_region 11 with (fail)
        have HDR : Hid (Below w7.heap.size w7 w7.drew) := below_drew1 (Below.refl _ _)
        have CH := Lib.hid (fun w' (hb : Below w7.drew.heap.size w7.drew w') => half_any w' _ _ d (((HVc.out.keep HDR.out).keep hb).dk))
        have CF0 := fun w' (hb : Below w7.drew.heap.size w7.drew w') => fill_own w' (sA) sc S (OwS.strs (OwS.keep (OwS.keep HOc.out HDR.out) hb)) (F) (F + halfN d.secs.length) d.size.toNat w3.heap.size (by have h1 := HBL.out; have h2 := hb.size; have h3 : w7.drew.heap.size = w7.heap.size := rfl; omega) (by omega) (by have := HHF.out; omega) (by omega)
        rw [show ((d.size.toNat : Nat) : Int) = d.size by omega] at CF0
        obtain ⟨OF, hOF⟩ : ∃ OF, OF = (fillO (F) S (F + halfN d.secs.length) d.size.toNat).map some := ⟨_, rfl⟩
        rw [← hOF] at CF0
        have HOF := Lib.hid hOF
        have CFi := Lib.hid CF0
        clear hOF CF0
        have HHF2 := HHF.out
        generalize hhf : halfN d.secs.length = hf at *
        refine prom_start (by kernel_rfl) 10 (fun i v w => match i with
          | 0 => v = .int .i64 ((F : Nat) : Int)
          | 1 => v = .slice (sA) S.length sc
          | 2 => v = .int .i64 ((F : Nat) : Int)
          | 3 => v = .agg #[.int .i64 d.size, .slice A d.secs.length c, .slice P d.pend.length cp, .int .i64 d.left]
          | 4 => v = .int .i64 (hf : Int)
          | 5 => v = .int .i64 ((F + hf : Nat) : Int)
          | 6 => v = .pointer (some ⟨W.heap.size, 0, none⟩)
          | 7 => v = .int .i64 d.size
          | 8 => OwO w w3.heap.size v OF
          | _ => OwO w w3.heap.size v OF) 0 (by kernel_rfl) (fun i v w w' h hb => ?_) ?_ ?_
        · match i, h with
          | 0, h => exact h
          | 1, h => exact h
          | 2, h => exact h
          | 3, h => exact h
          | 4, h => exact h
          | 5, h => exact h
          | 6, h => exact h
          | 7, h => exact h
          | 8, h => exact OwO.below h hb
          | 9, h => exact OwO.below h hb
          | _ + 10, h => exact OwO.below h hb
        · rintro i o hi ho a w1 hdf hlen hold hbel hdep K hK
          clear hdf
          have hV := (HVc.out.keep HDR.out).keep hbel
          obtain ⟨q0, q1, q2, q3⟩ := box4 hV.blk (Below.refl _ _)
          have s2 : a.tmps.getD 2 undef = .pointer (some ⟨W.heap.size, 0, none⟩) := by
            rw [Array.getD_eq_getD_getElem?, hold 2 ?_]
            · rfl
            · intro j hj
              have : j = 0 ∨ j = 1 ∨ j = 2 ∨ j = 3 ∨ j = 4 ∨ j = 5 ∨ j = 6 ∨ j = 7 ∨ j = 8 ∨ j = 9 := by omega
              rcases this with rfl | rfl | rfl | rfl | rfl | rfl | rfl | rfl | rfl | rfl <;> decide
          have s8 : a.tmps.getD 8 undef = .slice (sA) S.length sc := by
            rw [Array.getD_eq_getD_getElem?, hold 8 ?_]
            · rfl
            · intro j hj
              have : j = 0 ∨ j = 1 ∨ j = 2 ∨ j = 3 ∨ j = 4 ∨ j = 5 ∨ j = 6 ∨ j = 7 ∨ j = 8 ∨ j = 9 := by omega
              rcases this with rfl | rfl | rfl | rfl | rfl | rfl | rfl | rfl | rfl | rfl <;> decide
          have s10 : a.tmps.getD 10 undef = .int .i64 ((F : Nat) : Int) := by
            rw [Array.getD_eq_getD_getElem?, hold 10 ?_]
            · rfl
            · intro j hj
              have : j = 0 ∨ j = 1 ∨ j = 2 ∨ j = 3 ∨ j = 4 ∨ j = 5 ∨ j = 6 ∨ j = 7 ∨ j = 8 ∨ j = 9 := by omega
              rcases this with rfl | rfl | rfl | rfl | rfl | rfl | rfl | rfl | rfl | rfl <;> decide
          have hi' : i = 0 ∨ i = 1 ∨ i = 2 ∨ i = 3 ∨ i = 4 ∨ i = 5 ∨ i = 6 ∨ i = 7 ∨ i = 8 ∨ i = 9 := by omega
          rcases hi' with rfl | rfl | rfl | rfl | rfl | rfl | rfl | rfl | rfl | rfl
          · obtain rfl := Option.some.inj ho
            unfold Oper.wp
            simp only [execOp, Act.eval, s10]
            go_simp
            exact hK _ w1 rfl (Below.refl _ _)
          · obtain rfl := Option.some.inj ho
            unfold Oper.wp
            simp only [execOp, Act.eval, s8]
            go_simp
            exact hK _ w1 rfl (Below.refl _ _)
          · obtain rfl := Option.some.inj ho
            unfold Oper.wp
            simp only [execOp, Act.eval, s10]
            go_simp
            exact hK _ w1 rfl (Below.refl _ _)
          · obtain rfl := Option.some.inj ho
            unfold Oper.wp
            simp only [execOp, Act.eval, s2]
            go_simp
            exact hK _ w1 rfl (Below.refl _ _)
          · obtain rfl := Option.some.inj ho
            have e48 := hdep 3 48 (by omega) (by kernel_rfl) (by kernel_rfl)
            simp only at e48
            unfold Oper.wp
            simp only [execOp, Act.eval, e48]
            go_simp
            refine (CH.out w1 hbel).mono ?_
            rintro e' w4 ⟨rfl, hb4⟩
            exact hK _ w4 (rfl) hb4
          · obtain rfl := Option.some.inj ho
            have e47 := hdep 2 47 (by omega) (by kernel_rfl) (by kernel_rfl)
            simp only at e47
            have e49 := hdep 4 49 (by omega) (by kernel_rfl) (by kernel_rfl)
            simp only at e49
            unfold Oper.wp
            simp only [execOp, Act.eval, e47, e49]
            go_simp
            exact hK _ w1 (by simp only; rw [i64w (by omega) (by omega)]; try exact congrArg (Value.int .i64) (show (((F : Nat) : Int)) + (hf : Int) = ((F + hf : Nat) : Int) by omega)) (Below.refl _ _)
          · obtain rfl := Option.some.inj ho
            unfold Oper.wp
            simp only [execOp, Act.eval, s2]
            go_simp
            exact hK _ w1 rfl (Below.refl _ _)
          · obtain rfl := Option.some.inj ho
            have e51 := hdep 6 51 (by omega) (by kernel_rfl) (by kernel_rfl)
            simp only at e51
            unfold Oper.wp
            simp only [execOp, Act.eval, e51]
            go_simp
            exact hK _ w1 rfl (Below.refl _ _)
          · obtain rfl := Option.some.inj ho
            have e45 := hdep 0 45 (by omega) (by kernel_rfl) (by kernel_rfl)
            simp only at e45
            have e46 := hdep 1 46 (by omega) (by kernel_rfl) (by kernel_rfl)
            simp only at e46
            have e50 := hdep 5 50 (by omega) (by kernel_rfl) (by kernel_rfl)
            simp only at e50
            have e52 := hdep 7 52 (by omega) (by kernel_rfl) (by kernel_rfl)
            simp only at e52
            unfold Oper.wp
            simp only [execOp, Act.eval, e45, e46, e50, e52]
            go_simp
            refine (CFi.out w1 hbel).mono ?_
            rintro e' w4 ⟨v4, rfl, hv4, hb4⟩
            exact hK _ w4 (hv4) hb4
          · obtain rfl := Option.some.inj ho
            have e53 := hdep 8 53 (by omega) (by kernel_rfl) (by kernel_rfl)
            simp only at e53
            generalize hvx : a.tmps.getD 53 undef = vx at *
            unfold Oper.wp
            simp only [execOp, Act.eval, hvx]
            go_simp
            exact hK _ w1 e53 (Below.refl _ _)
        · rintro a w1 hdf hlen hold hbel hnew
          have e11 := hnew 9 11 (by omega) (by kernel_rfl)
          simp only at e11
          have hact := act_eq [45, 46, 47, 48, 49, 50, 51, 52, 53, 11] hdf hlen (fun t ht => hold t (fun j hj hd => by
            have : j = 0 ∨ j = 1 ∨ j = 2 ∨ j = 3 ∨ j = 4 ∨ j = 5 ∨ j = 6 ∨ j = 7 ∨ j = 8 ∨ j = 9 := by omega
            rcases this with rfl | rfl | rfl | rfl | rfl | rfl | rfl | rfl | rfl | rfl <;> (obtain rfl := Option.some.inj hd; exact ht (by decide))))
          simp only [List.foldl, List.setIfInBounds_toArray, List.set_cons_zero, List.set_cons_succ] at hact
          clear hdf hlen hold hnew 
          generalize a.tmps.getD 45 undef = u45 at hact
          generalize a.tmps.getD 46 undef = u46 at hact
          generalize a.tmps.getD 47 undef = u47 at hact
          generalize a.tmps.getD 48 undef = u48 at hact
          generalize a.tmps.getD 49 undef = u49 at hact
          generalize a.tmps.getD 50 undef = u50 at hact
          generalize a.tmps.getD 51 undef = u51 at hact
          generalize a.tmps.getD 52 undef = u52 at hact
          generalize a.tmps.getD 53 undef = u53 at hact
          generalize a.tmps.getD 11 undef = u11 at hact e11
          subst hact
          refine AtS.done (by kernel_rfl) (NoPanic.normal ?_)
          have kd := HDR.out.trans (hbel.mono (Nat.le_refl _))
          have KB8 := Lib.hid (KBc.out.trans (kd.mono KBc.out.size))
          have HOW := Lib.hid e11
          clear HVc HOc KBc kd hbel HDR CH CFi e11 HHF HHF2 HBL
          subst hhf
          generalize hw8 : w1 = w8 at *
          clear hw8
          rcases hO12 with rfl | rfl
          · have HV8 := Lib.hid (HV3.out.keep KB8.out)
            obtain ⟨q0, q1, q2, q3⟩ := box4 HV8.out.blk (Below.refl _ _)
            have HMK : Hid (markS d.size.toNat 1 = strB (padT d.size.toNat [1])) := rfl
            have CM0 := padded_any [1] d.size.toNat (by simp; omega) (by omega) w8
            rw [show ((d.size.toNat : Nat) : Int) = d.size by omega, ← HMK.out] at CM0
            have CM := Lib.hid CM0
            clear CM0 HMK
            generalize markS d.size.toNat 1 = MK at *
            go_wp2_with fail
            refine CM.out.mono ?_
            rintro e w8b ⟨rfl, hb8⟩
            have HOW := Lib.hid (OwO.below HOW.out hb8)
            have KB8 := Lib.hid (KB8.out.trans (hb8.mono KB8.out.size))
            have HOPS : Hid (runD d (twoO (fillO F S (F + halfN d.secs.length) d.size.toNat) (0, MK)) = runD d (OF ++ [none, some (0, MK), none])) := by show _ = _; rw [HOF.out]; rfl
            have HOFL : Hid (OF.length ≤ 600) := by
              show _ ≤ _
              rw [HOF.out, List.length_map]
              have := fillO_len' F S (F + halfN d.secs.length) d.size.toNat
              omega
            clear HOF CM hb8 HV8 q0 q1 q2 q3
            generalize twoO (fillO F S (F + halfN d.secs.length) d.size.toNat) (0, MK) = OPS at *
            generalize hw8b : w8b = w8' at *
            clear hw8b
            go_upto_region 13 with (fail)
            obtain ⟨i1, hi1, hy0, hy1, hy2⟩ := info_parts Try.info_op
            have HSS0 : ∀ w', Below w3.heap.size w3 w' → w'.cell? ⟨W.heap.size, 0, none⟩ = some (.int .i64 d.size) ∧ w'.cell? ⟨W.heap.size, 1, none⟩ = some (.slice A d.secs.length c) ∧ w'.cell? ⟨W.heap.size, 2, none⟩ = some (.slice P d.pend.length cp) ∧ w'.cell? ⟨W.heap.size, 3, none⟩ = some (.int .i64 d.left) := fun w' hb => box4 (HV3.out.keep hb).blk (Below.refl _ _)
            have HSS := Lib.hid HSS0
            clear HSS0
            have HDR : Hid (Below w8'.heap.size w8' w8'.drew) := below_drew1 (Below.refl _ _)
            have KB9 := Lib.hid (KB8.out.trans (HDR.out.mono KB8.out.size))
            obtain ⟨vals, hrow, hol, hoc⟩ := HOW.out.below HDR.out
            obtain ⟨oA, oc, rfl⟩ := own_form hrow
            have HRow := Lib.hid hrow
            have HOL := Lib.hid hol
            have HOC := Lib.hid hoc
            clear hrow hol hoc HOW HDR KB8
            refine AtS.start (S := fun w => w.cell? ⟨W.heap.size, 0, none⟩ = some (.int .i64 d.size) ∧ w.cell? ⟨W.heap.size, 1, none⟩ = some (.slice A d.secs.length c) ∧ w.cell? ⟨W.heap.size, 2, none⟩ = some (.slice P d.pend.length cp) ∧ w.cell? ⟨W.heap.size, 3, none⟩ = some (.int .i64 d.left)) (by kernel_rfl) (HSS.out _ KB9.out) 6 ?_
            generalize w8'.drew = w9 at *
            simp only [List.size_toArray, List.length_cons, List.length_nil]
            (refine AtS.load (i := 0) (v := ?_) (by simp only [List.getElem?_toArray, List.getElem?_cons_succ, List.getElem?_cons_zero]; rfl) (by kernel_rfl) (by kernel_rfl) (by kernel_rfl) (fun _ _ _ h => h) [] (by kernel_rfl) (Or.inl ⟨by rfl, fun w hSw => ?_⟩) ?_; rotate_left; ((try dsimp only at hSw); go_split_ands; go_simp; try with_reducible rfl); simp only [Act.put, List.setIfInBounds_toArray, List.set_cons_zero, List.set_cons_succ])
            (refine AtS.free (i := 1) (v := ?_) (by simp only [List.getElem?_toArray, List.getElem?_cons_succ, List.getElem?_cons_zero]; rfl) (by kernel_rfl) (by kernel_rfl) (by kernel_rfl) (fun _ _ _ h => h) (by kernel_rfl) (Or.inl ⟨by rfl, fun w _ => ?_⟩) ?_; rotate_left; (go_simp; try with_reducible rfl); simp only [Act.put, List.setIfInBounds_toArray, List.set_cons_zero, List.set_cons_succ])
            (refine AtS.free (i := 2) (v := ?_) (by simp only [List.getElem?_toArray, List.getElem?_cons_succ, List.getElem?_cons_zero]; rfl) (by kernel_rfl) (by kernel_rfl) (by kernel_rfl) (fun _ _ _ h => h) (by kernel_rfl) (Or.inl ⟨by rfl, fun w _ => ?_⟩) ?_; rotate_left; (go_simp; try with_reducible rfl); simp only [Act.put, List.setIfInBounds_toArray, List.set_cons_zero, List.set_cons_succ])
            refine AtS.only (i := 3) (by simp only [List.getElem?_toArray, List.getElem?_cons_succ, List.getElem?_cons_zero]; rfl) (by kernel_rfl) (by rfl) ?_
            intro K hK
            go_simp
            refine (jwrite_any (0) MK (by omega) w9).mono ?_
            rintro e w10 ⟨v10, rfl, hv10, hb10⟩
            have KB10 := Lib.hid (KB9.out.trans (hb10.mono KB9.out.size))
            refine hK _ _ (HSS.out _ KB10.out) ?_
            clear hK K
            try simp only [Act.put, List.setIfInBounds_toArray, List.set_cons_zero, List.set_cons_succ]
            have HRow10 := Lib.hid (own_stab (M := fun _ => False) HRow.out (fun _ _ h => h) _ (Agree.of_below hb10 _))
            have HOL10 := Lib.hid (HOL.out.keep hb10)
            have HOV := Lib.hid hv10
            obtain ⟨b1, b2, rfl, -⟩ := hv10
            clear hb10 KB9 HRow HOL
            refine AtS.only (i := 4) (by simp only [List.getElem?_toArray, List.getElem?_cons_succ, List.getElem?_cons_zero]; rfl) (by kernel_rfl) (by rfl) ?_
            intro K hK
            go_simp
            have al := (Below.refl w10.heap.size w10).alloc (Nat.le_refl _) (.cells #[.func (.func 39) #[] #[], .func (.func 66) #[] #[.pointer (some ⟨b1, 0, none⟩), .pointer (some ⟨b2, 0, none⟩)], .func (.func 39) #[] #[]] 70)
            have KB11 := Lib.hid (KB10.out.trans (al.mono KB10.out.size))
            refine hK _ _ (HSS.out _ KB11.out) ?_
            clear hK K
            try simp only [Act.put, List.setIfInBounds_toArray, List.set_cons_zero, List.set_cons_succ]
            have HRow11 := Lib.hid (own_stab (M := fun _ => False) HRow10.out (fun _ _ h => h) _ (Agree.of_below al _))
            have HOL11 := Lib.hid (HOL10.out.keep al)
            have HOV11 := Lib.hid (HOV.out.keep al)
            have HCA : Hid (CellsAt (w10.alloc (.cells #[.func (.func 39) #[] #[], .func (.func 66) #[] #[.pointer (some ⟨b1, 0, none⟩), .pointer (some ⟨b2, 0, none⟩)], .func (.func 39) #[] #[]] 70)) (some ⟨w10.heap.size, 0, none⟩) [.func (.func 39) #[] #[], .func (.func 66) #[] #[.pointer (some ⟨b1, 0, none⟩), .pointer (some ⟨b2, 0, none⟩)], .func (.func 39) #[] #[]]) := CellsAt.of_new _ _ _ _
            have hsz11 := KB11.out.size
            generalize w10.alloc (.cells #[.func (.func 39) #[] #[], .func (.func 66) #[] #[.pointer (some ⟨b1, 0, none⟩), .pointer (some ⟨b2, 0, none⟩)], .func (.func 39) #[] #[]] 70) = w11 at *
            generalize w10.heap.size = g11 at *
            clear al KB10 HRow10 HOL10 HOV
            refine AtS.lawS (i := 5) (by simp only [List.getElem?_toArray, List.getElem?_cons_succ, List.getElem?_cons_zero]; rfl) (by kernel_rfl) ?_
            refine step_append_any _ rfl _ _ _ rfl w3.heap.size 70 i1 _ 1 8 Try.underlying67 hi1 hy0 hy1 hy2 rfl (by omega) (.slice oA OF.length oc) OF.length _ rfl HRow11.out _ 3 3 [.func (.func 39) #[] #[], .func (.func 66) #[] #[.pointer (some ⟨b1, 0, none⟩), .pointer (some ⟨b2, 0, none⟩)], .func (.func 39) #[] #[]] rfl rfl HCA.out (by simp [Value.oneCell']) (by have := HOFL.out; omega) (by have := HOFL.out; omega) hsz11 ?_
            intro v12 w12 hown12 hgr12 hat12
            have KB12 := Lib.hid (KB11.out.grown hgr12 hsz11 (fun g h => (World.ownsRow.lt HRow11.out g h).1))
            have HOW12 : Hid (OwO w12 w3.heap.size v12 (OF ++ [none, some (0, MK), none])) :=
              OwO.grow (n1 := [.func (.func 39) #[] #[], .func (.func 66) #[] #[.pointer (some ⟨b1, 0, none⟩), .pointer (some ⟨b2, 0, none⟩)], .func (.func 39) #[] #[]]) (o1 := [none, some (0, MK), none]) HRow11.out HOL11.out HOC.out (((OpL.one (w := w11) (v := (.func (.func 39) #[] #[])) (o := none) rfl).append (OpL.one HOV11.out)).append (OpL.one (w := w11) (v := (.func (.func 39) #[] #[])) (o := none) rfl)) (by simp [Value.oneCell']) hgr12 hown12
            refine ⟨HSS.out _ KB12.out, ?_⟩
            try simp only [Act.put, List.setIfInBounds_toArray, List.set_cons_zero, List.set_cons_succ]
            have HV12 := Lib.hid (HV3.out.keep KB12.out)
            have hbr12 := HR3.out.keep KB12.out
            have K12 := K3.out.trans (KB12.out.mono K3.out.size)
            have hlen : d.pend.length + (OF ++ [none, some (0, MK), none]).length ≤ 100000 := by have := HOFL.out; simp; omega
            clear hown12 hgr12 hat12 KB11 HRow11 HOL11 HOV11 HCA hsz11
            refine AtS.late (i := 6) (by simp only [List.getElem?_toArray, List.getElem?_cons_succ, List.getElem?_cons_zero]; rfl) (by kernel_rfl) (by kernel_rfl) (by kernel_rfl) ?_
            intro K hK
            go_simp
            refine (run_any w12 _ _ d HV12.out.dk v12 _ HOW12.out.ops hlen).mono ?_
            rintro e w13 ⟨vs2, vp2, rfl, hd2, hb13⟩
            refine hK _ _ ?_
            clear hK K
            try simp only [Act.put, List.setIfInBounds_toArray, List.set_cons_zero, List.set_cons_succ]
            have hbr := hbr12.keep hb13
            have KB := K12.trans (hb13.mono K12.size)
            have hlt1 := hbr.lt
            clear hbr12 K12 HV12 KB12 HOW12 hlen hb13
            rw [← HOPS.out] at hd2 ⊢
            generalize runD d _ = R at *
            obtain ⟨D, N⟩ := R
            simp only at hd2 HE ⊢
            obtain ⟨A2, c2, P2, cp2, rfl, rfl, _, _, _, _⟩ := hd2.form
            have HV2 := Lib.hid (dk_put hbr hd2)
            have K2 := Lib.hid (put4_below (A := A2) (c := c2) (P := P2) (cp := cp2) (d := D) KB (show W.heap.size ≤ W.heap.size + 1 by omega))
            obtain ⟨t0, t1, t2, t3, r0, r1, r2, r3⟩ := box8 hbr (Below.refl _ _)
            clear KB hd2 hbr
            (refine AtS.free (i := 7) (v := ?_) (by simp only [List.getElem?_toArray, List.getElem?_cons_succ, List.getElem?_cons_zero]; rfl) (by kernel_rfl) (by kernel_rfl) (by kernel_rfl) (fun _ _ _ h => h) (by kernel_rfl) (Or.inl ⟨by rfl, fun w _ => ?_⟩) ?_; rotate_left; (go_simp; try with_reducible rfl); simp only [Act.put, List.setIfInBounds_toArray, List.set_cons_zero, List.set_cons_succ])
            (refine AtS.free (i := 8) (v := ?_) (by simp only [List.getElem?_toArray, List.getElem?_cons_succ, List.getElem?_cons_zero]; rfl) (by kernel_rfl) (by kernel_rfl) (by kernel_rfl) (fun _ _ _ h => h) (by kernel_rfl) (Or.inl ⟨by rfl, fun w _ => ?_⟩) ?_; rotate_left; (go_simp; try with_reducible rfl); simp only [Act.put, List.setIfInBounds_toArray, List.set_cons_zero, List.set_cons_succ])
            refine AtS.late (i := 9) (by simp only [List.getElem?_toArray, List.getElem?_cons_succ, List.getElem?_cons_zero]; rfl) (by kernel_rfl) (by kernel_rfl) (by kernel_rfl) ?_
            intro K hK
            go_simp
            refine hK _ _ ?_
            clear hK K
            change AtS _ _ _ _ _ _ _ _ _ (put4 w13 (W.heap.size + 1) A2 c2 P2 cp2 D)
            clear t0 t1 t2 t3 r0 r1 r2 r3 hlt1
            generalize put4 w13 (W.heap.size + 1) A2 c2 P2 cp2 D = w14 at *
            refine AtS.late (i := 10) (by simp only [List.getElem?_toArray, List.getElem?_cons_succ, List.getElem?_cons_zero]; rfl) (by kernel_rfl) (by kernel_rfl) (by kernel_rfl) ?_
            intro K hK
            go_simp
            refine hK _ _ (AtS.done (by kernel_rfl) (NoPanic.normal ?_))
            clear hK K
            obtain ⟨k0, k1, k2, k3⟩ := box4 HV2.out.blk (Below.refl _ _)
            go_wp2
            exact bodyPost_ret (v := .tuple #[.agg #[.int .i64 D.size, .slice A2 D.secs.length c2, .slice P2 D.pend.length cp2, .int .i64 D.left], .int .i64 N]) (by simp [results, Try.results24, go_sem, k0, k1, k2, k3]) rfl (by rw [HE.out]; exact ⟨_, _, rfl, HV2.out.dk, K2.out⟩)
          · have HV8 := Lib.hid (HV3.out.keep KB8.out)
            obtain ⟨q0, q1, q2, q3⟩ := box4 HV8.out.blk (Below.refl _ _)
            have HMK : Hid (markS d.size.toNat 2 = strB (padT d.size.toNat [2])) := rfl
            have CM0 := padded_any [2] d.size.toNat (by simp; omega) (by omega) w8
            rw [show ((d.size.toNat : Nat) : Int) = d.size by omega, ← HMK.out] at CM0
            have CM := Lib.hid CM0
            clear CM0 HMK
            generalize markS d.size.toNat 2 = MK at *
            go_wp2_with fail
            refine CM.out.mono ?_
            rintro e w8b ⟨rfl, hb8⟩
            have HOW := Lib.hid (OwO.below HOW.out hb8)
            have KB8 := Lib.hid (KB8.out.trans (hb8.mono KB8.out.size))
            have HOPS : Hid (runD d (twoO (fillO F S (F + halfN d.secs.length) d.size.toNat) (0, MK)) = runD d (OF ++ [none, some (0, MK), none])) := by show _ = _; rw [HOF.out]; rfl
            have HOFL : Hid (OF.length ≤ 600) := by
              show _ ≤ _
              rw [HOF.out, List.length_map]
              have := fillO_len' F S (F + halfN d.secs.length) d.size.toNat
              omega
            clear HOF CM hb8 HV8 q0 q1 q2 q3
            generalize twoO (fillO F S (F + halfN d.secs.length) d.size.toNat) (0, MK) = OPS at *
            generalize hw8b : w8b = w8' at *
            clear hw8b
            go_upto_region 13 with (fail)
            obtain ⟨i1, hi1, hy0, hy1, hy2⟩ := info_parts Try.info_op
            have HSS0 : ∀ w', Below w3.heap.size w3 w' → w'.cell? ⟨W.heap.size, 0, none⟩ = some (.int .i64 d.size) ∧ w'.cell? ⟨W.heap.size, 1, none⟩ = some (.slice A d.secs.length c) ∧ w'.cell? ⟨W.heap.size, 2, none⟩ = some (.slice P d.pend.length cp) ∧ w'.cell? ⟨W.heap.size, 3, none⟩ = some (.int .i64 d.left) := fun w' hb => box4 (HV3.out.keep hb).blk (Below.refl _ _)
            have HSS := Lib.hid HSS0
            clear HSS0
            have HDR : Hid (Below w8'.heap.size w8' w8'.drew) := below_drew1 (Below.refl _ _)
            have KB9 := Lib.hid (KB8.out.trans (HDR.out.mono KB8.out.size))
            obtain ⟨vals, hrow, hol, hoc⟩ := HOW.out.below HDR.out
            obtain ⟨oA, oc, rfl⟩ := own_form hrow
            have HRow := Lib.hid hrow
            have HOL := Lib.hid hol
            have HOC := Lib.hid hoc
            clear hrow hol hoc HOW HDR KB8
            refine AtS.start (S := fun w => w.cell? ⟨W.heap.size, 0, none⟩ = some (.int .i64 d.size) ∧ w.cell? ⟨W.heap.size, 1, none⟩ = some (.slice A d.secs.length c) ∧ w.cell? ⟨W.heap.size, 2, none⟩ = some (.slice P d.pend.length cp) ∧ w.cell? ⟨W.heap.size, 3, none⟩ = some (.int .i64 d.left)) (by kernel_rfl) (HSS.out _ KB9.out) 6 ?_
            generalize w8'.drew = w9 at *
            simp only [List.size_toArray, List.length_cons, List.length_nil]
            (refine AtS.load (i := 0) (v := ?_) (by simp only [List.getElem?_toArray, List.getElem?_cons_succ, List.getElem?_cons_zero]; rfl) (by kernel_rfl) (by kernel_rfl) (by kernel_rfl) (fun _ _ _ h => h) [] (by kernel_rfl) (Or.inl ⟨by rfl, fun w hSw => ?_⟩) ?_; rotate_left; ((try dsimp only at hSw); go_split_ands; go_simp; try with_reducible rfl); simp only [Act.put, List.setIfInBounds_toArray, List.set_cons_zero, List.set_cons_succ])
            (refine AtS.free (i := 1) (v := ?_) (by simp only [List.getElem?_toArray, List.getElem?_cons_succ, List.getElem?_cons_zero]; rfl) (by kernel_rfl) (by kernel_rfl) (by kernel_rfl) (fun _ _ _ h => h) (by kernel_rfl) (Or.inl ⟨by rfl, fun w _ => ?_⟩) ?_; rotate_left; (go_simp; try with_reducible rfl); simp only [Act.put, List.setIfInBounds_toArray, List.set_cons_zero, List.set_cons_succ])
            (refine AtS.free (i := 2) (v := ?_) (by simp only [List.getElem?_toArray, List.getElem?_cons_succ, List.getElem?_cons_zero]; rfl) (by kernel_rfl) (by kernel_rfl) (by kernel_rfl) (fun _ _ _ h => h) (by kernel_rfl) (Or.inl ⟨by rfl, fun w _ => ?_⟩) ?_; rotate_left; (go_simp; try with_reducible rfl); simp only [Act.put, List.setIfInBounds_toArray, List.set_cons_zero, List.set_cons_succ])
            refine AtS.only (i := 3) (by simp only [List.getElem?_toArray, List.getElem?_cons_succ, List.getElem?_cons_zero]; rfl) (by kernel_rfl) (by rfl) ?_
            intro K hK
            go_simp
            refine (jwrite_any (0) MK (by omega) w9).mono ?_
            rintro e w10 ⟨v10, rfl, hv10, hb10⟩
            have KB10 := Lib.hid (KB9.out.trans (hb10.mono KB9.out.size))
            refine hK _ _ (HSS.out _ KB10.out) ?_
            clear hK K
            try simp only [Act.put, List.setIfInBounds_toArray, List.set_cons_zero, List.set_cons_succ]
            have HRow10 := Lib.hid (own_stab (M := fun _ => False) HRow.out (fun _ _ h => h) _ (Agree.of_below hb10 _))
            have HOL10 := Lib.hid (HOL.out.keep hb10)
            have HOV := Lib.hid hv10
            obtain ⟨b1, b2, rfl, -⟩ := hv10
            clear hb10 KB9 HRow HOL
            refine AtS.only (i := 4) (by simp only [List.getElem?_toArray, List.getElem?_cons_succ, List.getElem?_cons_zero]; rfl) (by kernel_rfl) (by rfl) ?_
            intro K hK
            go_simp
            have al := (Below.refl w10.heap.size w10).alloc (Nat.le_refl _) (.cells #[.func (.func 39) #[] #[], .func (.func 66) #[] #[.pointer (some ⟨b1, 0, none⟩), .pointer (some ⟨b2, 0, none⟩)], .func (.func 39) #[] #[]] 70)
            have KB11 := Lib.hid (KB10.out.trans (al.mono KB10.out.size))
            refine hK _ _ (HSS.out _ KB11.out) ?_
            clear hK K
            try simp only [Act.put, List.setIfInBounds_toArray, List.set_cons_zero, List.set_cons_succ]
            have HRow11 := Lib.hid (own_stab (M := fun _ => False) HRow10.out (fun _ _ h => h) _ (Agree.of_below al _))
            have HOL11 := Lib.hid (HOL10.out.keep al)
            have HOV11 := Lib.hid (HOV.out.keep al)
            have HCA : Hid (CellsAt (w10.alloc (.cells #[.func (.func 39) #[] #[], .func (.func 66) #[] #[.pointer (some ⟨b1, 0, none⟩), .pointer (some ⟨b2, 0, none⟩)], .func (.func 39) #[] #[]] 70)) (some ⟨w10.heap.size, 0, none⟩) [.func (.func 39) #[] #[], .func (.func 66) #[] #[.pointer (some ⟨b1, 0, none⟩), .pointer (some ⟨b2, 0, none⟩)], .func (.func 39) #[] #[]]) := CellsAt.of_new _ _ _ _
            have hsz11 := KB11.out.size
            generalize w10.alloc (.cells #[.func (.func 39) #[] #[], .func (.func 66) #[] #[.pointer (some ⟨b1, 0, none⟩), .pointer (some ⟨b2, 0, none⟩)], .func (.func 39) #[] #[]] 70) = w11 at *
            generalize w10.heap.size = g11 at *
            clear al KB10 HRow10 HOL10 HOV
            refine AtS.lawS (i := 5) (by simp only [List.getElem?_toArray, List.getElem?_cons_succ, List.getElem?_cons_zero]; rfl) (by kernel_rfl) ?_
            refine step_append_any _ rfl _ _ _ rfl w3.heap.size 70 i1 _ 1 8 Try.underlying67 hi1 hy0 hy1 hy2 rfl (by omega) (.slice oA OF.length oc) OF.length _ rfl HRow11.out _ 3 3 [.func (.func 39) #[] #[], .func (.func 66) #[] #[.pointer (some ⟨b1, 0, none⟩), .pointer (some ⟨b2, 0, none⟩)], .func (.func 39) #[] #[]] rfl rfl HCA.out (by simp [Value.oneCell']) (by have := HOFL.out; omega) (by have := HOFL.out; omega) hsz11 ?_
            intro v12 w12 hown12 hgr12 hat12
            have KB12 := Lib.hid (KB11.out.grown hgr12 hsz11 (fun g h => (World.ownsRow.lt HRow11.out g h).1))
            have HOW12 : Hid (OwO w12 w3.heap.size v12 (OF ++ [none, some (0, MK), none])) :=
              OwO.grow (n1 := [.func (.func 39) #[] #[], .func (.func 66) #[] #[.pointer (some ⟨b1, 0, none⟩), .pointer (some ⟨b2, 0, none⟩)], .func (.func 39) #[] #[]]) (o1 := [none, some (0, MK), none]) HRow11.out HOL11.out HOC.out (((OpL.one (w := w11) (v := (.func (.func 39) #[] #[])) (o := none) rfl).append (OpL.one HOV11.out)).append (OpL.one (w := w11) (v := (.func (.func 39) #[] #[])) (o := none) rfl)) (by simp [Value.oneCell']) hgr12 hown12
            refine ⟨HSS.out _ KB12.out, ?_⟩
            try simp only [Act.put, List.setIfInBounds_toArray, List.set_cons_zero, List.set_cons_succ]
            have HV12 := Lib.hid (HV3.out.keep KB12.out)
            have hbr12 := HR3.out.keep KB12.out
            have K12 := K3.out.trans (KB12.out.mono K3.out.size)
            have hlen : d.pend.length + (OF ++ [none, some (0, MK), none]).length ≤ 100000 := by have := HOFL.out; simp; omega
            clear hown12 hgr12 hat12 KB11 HRow11 HOL11 HOV11 HCA hsz11
            refine AtS.late (i := 6) (by simp only [List.getElem?_toArray, List.getElem?_cons_succ, List.getElem?_cons_zero]; rfl) (by kernel_rfl) (by kernel_rfl) (by kernel_rfl) ?_
            intro K hK
            go_simp
            refine (run_any w12 _ _ d HV12.out.dk v12 _ HOW12.out.ops hlen).mono ?_
            rintro e w13 ⟨vs2, vp2, rfl, hd2, hb13⟩
            refine hK _ _ ?_
            clear hK K
            try simp only [Act.put, List.setIfInBounds_toArray, List.set_cons_zero, List.set_cons_succ]
            have hbr := hbr12.keep hb13
            have KB := K12.trans (hb13.mono K12.size)
            have hlt1 := hbr.lt
            clear hbr12 K12 HV12 KB12 HOW12 hlen hb13
            rw [← HOPS.out] at hd2 ⊢
            generalize runD d _ = R at *
            obtain ⟨D, N⟩ := R
            simp only at hd2 HE ⊢
            obtain ⟨A2, c2, P2, cp2, rfl, rfl, _, _, _, _⟩ := hd2.form
            have HV2 := Lib.hid (dk_put hbr hd2)
            have K2 := Lib.hid (put4_below (A := A2) (c := c2) (P := P2) (cp := cp2) (d := D) KB (show W.heap.size ≤ W.heap.size + 1 by omega))
            obtain ⟨t0, t1, t2, t3, r0, r1, r2, r3⟩ := box8 hbr (Below.refl _ _)
            clear KB hd2 hbr
            (refine AtS.free (i := 7) (v := ?_) (by simp only [List.getElem?_toArray, List.getElem?_cons_succ, List.getElem?_cons_zero]; rfl) (by kernel_rfl) (by kernel_rfl) (by kernel_rfl) (fun _ _ _ h => h) (by kernel_rfl) (Or.inl ⟨by rfl, fun w _ => ?_⟩) ?_; rotate_left; (go_simp; try with_reducible rfl); simp only [Act.put, List.setIfInBounds_toArray, List.set_cons_zero, List.set_cons_succ])
            (refine AtS.free (i := 8) (v := ?_) (by simp only [List.getElem?_toArray, List.getElem?_cons_succ, List.getElem?_cons_zero]; rfl) (by kernel_rfl) (by kernel_rfl) (by kernel_rfl) (fun _ _ _ h => h) (by kernel_rfl) (Or.inl ⟨by rfl, fun w _ => ?_⟩) ?_; rotate_left; (go_simp; try with_reducible rfl); simp only [Act.put, List.setIfInBounds_toArray, List.set_cons_zero, List.set_cons_succ])
            refine AtS.late (i := 9) (by simp only [List.getElem?_toArray, List.getElem?_cons_succ, List.getElem?_cons_zero]; rfl) (by kernel_rfl) (by kernel_rfl) (by kernel_rfl) ?_
            intro K hK
            go_simp
            refine hK _ _ ?_
            clear hK K
            change AtS _ _ _ _ _ _ _ _ _ (put4 w13 (W.heap.size + 1) A2 c2 P2 cp2 D)
            clear t0 t1 t2 t3 r0 r1 r2 r3 hlt1
            generalize put4 w13 (W.heap.size + 1) A2 c2 P2 cp2 D = w14 at *
            refine AtS.late (i := 10) (by simp only [List.getElem?_toArray, List.getElem?_cons_succ, List.getElem?_cons_zero]; rfl) (by kernel_rfl) (by kernel_rfl) (by kernel_rfl) ?_
            intro K hK
            go_simp
            refine hK _ _ (AtS.done (by kernel_rfl) (NoPanic.normal ?_))
            clear hK K
            obtain ⟨k0, k1, k2, k3⟩ := box4 HV2.out.blk (Below.refl _ _)
            go_wp2
            exact bodyPost_ret (v := .tuple #[.agg #[.int .i64 D.size, .slice A2 D.secs.length c2, .slice P2 D.pend.length cp2, .int .i64 D.left], .int .i64 N]) (by simp [results, Try.results24, go_sem, k0, k1, k2, k3]) rfl (by rw [HE.out]; exact ⟨_, _, rfl, HV2.out.dk, K2.out⟩)
    · have HE := Lib.hid (HF.out.trans (if_neg (by simp)) |>.trans (if_pos hok))
      rw [(putTs_err l).trans (if_neg hok)]
      have K4 := K3.out.trans (hb4.mono K3.out.size)
      have hbr4 := HR3.out.keep hb4
      clear hrow
      have HV2 := dk_put (A := none) (c := 0) (P := none) (cp := 0) (d := noDisk) hbr4 (Dsk.nodisk w4)
      have K2 := put4_below (A := none) (c := 0) (P := none) (cp := 0) (d := noDisk) K4 (show W.heap.size ≤ W.heap.size + 1 by omega)
      obtain ⟨t0, t1, t2, t3, r0, r1, r2, r3⟩ := box8 hbr4 (Below.refl _ _)
      clear hbr4 K4 K3 HR3 HV3 HC3 HT3 hb4 HF
      go_wp2
      change bodyPost _ _ _ _ _ (put4 w4 (W.heap.size + 1) none 0 none 0 noDisk)
      obtain ⟨k0, k1, k2, k3⟩ := box4 HV2.blk (Below.refl _ _)
      clear t0 t1 t2 t3 r0 r1 r2 r3
      generalize put4 w4 (W.heap.size + 1) none 0 none 0 noDisk = wx at *
      exact bodyPost_ret (v := .tuple #[.agg #[.int .i64 0, .slice none 0 0, .slice none 0 0, .int .i64 0], .int .i64 4]) (by simp only [noDisk, List.length_nil] at k0 k1 k2 k3; simp [results, Try.results24, go_sem, k0, k1, k2, k3]) rfl (by rw [HE.out]; exact ⟨_, _, rfl, HV2.dk, K2⟩)
  · have HE := Lib.hid (HF.out.trans (if_pos he))
    have hne : (e0 != 0) = true := by simpa using he
    clear HF HU
    have hbr4 := HR3.out
    have K4 := K3.out
    go_upto_region 3 with (fail)
    generalize w2.alloc (.cells #[.int .i64 (a0 : Int), .slice rA rl.length rc, .int .i64 (u : Int)] 61) = w3 at *
    have HV2 := dk_put (A := none) (c := 0) (P := none) (cp := 0) (d := noDisk) hbr4 (Dsk.nodisk w3)
    have K2 := put4_below (A := none) (c := 0) (P := none) (cp := 0) (d := noDisk) K4 (show W.heap.size ≤ W.heap.size + 1 by omega)
    obtain ⟨t0, t1, t2, t3, r0, r1, r2, r3⟩ := box8 hbr4 (Below.refl _ _)
    clear hbr4 K4 K3 HR3 HV3 HC3 HT3
    go_wp2
    change bodyPost _ _ _ _ _ (put4 w3 (W.heap.size + 1) none 0 none 0 noDisk)
    obtain ⟨k0, k1, k2, k3⟩ := box4 HV2.blk (Below.refl _ _)
    clear t0 t1 t2 t3 r0 r1 r2 r3
    generalize put4 w3 (W.heap.size + 1) none 0 none 0 noDisk = wx at *
    exact bodyPost_ret (v := .tuple #[.agg #[.int .i64 0, .slice none 0 0, .slice none 0 0, .int .i64 0], .int .i64 e0]) (by simp only [noDisk, List.length_nil] at k0 k1 k2 k3; simp [results, Try.results24, go_sem, k0, k1, k2, k3]) rfl (by rw [HE.out]; exact ⟨_, _, rfl, HV2.dk, K2⟩)
end Go.Proofs.Ytockmhhiomdlkaa
