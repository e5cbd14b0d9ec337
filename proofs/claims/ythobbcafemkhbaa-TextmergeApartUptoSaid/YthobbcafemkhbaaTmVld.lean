/- textmerge.valid. -/
import Derived.Test.YthobbcafemkhbaaTmMark
import Derived.Test.YthobbcafemkhbaaTmP
import Derived.Test.YthobbcafemkhbaaTmRef
namespace Go.Proofs.Ythobbcafemkhbaa
open Go.RowKit

def okB (pp : Bool) (x : Rg) : Bool := if x.1 = true then !eqB x.2.1 x.2.2.1 && (!eqB x.2.1 x.2.2.2 && !eqB x.2.2.1 x.2.2.2) else !eqB x.2.2.1 [] && (eqB x.2.1 [] && (eqB x.2.2.2 [] && !pp))
def lnB (last : Bool) (x : Rg) : Bool := linesB last x.2.1 && (linesB last x.2.2.1 && linesB last x.2.2.2)
/-- Are regions valid? (As both programs find out.) -/
def vldF : Bool → List Rg → Bool
  | _, [] => true
  | pp, x :: t => lnB t.isEmpty x && (okB pp x && vldF (!x.1) t)
def prevP (L : List Rg) : Nat → Bool
  | 0 => false
  | k + 1 => match L[k]? with
    | some x => !x.1
    | none => false
theorem vld_at {L : List Rg} {k : Nat} (h : k < L.length) : vldF (prevP L k) (L.drop k) = (lnB (decide (k + 1 = L.length)) L[k] && (okB (prevP L k) L[k] && vldF (prevP L (k + 1)) (L.drop (k + 1)))) := by
  have e1 : prevP L (k + 1) = !L[k].1 := by
    show (match L[k]? with | some x => !x.1 | none => false) = _
    rw [List.getElem?_eq_getElem h]
  have e2 : (L.drop (k + 1)).isEmpty = decide (k + 1 = L.length) := by
    by_cases hk : k + 1 = L.length
    · rw [decide_eq_true hk, List.drop_of_length_le (by omega)]; rfl
    · rw [decide_eq_false hk]
      cases hd : L.drop (k + 1) with
      | nil => have := congrArg List.length hd; simp at this; omega
      | cons _ _ => rfl
  rw [List.drop_eq_getElem_cons h, vldF, e1, e2]
/-- How long lines are. -/
def SzR (L : List Rg) : Prop := ∀ x ∈ L, (∀ s ∈ x.2.1, s.size ≤ 1000000000) ∧ (∀ s ∈ x.2.2.1, s.size ≤ 1000000000) ∧ ∀ s ∈ x.2.2.2, s.size ≤ 1000000000
theorem len_nil {l : List ByteArray} (h : l.length = 0) : l = [] := List.eq_nil_of_length_eq_zero h

set_option maxRecDepth 100000 in
set_option maxHeartbeats 4000000 in
theorem valid_any (w : World) (v : Value) (L : List Rg) (h : Rgs w v L) (hsz : SzR L) :
    Calls Try.prog 43 #[v] w fun e w' => e = .returned (.bool (vldF false L)) ∧ Below w.heap.size w w' := by
  obtain ⟨A, c, rfl, hc, hm⟩ := h.form
  have HSZ := Lib.hid hsz
  clear hsz
  go_enter Try.func43, Try.ntmps43
  go_wp2
  go_loopw [8] (fun i wr => ∃ k : Nat, k ≤ L.length ∧ i = .int .i64 k ∧ Hid (vldF false L = vldF (prevP L k) (L.drop k)) ∧ Below w.heap.size w wr) (fun i _ => L.length - (intOf i).toNat)
  case atStart => exact ⟨0, by omega, rfl, rfl, Below.refl _ _⟩
  case round =>
    obtain ⟨k, hk, rfl, HK, hb⟩ := hrel
    by_cases hlt : k < L.length
    · obtain ⟨b, off, v1, v2, v3, rfl, a1, a2, a3, a4, a5, a6, a7⟩ := (h.keep (Keeps.of_below hb)).get hlt
      have hs := HSZ.out L[k] (List.getElem_mem hlt)
      have HS := Lib.hid (vld_at hlt)
      have hprev : 0 < k → ∃ x0 : Bool, prevP L k = !x0 ∧ wr.cell? ⟨b, off + (k - 1) * 4, none⟩ = some (.bool x0) := fun h0 => by
        obtain ⟨b', off', _, _, _, e, q1, _⟩ := (h.keep (Keeps.of_below hb)).get (i := k - 1) (by omega)
        cases e
        refine ⟨_, ?_, q1⟩
        obtain ⟨j, rfl⟩ : ∃ j, k = j + 1 := ⟨k - 1, by omega⟩
        show (match L[j]? with | some x => !x.1 | none => false) = _
        rw [List.getElem?_eq_getElem (by omega)]
        rfl
      have HPR := Lib.hid hprev
      clear hprev
      generalize L[k] = x at *
      generalize hpp : prevP L k = pp at *
      have HPP := Lib.hid hpp
      clear hpp
      obtain ⟨x1, xb, xl, xr⟩ := x
      obtain ⟨s1, s2, s3⟩ := hs
      obtain ⟨last, hlast⟩ : ∃ last, decide (k + 1 = L.length) = last := ⟨_, rfl⟩
      rw [hlast] at HS
      have hq : ((k : Int) == (L.length : Int) - 1) = last := by
        rw [← hlast]
        by_cases hkl : k + 1 = L.length
        · rw [decide_eq_true hkl, beq_iff_eq]; omega
        · rw [decide_eq_false hkl, beq_eq_false_iff_ne]; omega
      clear hlast
      have ka := Keeps.alloc wr (.cells #[.bool x1, v1, v2, v3] 58)
      have V1 := Lib.hid (validLines_any _ v1 xb last (a5.keep ka) s1)
      have V2 := Lib.hid (validLines_any _ v2 xl last (a6.keep ka) s2)
      have V3 := Lib.hid (validLines_any _ v3 xr last (a7.keep ka) s3)
      have E1 := Lib.hid (equal_any _ v1 v2 xb xl (a5.keep ka) (a6.keep ka))
      have E2 := Lib.hid fun n => equal_any _ v1 v3 xb xr ((a5.keep ka).keep (Keeps.drewN _ n)) ((a7.keep ka).keep (Keeps.drewN _ n))
      have E3 := Lib.hid fun n => equal_any _ v2 v3 xl xr ((a6.keep ka).keep (Keeps.drewN _ n)) ((a7.keep ka).keep (Keeps.drewN _ n))
      have hb2 := hb.alloc hb.size (.cells #[.bool x1, v1, v2, v3] 58)
      have hbd := fun n => below_drewN' hb2 n
      have HBD := Lib.hid hbd
      have HLN : Hid (lnB last (x1, xb, xl, xr) = (linesB last xb && (linesB last xl && linesB last xr))) := rfl
      obtain ⟨A1, c1, rfl, _, _⟩ := a5.form
      obtain ⟨A2, c2, rfl, _, _⟩ := a6.form
      obtain ⟨A3, c3, rfl, _, _⟩ := a7.form
      simp only at a1 a2 a3 a4
      clear a5 a6 a7 s1 s2 s3 ka hbd hb
      generalize linesB last xb = l1 at *
      generalize linesB last xl = l2 at *
      generalize linesB last xr = l3 at *
      cases l1
      · have HE : Hid (vldF false L = false) := by show _ = _; rw [HK.out, HS.out, HLN.out, Bool.false_and, Bool.false_and]
        clear HS HK HPR
        go_wp2_with fail
        refine V1.out.mono ?_
        rintro e w1 ⟨rfl, rfl⟩
        go_wp2
        go_ret
        exact ⟨ret_bool HE.out.symm, hb2⟩
      · cases l2
        · have HE : Hid (vldF false L = false) := by show _ = _; rw [HK.out, HS.out, HLN.out, Bool.true_and, Bool.false_and, Bool.false_and]
          clear HS HK HPR
          go_wp2_with fail
          refine V1.out.mono ?_
          rintro e w1 ⟨rfl, rfl⟩
          go_wp2_with fail
          refine V2.out.mono ?_
          rintro e w1 ⟨rfl, rfl⟩
          go_wp2
          go_ret
          exact ⟨ret_bool HE.out.symm, hb2⟩
        · cases l3
          · have HE : Hid (vldF false L = false) := by show _ = _; rw [HK.out, HS.out, HLN.out, Bool.true_and, Bool.true_and, Bool.false_and]
            clear HS HK HPR
            go_wp2_with fail
            refine V1.out.mono ?_
            rintro e w1 ⟨rfl, rfl⟩
            go_wp2_with fail
            refine V2.out.mono ?_
            rintro e w1 ⟨rfl, rfl⟩
            go_wp2_with fail
            refine V3.out.mono ?_
            rintro e w1 ⟨rfl, rfl⟩
            go_wp2
            go_ret
            exact ⟨ret_bool HE.out.symm, hb2⟩
          · have HS2 : Hid (vldF (prevP L k) (L.drop k) = (okB pp (x1, xb, xl, xr) && vldF (prevP L (k + 1)) (L.drop (k + 1)))) := by show _ = _; rw [HPP.out, HS.out, HLN.out]; rfl
            clear HS HLN
            rw [HPP.out] at HS2
            have HS := HS2
            clear HS2
            cases x1
            · have HO : Hid (okB pp (false, xb, xl, xr) = (!eqB xl [] && (eqB xb [] && (eqB xr [] && !pp)))) := rfl
              clear E1 E2 E3
              by_cases q1 : xl.length = 0
              · have q1e : ((xl.length : Int) == 0) = true := by rw [beq_iff_eq]; omega
                have q1n := Lib.hid (len_nil q1)
                clear q1
                have HE : Hid (vldF false L = false) := by show _ = _; rw [HK.out, HS.out, HO.out, eqB_true q1n.out]; rfl
                clear HS HK HPR
                go_wp2_with fail
                refine V1.out.mono ?_
                rintro e w1 ⟨rfl, rfl⟩
                go_wp2_with fail
                refine V2.out.mono ?_
                rintro e w1 ⟨rfl, rfl⟩
                go_wp2_with fail
                refine V3.out.mono ?_
                rintro e w1 ⟨rfl, rfl⟩
                go_wp2
                go_ret
                exact ⟨ret_bool HE.out.symm, hb2⟩
              · have q1e : ((xl.length : Int) == 0) = false := by rw [beq_eq_false_iff_ne]; omega
                have q1n : Hid (eqB xl [] = false) := eqB_false (fun e => q1 (by rw [e]; rfl))
                clear q1
                by_cases q2 : 0 < xb.length
                · have q2n : Hid (eqB xb [] = false) := eqB_false (fun e => by rw [e] at q2; cases q2)
                  have HE : Hid (vldF false L = false) := by show _ = _; rw [HK.out, HS.out, HO.out, q1n.out, q2n.out]; rfl
                  clear HS HK HPR
                  go_wp2_with fail
                  refine V1.out.mono ?_
                  rintro e w1 ⟨rfl, rfl⟩
                  go_wp2_with fail
                  refine V2.out.mono ?_
                  rintro e w1 ⟨rfl, rfl⟩
                  go_wp2_with fail
                  refine V3.out.mono ?_
                  rintro e w1 ⟨rfl, rfl⟩
                  go_wp2
                  go_ret
                  exact ⟨ret_bool HE.out.symm, hb2⟩
                · have q2n : Hid (eqB xb [] = true) := eqB_true (len_nil (by omega))
                  by_cases q3 : 0 < xr.length
                  · have q3n : Hid (eqB xr [] = false) := eqB_false (fun e => by rw [e] at q3; cases q3)
                    have HE : Hid (vldF false L = false) := by show _ = _; rw [HK.out, HS.out, HO.out, q1n.out, q2n.out, q3n.out]; rfl
                    clear HS HK HPR
                    go_wp2_with fail
                    refine V1.out.mono ?_
                    rintro e w1 ⟨rfl, rfl⟩
                    go_wp2_with fail
                    refine V2.out.mono ?_
                    rintro e w1 ⟨rfl, rfl⟩
                    go_wp2_with fail
                    refine V3.out.mono ?_
                    rintro e w1 ⟨rfl, rfl⟩
                    go_wp2
                    go_ret
                    exact ⟨ret_bool HE.out.symm, hb2⟩
                  · have q3n : Hid (eqB xr [] = true) := eqB_true (len_nil (by omega))
                    have HO2 : Hid (okB pp (false, xb, xl, xr) = !pp) := by show _ = _; rw [HO.out, q1n.out, q2n.out, q3n.out]; rfl
                    clear HO q1n q2n q3n
                    by_cases hk0 : 0 < k
                    · obtain ⟨x0, e0, r0⟩ := HPR.out hk0
                      have hidx : ((k : Int) - 1).toNat = k - 1 := by omega
                      have r1 := Keeps.alloc wr (.cells #[.bool false, .slice A1 xb.length c1, .slice A2 xl.length c2, .slice A3 xr.length c3] 58) _ _ _ r0
                      cases x0
                      · have e0 := Lib.hid e0
                        have HE : Hid (vldF false L = false) := by show _ = _; rw [HK.out, HS.out, HO2.out, e0.out]; rfl
                        clear HS HK HPR
                        go_wp2_with fail
                        refine V1.out.mono ?_
                        rintro e w1 ⟨rfl, rfl⟩
                        go_wp2_with fail
                        refine V2.out.mono ?_
                        rintro e w1 ⟨rfl, rfl⟩
                        go_wp2_with fail
                        refine V3.out.mono ?_
                        rintro e w1 ⟨rfl, rfl⟩
                        go_wp2
                        go_ret
                        exact ⟨ret_bool HE.out.symm, hb2⟩
                      · have e0 := Lib.hid e0
                        have HE : Hid (vldF false L = vldF (prevP L (k + 1)) (L.drop (k + 1))) := by show _ = _; rw [HK.out, HS.out, HO2.out, e0.out]; rfl
                        clear HS HK HPR
                        go_wp2_with fail
                        refine V1.out.mono ?_
                        rintro e w1 ⟨rfl, rfl⟩
                        go_wp2_with fail
                        refine V2.out.mono ?_
                        rintro e w1 ⟨rfl, rfl⟩
                        go_wp2_with fail
                        refine V3.out.mono ?_
                        rintro e w1 ⟨rfl, rfl⟩
                        go_wp2
                        go_roundw
                        case rel => exact ⟨k + 1, by omega, by go_num, HE, hb2⟩
                        case measure => simp [intOf]; omega
                    · have e0 : Hid (pp = false) := by have := HPP.out; rw [show k = 0 by omega] at this; exact this.symm
                      have HE : Hid (vldF false L = vldF (prevP L (k + 1)) (L.drop (k + 1))) := by show _ = _; rw [HK.out, HS.out, HO2.out, e0.out]; rfl
                      clear HS HK HPR
                      go_wp2_with fail
                      refine V1.out.mono ?_
                      rintro e w1 ⟨rfl, rfl⟩
                      go_wp2_with fail
                      refine V2.out.mono ?_
                      rintro e w1 ⟨rfl, rfl⟩
                      go_wp2_with fail
                      refine V3.out.mono ?_
                      rintro e w1 ⟨rfl, rfl⟩
                      go_wp2
                      go_roundw
                      case rel => exact ⟨k + 1, by omega, by go_num, HE, hb2⟩
                      case measure => simp [intOf]; omega
            · have HO : Hid (okB pp (true, xb, xl, xr) = (!eqB xb xl && (!eqB xb xr && !eqB xl xr))) := rfl
              clear HPR
              generalize eqB xb xl = g1 at *
              generalize eqB xb xr = g2 at *
              generalize eqB xl xr = g3 at *
              cases g1
              · cases g2
                · cases g3
                  · have HE : Hid (vldF false L = vldF (prevP L (k + 1)) (L.drop (k + 1))) := by show _ = _; rw [HK.out, HS.out, HO.out]; rfl
                    clear HS HK
                    go_wp2_with fail
                    refine V1.out.mono ?_
                    rintro e w1 ⟨rfl, rfl⟩
                    go_wp2_with fail
                    refine V2.out.mono ?_
                    rintro e w1 ⟨rfl, rfl⟩
                    go_wp2_with fail
                    refine V3.out.mono ?_
                    rintro e w1 ⟨rfl, rfl⟩
                    go_wp2_with fail
                    refine E1.out.mono ?_
                    rintro e w1 ⟨rfl, n, rfl⟩
                    go_wp2_with fail
                    refine (E2.out n).mono ?_
                    rintro e w1 ⟨rfl, m, rfl⟩
                    go_wp2_with fail
                    refine (E3.out (n + m)).mono ?_
                    rintro e w1 ⟨rfl, o, rfl⟩
                    go_wp2
                    go_roundw
                    case rel => exact ⟨k + 1, by omega, by go_num, HE, HBD.out _⟩
                    case measure => simp [intOf]; omega
                  · have HE : Hid (vldF false L = false) := by show _ = _; rw [HK.out, HS.out, HO.out]; rfl
                    clear HS HK
                    go_wp2_with fail
                    refine V1.out.mono ?_
                    rintro e w1 ⟨rfl, rfl⟩
                    go_wp2_with fail
                    refine V2.out.mono ?_
                    rintro e w1 ⟨rfl, rfl⟩
                    go_wp2_with fail
                    refine V3.out.mono ?_
                    rintro e w1 ⟨rfl, rfl⟩
                    go_wp2_with fail
                    refine E1.out.mono ?_
                    rintro e w1 ⟨rfl, n, rfl⟩
                    go_wp2_with fail
                    refine (E2.out n).mono ?_
                    rintro e w1 ⟨rfl, m, rfl⟩
                    go_wp2_with fail
                    refine (E3.out (n + m)).mono ?_
                    rintro e w1 ⟨rfl, o, rfl⟩
                    go_wp2
                    go_ret
                    exact ⟨ret_bool HE.out.symm, HBD.out _⟩
                · have HE : Hid (vldF false L = false) := by show _ = _; rw [HK.out, HS.out, HO.out]; rfl
                  clear HS HK
                  go_wp2_with fail
                  refine V1.out.mono ?_
                  rintro e w1 ⟨rfl, rfl⟩
                  go_wp2_with fail
                  refine V2.out.mono ?_
                  rintro e w1 ⟨rfl, rfl⟩
                  go_wp2_with fail
                  refine V3.out.mono ?_
                  rintro e w1 ⟨rfl, rfl⟩
                  go_wp2_with fail
                  refine E1.out.mono ?_
                  rintro e w1 ⟨rfl, n, rfl⟩
                  go_wp2_with fail
                  refine (E2.out n).mono ?_
                  rintro e w1 ⟨rfl, m, rfl⟩
                  go_wp2
                  go_ret
                  exact ⟨ret_bool HE.out.symm, HBD.out _⟩
              · have HE : Hid (vldF false L = false) := by show _ = _; rw [HK.out, HS.out, HO.out]; rfl
                clear HS HK
                go_wp2_with fail
                refine V1.out.mono ?_
                rintro e w1 ⟨rfl, rfl⟩
                go_wp2_with fail
                refine V2.out.mono ?_
                rintro e w1 ⟨rfl, rfl⟩
                go_wp2_with fail
                refine V3.out.mono ?_
                rintro e w1 ⟨rfl, rfl⟩
                go_wp2_with fail
                refine E1.out.mono ?_
                rintro e w1 ⟨rfl, n, rfl⟩
                go_wp2
                go_ret
                exact ⟨ret_bool HE.out.symm, HBD.out _⟩
    · have HE : Hid (vldF false L = true) := by show _ = _; rw [HK.out, List.drop_of_length_le (by omega)]; rfl
      go_wp2
      go_ret
      exact ⟨ret_bool HE.out.symm, hb⟩
end Go.Proofs.Ythobbcafemkhbaa
