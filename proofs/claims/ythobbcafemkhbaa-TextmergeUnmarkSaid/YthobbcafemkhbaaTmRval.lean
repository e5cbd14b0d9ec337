/- cordwoodref19.Valid. -/
import Derived.Test.YthobbcafemkhbaaTmVld
import Derived.Test.YthobbcafemkhbaaTmMark
namespace Go.Proofs.Ythobbcafemkhbaa
open Go.RowKit

set_option maxRecDepth 100000 in
set_option maxHeartbeats 4000000 in
theorem rvalid_any (w : World) (v : Value) (L : List Rg) (h : Rgs w v L) (hsz : SzR L) :
    Calls Try.prog 49 #[v] w fun e w' => e = .returned (.bool (vldF false L)) ∧ Below w.heap.size w w' := by
  obtain ⟨A, c, rfl, hc, hm⟩ := h.form
  have HSZ := Lib.hid hsz
  clear hsz
  go_enter Try.func49, Try.ntmps49
  go_wp2
  go_loopw [3] (fun i wr => ∃ k : Nat, k ≤ L.length ∧ i = .int .i64 k ∧ Hid (vldF false L = vldF (prevP L k) (L.drop k)) ∧ Below w.heap.size w wr) (fun i _ => L.length - (intOf i).toNat)
  case atStart => exact ⟨0, by omega, rfl, rfl, Below.refl _ _⟩
  case round =>
    obtain ⟨k, hk, rfl, HK, hb⟩ := hrel
    by_cases hlt : k < L.length
    · obtain ⟨b, off, v1, v2, v3, rfl, a1, a2, a3, a4, a5, a6, a7⟩ := (h.keep (Keeps.of_below hb)).get hlt
      have hs := HSZ.out L[k] (List.getElem_mem hlt)
      have HS := Lib.hid (vld_at hlt)
      have hprev : 0 < k → ∃ x0 : Bool, prevP L k = !x0 ∧ wr.cell? ⟨b, off + (k - 1) * 4, none⟩ = some (.bool x0) := fun h0 => by
        obtain ⟨b', off', _, _, _, e, q1, _⟩ := (h.keep (Keeps.of_below hb)).get (i := k - 1) (by omega)
        cases e
        refine ⟨_, ?_, q1⟩
        obtain ⟨j, rfl⟩ : ∃ j, k = j + 1 := ⟨k - 1, by omega⟩
        show (match L[j]? with | some x => !x.1 | none => false) = _
        rw [List.getElem?_eq_getElem (by omega)]
        rfl
      have HPR := Lib.hid hprev
      clear hprev
      generalize L[k] = x at *
      generalize hpp : prevP L k = pp at *
      have HPP := Lib.hid hpp
      clear hpp
      obtain ⟨x1, xb, xl, xr⟩ := x
      obtain ⟨s1, s2, s3⟩ := hs
      obtain ⟨last, hlast⟩ : ∃ last, decide (k + 1 = L.length) = last := ⟨_, rfl⟩
      rw [hlast] at HS
      have hq : ((k : Int) == (L.length : Int) - 1) = last := by
        rw [← hlast]
        by_cases hkl : k + 1 = L.length
        · rw [decide_eq_true hkl, beq_iff_eq]; omega
        · rw [decide_eq_false hkl, beq_eq_false_iff_ne]; omega
      clear hlast
      have HLN : Hid (lnB last (x1, xb, xl, xr) = (linesB last xb && (linesB last xl && linesB last xr))) := rfl
      obtain ⟨A1, c1, rfl, _, _⟩ := a5.form
      obtain ⟨A2, c2, rfl, _, _⟩ := a6.form
      obtain ⟨A3, c3, rfl, _, _⟩ := a7.form
      simp only at a1 a2 a3 a4
      have ka := Keeps.alloc wr (.cells #[.bool x1, .slice A1 xb.length c1, .slice A2 xl.length c2, .slice A3 xr.length c3] 58)
      have r1 := a5.keep ka
      have r2 := a6.keep ka
      have r3 := a7.keep ka
      have hpr2 : 0 < k → ∃ x0 : Bool, pp = !x0 ∧ (wr.alloc (.cells #[.bool x1, .slice A1 xb.length c1, .slice A2 xl.length c2, .slice A3 xr.length c3] 58)).cell? ⟨b, off + (k - 1) * 4, none⟩ = some (.bool x0) := fun h0 => by
        obtain ⟨x0, e0, e1⟩ := HPR.out h0
        exact ⟨x0, e0, ka _ _ _ e1⟩
      have HPR := Lib.hid hpr2
      clear hpr2 ka a5 a6 a7
      have V1 : Hid (∀ w', Strs w' (.slice A1 xb.length c1) xb → Calls Try.prog 65 #[.slice A1 xb.length c1, .bool last] w' fun e w'' => e = .returned (.bool (linesB last xb)) ∧ Below w'.heap.size w' w'') := fun w' h => lines19_any w' _ xb last h s1
      have V2 : Hid (∀ w', Strs w' (.slice A2 xl.length c2) xl → Calls Try.prog 65 #[.slice A2 xl.length c2, .bool last] w' fun e w'' => e = .returned (.bool (linesB last xl)) ∧ Below w'.heap.size w' w'') := fun w' h => lines19_any w' _ xl last h s2
      have V3 : Hid (∀ w', Strs w' (.slice A3 xr.length c3) xr → Calls Try.prog 65 #[.slice A3 xr.length c3, .bool last] w' fun e w'' => e = .returned (.bool (linesB last xr)) ∧ Below w'.heap.size w' w'') := fun w' h => lines19_any w' _ xr last h s3
      have E1 : Hid (∀ w', Strs w' (.slice A1 xb.length c1) xb → Strs w' (.slice A2 xl.length c2) xl → Calls Try.prog 42 #[.slice A1 xb.length c1, .slice A2 xl.length c2] w' fun e w'' => e = .returned (.bool (eqB xb xl)) ∧ Drawn w' w'') := fun w' h h' => same_any w' _ _ _ _ h h'
      have E2 : Hid (∀ w', Strs w' (.slice A1 xb.length c1) xb → Strs w' (.slice A3 xr.length c3) xr → Calls Try.prog 42 #[.slice A1 xb.length c1, .slice A3 xr.length c3] w' fun e w'' => e = .returned (.bool (eqB xb xr)) ∧ Drawn w' w'') := fun w' h h' => same_any w' _ _ _ _ h h'
      have E3 : Hid (∀ w', Strs w' (.slice A2 xl.length c2) xl → Strs w' (.slice A3 xr.length c3) xr → Calls Try.prog 42 #[.slice A2 xl.length c2, .slice A3 xr.length c3] w' fun e w'' => e = .returned (.bool (eqB xl xr)) ∧ Drawn w' w'') := fun w' h h' => same_any w' _ _ _ _ h h'
      clear s1 s2 s3
      generalize linesB last xb = l1 at *
      generalize linesB last xl = l2 at *
      generalize linesB last xr = l3 at *
      go_wp2_with fail
      have hb := hb.alloc hb.size (.cells #[.bool x1, .slice A1 xb.length c1, .slice A2 xl.length c2, .slice A3 xr.length c3] 58)
      have bx := Blk.new wr #[.bool x1, .slice A1 xb.length c1, .slice A2 xl.length c2, .slice A3 xr.length c3] 58
      generalize wr.alloc (.cells #[.bool x1, .slice A1 xb.length c1, .slice A2 xl.length c2, .slice A3 xr.length c3] 58) = wa at *
      generalize wr.heap.size = g at *
      clear a1 a2 a3 a4
      refine (V1.out _ r1).mono ?_
      rintro e w1 ⟨rfl, ob⟩
      have hb := hb.trans (ob.mono hb.size)
      have bx := bx.keep ob
      have kk := Keeps.of_below ob
      have r1 := r1.keep kk
      have r2 := r2.keep kk
      have r3 := r3.keep kk
      have hpr2 : 0 < k → ∃ x0 : Bool, pp = !x0 ∧ w1.cell? ⟨b, off + (k - 1) * 4, none⟩ = some (.bool x0) := fun h0 => by
        obtain ⟨x0, e0, e1⟩ := HPR.out h0
        exact ⟨x0, e0, kk _ _ _ e1⟩
      have HPR := Lib.hid hpr2
      clear hpr2
      clear ob kk
      have d0 : w1.cell? ⟨g, 0, none⟩ = _ := bx.cell rfl
      have d1 : w1.cell? ⟨g, 1, none⟩ = _ := bx.cell rfl
      have d2 : w1.cell? ⟨g, 2, none⟩ = _ := bx.cell rfl
      have d3 : w1.cell? ⟨g, 3, none⟩ = _ := bx.cell rfl
      cases l1
      · skip
        have HE : Hid (vldF false L = false) := by show _ = _; rw [HK.out, HS.out, HLN.out]; rfl
        clear HS HK HPR
        go_wp2
        go_ret
        exact ⟨ret_bool HE.out.symm, hb⟩
      · skip
        go_wp2_with fail
        refine (V2.out _ r2).mono ?_
        rintro e w2 ⟨rfl, ob⟩
        have hb := hb.trans (ob.mono hb.size)
        have bx := bx.keep ob
        have kk := Keeps.of_below ob
        have r1 := r1.keep kk
        have r2 := r2.keep kk
        have r3 := r3.keep kk
        have hpr2 : 0 < k → ∃ x0 : Bool, pp = !x0 ∧ w2.cell? ⟨b, off + (k - 1) * 4, none⟩ = some (.bool x0) := fun h0 => by
          obtain ⟨x0, e0, e1⟩ := HPR.out h0
          exact ⟨x0, e0, kk _ _ _ e1⟩
        have HPR := Lib.hid hpr2
        clear hpr2
        clear ob kk
        have d0 : w2.cell? ⟨g, 0, none⟩ = _ := bx.cell rfl
        have d1 : w2.cell? ⟨g, 1, none⟩ = _ := bx.cell rfl
        have d2 : w2.cell? ⟨g, 2, none⟩ = _ := bx.cell rfl
        have d3 : w2.cell? ⟨g, 3, none⟩ = _ := bx.cell rfl
        cases l2
        · skip
          have HE : Hid (vldF false L = false) := by show _ = _; rw [HK.out, HS.out, HLN.out]; rfl
          clear HS HK HPR
          go_wp2
          go_ret
          exact ⟨ret_bool HE.out.symm, hb⟩
        · skip
          go_wp2_with fail
          refine (V3.out _ r3).mono ?_
          rintro e w3 ⟨rfl, ob⟩
          have hb := hb.trans (ob.mono hb.size)
          have bx := bx.keep ob
          have kk := Keeps.of_below ob
          have r1 := r1.keep kk
          have r2 := r2.keep kk
          have r3 := r3.keep kk
          have hpr2 : 0 < k → ∃ x0 : Bool, pp = !x0 ∧ w3.cell? ⟨b, off + (k - 1) * 4, none⟩ = some (.bool x0) := fun h0 => by
            obtain ⟨x0, e0, e1⟩ := HPR.out h0
            exact ⟨x0, e0, kk _ _ _ e1⟩
          have HPR := Lib.hid hpr2
          clear hpr2
          clear ob kk
          have d0 : w3.cell? ⟨g, 0, none⟩ = _ := bx.cell rfl
          have d1 : w3.cell? ⟨g, 1, none⟩ = _ := bx.cell rfl
          have d2 : w3.cell? ⟨g, 2, none⟩ = _ := bx.cell rfl
          have d3 : w3.cell? ⟨g, 3, none⟩ = _ := bx.cell rfl
          cases l3
          · skip
            have HE : Hid (vldF false L = false) := by show _ = _; rw [HK.out, HS.out, HLN.out]; rfl
            clear HS HK HPR
            go_wp2
            go_ret
            exact ⟨ret_bool HE.out.symm, hb⟩
          · skip
            have HS2 : Hid (vldF pp (L.drop k) = (okB pp (x1, xb, xl, xr) && vldF (prevP L (k + 1)) (L.drop (k + 1)))) := by show _ = _; rw [HS.out, HLN.out]; rfl
            clear HS HLN
            have HS := HS2
            clear HS2
            cases x1
            · have HO : Hid (okB pp (false, xb, xl, xr) = (!eqB xl [] && (eqB xb [] && (eqB xr [] && !pp)))) := rfl
              clear E1 E2 E3
              by_cases q1 : xl.length = 0
              · have q1e : ((xl.length : Int) == 0) = true := by rw [beq_iff_eq]; omega
                have q1n := Lib.hid (len_nil q1)
                clear q1
                have HE : Hid (vldF false L = false) := by show _ = _; rw [HK.out, HS.out, HO.out, eqB_true q1n.out]; rfl
                clear HS HK HPR
                go_wp2
                go_ret
                exact ⟨ret_bool HE.out.symm, hb⟩
              · have q1e : ((xl.length : Int) == 0) = false := by rw [beq_eq_false_iff_ne]; omega
                have q1n : Hid (eqB xl [] = false) := eqB_false (fun e => q1 (by rw [e]; rfl))
                clear q1
                by_cases q2 : 0 < xb.length
                · have q2n : Hid (eqB xb [] = false) := eqB_false (fun e => by rw [e] at q2; cases q2)
                  have HE : Hid (vldF false L = false) := by show _ = _; rw [HK.out, HS.out, HO.out, q1n.out, q2n.out]; rfl
                  clear HS HK HPR
                  go_wp2
                  go_ret
                  exact ⟨ret_bool HE.out.symm, hb⟩
                · have q2n : Hid (eqB xb [] = true) := eqB_true (len_nil (by omega))
                  by_cases q3 : 0 < xr.length
                  · have q3n : Hid (eqB xr [] = false) := eqB_false (fun e => by rw [e] at q3; cases q3)
                    have HE : Hid (vldF false L = false) := by show _ = _; rw [HK.out, HS.out, HO.out, q1n.out, q2n.out, q3n.out]; rfl
                    clear HS HK HPR
                    go_wp2
                    go_ret
                    exact ⟨ret_bool HE.out.symm, hb⟩
                  · have q3n : Hid (eqB xr [] = true) := eqB_true (len_nil (by omega))
                    have HO2 : Hid (okB pp (false, xb, xl, xr) = !pp) := by show _ = _; rw [HO.out, q1n.out, q2n.out, q3n.out]; rfl
                    clear HO q1n q2n q3n
                    by_cases hk0 : 0 < k
                    · obtain ⟨x0, e0, r0⟩ := HPR.out hk0
                      have hidx : ((k : Int) - 1).toNat = k - 1 := by omega
                      have E0 := Lib.hid e0
                      clear e0
                      cases x0
                      · skip
                        have HE : Hid (vldF false L = false) := by show _ = _; rw [HK.out, HS.out, HO2.out, E0.out]; rfl
                        clear HS HK HPR
                        go_wp2
                        go_ret
                        exact ⟨ret_bool HE.out.symm, hb⟩
                      · skip
                        have HE : Hid (vldF false L = vldF (prevP L (k + 1)) (L.drop (k + 1))) := by show _ = _; rw [HK.out, HS.out, HO2.out, E0.out]; rfl
                        clear HS HK HPR
                        go_wp2
                        go_roundw
                        case rel => exact ⟨k + 1, by omega, by go_num, HE, hb⟩
                        case measure => simp [intOf]; omega
                    · have E0 : Hid (pp = false) := by have := HPP.out; rw [show k = 0 by omega] at this; exact this.symm
                      have HE : Hid (vldF false L = vldF (prevP L (k + 1)) (L.drop (k + 1))) := by show _ = _; rw [HK.out, HS.out, HO2.out, E0.out]; rfl
                      clear HS HK HPR
                      go_wp2
                      go_roundw
                      case rel => exact ⟨k + 1, by omega, by go_num, HE, hb⟩
                      case measure => simp [intOf]; omega
            · have HO : Hid (okB pp (true, xb, xl, xr) = (!eqB xb xl && (!eqB xb xr && !eqB xl xr))) := rfl
              generalize eqB xb xl = g1 at *
              generalize eqB xb xr = g2 at *
              generalize eqB xl xr = g3 at *
              go_wp2_with fail
              refine (E1.out _ r1 r2).mono ?_
              rintro e w4 ⟨rfl, ob⟩
              have ob := ob.below w3.heap.size
              have hb := hb.trans (ob.mono hb.size)
              have bx := bx.keep ob
              have kk := Keeps.of_below ob
              have r1 := r1.keep kk
              have r2 := r2.keep kk
              have r3 := r3.keep kk
              clear ob kk
              have d0 : w4.cell? ⟨g, 0, none⟩ = _ := bx.cell rfl
              have d1 : w4.cell? ⟨g, 1, none⟩ = _ := bx.cell rfl
              have d2 : w4.cell? ⟨g, 2, none⟩ = _ := bx.cell rfl
              have d3 : w4.cell? ⟨g, 3, none⟩ = _ := bx.cell rfl
              cases g1
              · skip
                go_wp2_with fail
                refine (E2.out _ r1 r3).mono ?_
                rintro e w5 ⟨rfl, ob⟩
                have ob := ob.below w4.heap.size
                have hb := hb.trans (ob.mono hb.size)
                have bx := bx.keep ob
                have kk := Keeps.of_below ob
                have r1 := r1.keep kk
                have r2 := r2.keep kk
                have r3 := r3.keep kk
                clear ob kk
                have d0 : w5.cell? ⟨g, 0, none⟩ = _ := bx.cell rfl
                have d1 : w5.cell? ⟨g, 1, none⟩ = _ := bx.cell rfl
                have d2 : w5.cell? ⟨g, 2, none⟩ = _ := bx.cell rfl
                have d3 : w5.cell? ⟨g, 3, none⟩ = _ := bx.cell rfl
                cases g2
                · skip
                  go_wp2_with fail
                  refine (E3.out _ r2 r3).mono ?_
                  rintro e w6 ⟨rfl, ob⟩
                  have ob := ob.below w5.heap.size
                  have hb := hb.trans (ob.mono hb.size)
                  have bx := bx.keep ob
                  have kk := Keeps.of_below ob
                  have r1 := r1.keep kk
                  have r2 := r2.keep kk
                  have r3 := r3.keep kk
                  clear ob kk
                  have d0 : w6.cell? ⟨g, 0, none⟩ = _ := bx.cell rfl
                  have d1 : w6.cell? ⟨g, 1, none⟩ = _ := bx.cell rfl
                  have d2 : w6.cell? ⟨g, 2, none⟩ = _ := bx.cell rfl
                  have d3 : w6.cell? ⟨g, 3, none⟩ = _ := bx.cell rfl
                  cases g3
                  · skip
                    have HE : Hid (vldF false L = vldF (prevP L (k + 1)) (L.drop (k + 1))) := by show _ = _; rw [HK.out, HS.out, HO.out]; rfl
                    clear HS HK HPR
                    go_wp2
                    go_roundw
                    case rel => exact ⟨k + 1, by omega, by go_num, HE, hb⟩
                    case measure => simp [intOf]; omega
                  · skip
                    have HE : Hid (vldF false L = false) := by show _ = _; rw [HK.out, HS.out, HO.out]; rfl
                    clear HS HK HPR
                    go_wp2
                    go_ret
                    exact ⟨ret_bool HE.out.symm, hb⟩
                · skip
                  have HE : Hid (vldF false L = false) := by show _ = _; rw [HK.out, HS.out, HO.out]; rfl
                  clear HS HK HPR
                  go_wp2
                  go_ret
                  exact ⟨ret_bool HE.out.symm, hb⟩
              · skip
                have HE : Hid (vldF false L = false) := by show _ = _; rw [HK.out, HS.out, HO.out]; rfl
                clear HS HK HPR
                go_wp2
                go_ret
                exact ⟨ret_bool HE.out.symm, hb⟩
    · have HE : Hid (vldF false L = true) := by show _ = _; rw [HK.out, List.drop_of_length_le (by omega)]; rfl
      go_wp2
      go_ret
      exact ⟨ret_bool HE.out.symm, hb⟩
end Go.Proofs.Ythobbcafemkhbaa
