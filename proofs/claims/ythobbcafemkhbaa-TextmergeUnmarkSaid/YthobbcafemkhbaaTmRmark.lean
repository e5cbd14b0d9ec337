/- cordwoodref19.Mark, cordwoodref19.Clean. cordwoodref19.Clean. -/
import Derived.Test.YthobbcafemkhbaaTmRval
import Derived.Test.YthobbcafemkhbaaTmUnmP
import Derived.Test.YthobbcafemkhbaaTmCount
import Derived.Test.YthobbcafemkhbaaTmStl
import Derived.Test.YthobbcafemkhbaaText
import Derived.Test.YthobbcafemkhbaaTmVldP
namespace Go.Proofs.Ythobbcafemkhbaa
open Go.RowKit
set_option linter.unusedVariables false

theorem textB_le {a b : List ByteArray} : (textB a).size ≤ (textB (a ++ b)).size := by rw [textB_append, ByteArray.size_append]; omega
theorem mkAll_take {L : List Rg} {k : Nat} (h : k < L.length) : mkAll (L.take (k + 1)) = mkAll (L.take k) ++ mkLines L[k] := by
  rw [List.take_succ_eq_append_getElem h, mkAll_snoc]
theorem mkAll_le (L : List Rg) (k : Nat) : (textB (mkAll (L.take k))).size ≤ (textB (mkAll L)).size := by
  have : mkAll L = mkAll (L.take k) ++ mkAll (L.drop k) := by
    unfold mkAll; rw [← List.flatMap_append, List.take_append_drop]
  rw [this]; exact textB_le
theorem ret_si {p : ByteArray × Int} {s : ByteArray} {z : Int} (h : p = (s, z)) : Ending.returned (.tuple #[.string s, .int .i64 z]) = .returned (.tuple #[.string p.1, .int .i64 p.2]) := by rw [h]
theorem markS_bad {L : List Rg} (h : vldF false L = false) : markS L = (⟨#[]⟩, 1) := by unfold markS; rw [if_neg (by rw [h]; simp)]
theorem markS_unf {L : List Rg} (h : vldF false L = true) {k : Nat} (hk : k < L.length) (hu : unfR L[k] = true) : markS L = (⟨#[]⟩, 3) := by
  unfold markS; rw [if_pos h, if_pos (List.any_eq_true.2 ⟨_, List.getElem_mem hk, hu⟩)]
theorem markS_ok {L : List Rg} (h : vldF false L = true) {k : Nat} (hk : ¬ k < L.length) (hu : ∀ j, j < k → (hj : j < L.length) → unfR L[j] = false) : markS L = (textB (mkAll L), 0) := by
  have : L.any unfR = false := any_unf.2 fun x hx => by
    obtain ⟨j, hj, rfl⟩ := List.getElem_of_mem hx
    exact hu j (by omega) hj
  unfold markS; rw [if_pos h, this]; simp
theorem below_k {k : Nat} {L : List Rg} (h : ∀ j, j < k → (hj : j < L.length) → unfR L[j] = false) {hk : k < L.length} (h1 : unfR L[k] = false) : ∀ j, j < k + 1 → (hj : j < L.length) → unfR L[j] = false := fun j hj hl => by
  rcases Nat.lt_or_ge j k with h2 | h2
  · exact h j h2 hl
  · have : j = k := by omega
    subst this; exact h1
/-- The text of a conflict. -/
theorem mk_conf (b l r : List ByteArray) : textB (mkLines (true, b, l, r)) = mk0 ++ textB l ++ mk1 ++ textB b ++ mk2 ++ textB r ++ mk3 := by
  have e : mkLines (true, b, l, r) = [mk0] ++ l ++ [mk1] ++ b ++ [mk2] ++ r ++ [mk3] := by unfold mkLines; simp
  rw [e]
  simp only [textB_append, textB_one]
theorem mk_plain (b l r : List ByteArray) : textB (mkLines (false, b, l, r)) = textB l := rfl

set_option maxRecDepth 100000 in
set_option maxHeartbeats 4000000 in
theorem rmark_any (w : World) (v : Value) (L : List Rg) (h : Rgs w v L) (hsz : SzR L) (hlen : L.length ≤ 100000) (hl : LnR 100000 L) (hT : (textB (mkAll L)).size ≤ 100000000) :
    Calls Try.prog 30 #[v] w fun e w' => e = .returned (.tuple #[.string (markS L).1, .int .i64 (markS L).2]) ∧ Below w.heap.size w w' := by
  have cv := Lib.hid (rvalid_any w v L h hsz)
  have HSZ := Lib.hid hsz
  have HL := Lib.hid hl
  clear hsz hl
  obtain ⟨A, c, rfl, hc, hm⟩ := h.form
  cases hv : vldF false L
  · have HE := Lib.hid (markS_bad hv)
    rw [hv] at cv
    clear hv
    go_enter Try.func30, Try.ntmps30
    go_wp2_with fail
    refine cv.out.mono ?_
    rintro e w1 ⟨rfl, hb⟩
    go_wp2
    go_ret2
    exact ⟨ret_si HE.out, hb⟩
  · have HV := Lib.hid hv
    rw [hv] at cv
    clear hv
    go_enter Try.func30, Try.ntmps30
    go_wp2_with fail
    refine cv.out.mono ?_
    rintro e w1 ⟨rfl, hb⟩
    clear cv
    go_wp2_with fail
    refine (markers_any w1).mono ?_
    rintro e w2 ⟨vm, rfl, hm2, b2⟩
    have hb := hb.trans (b2.mono hb.size)
    obtain ⟨Am, cm, rfl, hcm, hcm2⟩ := hm2.form
    have hl4 : mks.length = 4 := rfl
    rw [hl4] at hm2 hcm
    rw [hl4]
    clear b2 hl4
    have HT : Hid (∀ k, (textB (mkAll (L.take k))).size ≤ 100000000) := fun k => Nat.le_trans (mkAll_le L k) hT
    have HFin : Hid (L.take L.length = L) := List.take_length
    go_wp2_with fail
    go_loopw [4, 6] (fun s t wr => ∃ k : Nat, k ≤ L.length ∧ t = .int .i64 k ∧ s = .string (textB (mkAll (L.take k))) ∧ Hid (∀ j, j < k → (hj : j < L.length) → unfR L[j] = false) ∧ Below w2.heap.size w2 wr) (fun _ t _ => L.length - (intOf t).toNat)
    case atStart => exact ⟨0, by omega, rfl, rfl, fun j hj => absurd hj (by omega), Below.refl _ _⟩
    case round =>
      obtain ⟨k, hk, rfl, rfl, HU, h2⟩ := hrel
      have hbr := hb.trans (h2.mono hb.size)
      by_cases hlt : k < L.length
      · obtain ⟨b, off, v1, v2, v3, rfl, a1, a2, a3, a4, a5, a6, a7⟩ := (h.keep (Keeps.of_below hbr)).get hlt
        obtain ⟨s1, s2, s3⟩ := HSZ.out L[k] (List.getElem_mem hlt)
        obtain ⟨n1, n2, n3⟩ := HL.out L[k] (List.getElem_mem hlt)
        have HBAD : Hid (unfR L[k] = true → markS L = (⟨#[]⟩, 3)) := fun hu => markS_unf HV.out hlt hu
        have HOK : Hid (unfR L[k] = false → ∀ j, j < k + 1 → (hj : j < L.length) → unfR L[j] = false) := fun hu => below_k (hk := hlt) HU.out hu
        have HTX : Hid (textB (mkAll (L.take (k + 1))) = textB (mkAll (L.take k)) ++ textB (mkLines L[k])) := by show _ = _; rw [mkAll_take hlt, textB_append]
        have hsT := HT.out (k + 1)
        rw [HTX.out, ByteArray.size_append] at hsT
        have HUR : Hid (unfR L[k] = (unfB L[k].1 L[k].2.1 || (unfB L[k].1 L[k].2.2.1 || unfB L[k].1 L[k].2.2.2))) := rfl
        generalize textB (mkAll (L.take k)) = T at *
        generalize L[k] = x at *
        obtain ⟨x1, xb, xl, xr⟩ := x
        obtain ⟨A1, c1, rfl, _, _⟩ := a5.form
        obtain ⟨A2, c2, rfl, _, _⟩ := a6.form
        obtain ⟨A3, c3, rfl, _, _⟩ := a7.form
        simp only at a1 a2 a3 a4 s1 s2 s3 n1 n2 n3 HUR
        have U1 : Hid (∀ w', Strs w' (.slice A1 xb.length c1) xb → Calls Try.prog 55 #[.slice A1 xb.length c1, .bool x1] w' fun e w'' => e = .returned (.bool (unfB x1 xb)) ∧ Below w'.heap.size w' w'') := fun w' h => unfit_any w' _ xb x1 h s1
        have U2 : Hid (∀ w', Strs w' (.slice A2 xl.length c2) xl → Calls Try.prog 55 #[.slice A2 xl.length c2, .bool x1] w' fun e w'' => e = .returned (.bool (unfB x1 xl)) ∧ Below w'.heap.size w' w'') := fun w' h => unfit_any w' _ xl x1 h s2
        have U3 : Hid (∀ w', Strs w' (.slice A3 xr.length c3) xr → Calls Try.prog 55 #[.slice A3 xr.length c3, .bool x1] w' fun e w'' => e = .returned (.bool (unfB x1 xr)) ∧ Below w'.heap.size w' w'') := fun w' h => unfit_any w' _ xr x1 h s3
        clear s1 s2 s3
        generalize unfB x1 xb = u1 at *
        generalize unfB x1 xl = u2 at *
        generalize unfB x1 xr = u3 at *
        have hb3 := h2.alloc h2.size (.cells #[.bool x1, .slice A1 xb.length c1, .slice A2 xl.length c2, .slice A3 xr.length c3] 58)
        have bx := Blk.new wr #[.bool x1, .slice A1 xb.length c1, .slice A2 xl.length c2, .slice A3 xr.length c3] 58
        have ka := Keeps.alloc wr (.cells #[.bool x1, .slice A1 xb.length c1, .slice A2 xl.length c2, .slice A3 xr.length c3] 58)
        have r1 := a5.keep ka
        have r2 := a6.keep ka
        have r3 := a7.keep ka
        go_wp2_with fail
        generalize wr.alloc (.cells #[.bool x1, .slice A1 xb.length c1, .slice A2 xl.length c2, .slice A3 xr.length c3] 58) = wa at *
        generalize wr.heap.size = g at *
        clear a1 a2 a3 a4 a5 a6 a7 ka h2 hbr
        refine (U1.out _ r1).mono ?_
        rintro e w3 ⟨rfl, ob⟩
        have hb3 := hb3.trans (ob.mono hb3.size)
        have bx := bx.keep ob
        have r2 := r2.keep (Keeps.of_below ob)
        have r3 := r3.keep (Keeps.of_below ob)
        have r1 := r1.keep (Keeps.of_below ob)
        clear ob U1
        have d0 : w3.cell? ⟨g, 0, none⟩ = _ := bx.cell rfl
        have d2 : w3.cell? ⟨g, 2, none⟩ = _ := bx.cell rfl
        cases u1
        · go_wp2_with fail
          refine (U2.out _ r2).mono ?_
          rintro e w4 ⟨rfl, ob⟩
          have hb3 := hb3.trans (ob.mono hb3.size)
          have bx := bx.keep ob
          have r2 := r2.keep (Keeps.of_below ob)
          have r3 := r3.keep (Keeps.of_below ob)
          have r1 := r1.keep (Keeps.of_below ob)
          clear ob U2 d0 d2
          have d0 : w4.cell? ⟨g, 0, none⟩ = _ := bx.cell rfl
          have d3 : w4.cell? ⟨g, 3, none⟩ = _ := bx.cell rfl
          cases u2
          · go_wp2_with fail
            refine (U3.out _ r3).mono ?_
            rintro e w5 ⟨rfl, ob⟩
            have hb3 := hb3.trans (ob.mono hb3.size)
            have hb5 := hb.trans (hb3.mono hb.size)
            have bx := bx.keep ob
            have r2 := r2.keep (Keeps.of_below ob)
            have r3 := r3.keep (Keeps.of_below ob)
            have r1 := r1.keep (Keeps.of_below ob)
            clear ob U3 d0 d3
            cases u3
            · have HU2 := Lib.hid (HOK.out (by rw [HUR.out]; rfl))
              clear HUR HBAD HOK HU
              have d0 : w5.cell? ⟨g, 0, none⟩ = _ := bx.cell rfl
              have d1 : w5.cell? ⟨g, 1, none⟩ = _ := bx.cell rfl
              have d2 : w5.cell? ⟨g, 2, none⟩ = _ := bx.cell rfl
              have d3 : w5.cell? ⟨g, 3, none⟩ = _ := bx.cell rfl
              cases x1
              · rw [mk_plain] at HTX hsT
                have CT := Lib.hid (rtext_any w5 _ xl r2 n2 (by omega))
                clear r1 r2 r3 n1 n2 n3
                generalize textB xl = tl at *
                go_wp2_with fail
                refine CT.out.mono ?_
                rintro e w6 ⟨rfl, nd, rfl⟩
                have hb6 := below_drewN' hb3 nd
                generalize w5.drewN nd = w6 at *
                clear CT d0 d1 d2 d3
                go_wp2
                go_roundw
                case rel => exact ⟨k + 1, by omega, by go_num, by rw [HTX.out], HU2, hb6⟩
                case measure => simp [intOf]; omega
              · rw [mk_conf] at HTX hsT
                simp only [ByteArray.size_append] at hsT
                have z0 : mk0.size = 8 := rfl
                have z1 : mk1.size = 8 := rfl
                have z2 : mk2.size = 8 := rfl
                have z3 : mk3.size = 8 := rfl
                have cB := fun n => rtext_any (w5.drewN n) _ xb (r1.keep (Keeps.drewN w5 n)) n1 (by omega)
                have cL := fun n => rtext_any (w5.drewN n) _ xl (r2.keep (Keeps.drewN w5 n)) n2 (by omega)
                have cR := fun n => rtext_any (w5.drewN n) _ xr (r3.keep (Keeps.drewN w5 n)) n3 (by omega)
                have hm5 := hm2.keep (Keeps.of_below hb3)
                obtain ⟨bm, om, rfl, p0⟩ := hm5.get (i := 0) (by decide)
                obtain ⟨_, _, e1, p1⟩ := hm5.get (i := 1) (by decide)
                cases e1
                obtain ⟨_, _, e1, p2⟩ := hm5.get (i := 2) (by decide)
                cases e1
                obtain ⟨_, _, e1, p3⟩ := hm5.get (i := 3) (by decide)
                cases e1
                have m0 : w5.cell? ⟨bm, om, none⟩ = some (.string mk0) := p0
                have m1 : w5.cell? ⟨bm, om + 1, none⟩ = some (.string mk1) := p1
                have m2 : w5.cell? ⟨bm, om + 2, none⟩ = some (.string mk2) := p2
                have m3 : w5.cell? ⟨bm, om + 3, none⟩ = some (.string mk3) := p3
                clear p0 p1 p2 p3
                have HTX2 : Hid (textB (mkAll (L.take (k + 1))) = T ++ mk0 ++ textB xl ++ mk1 ++ textB xb ++ mk2 ++ textB xr ++ mk3) := by
                  show _ = _; rw [HTX.out]; simp only [ByteArray.append_assoc]
                have y1 : (T ++ mk0).size = T.size + mk0.size := ByteArray.size_append
                have y2 : (T ++ mk0 ++ textB xl).size = T.size + mk0.size + (textB xl).size := by simp only [ByteArray.size_append]
                have y3 : (T ++ mk0 ++ textB xl ++ mk1).size = T.size + mk0.size + (textB xl).size + mk1.size := by simp only [ByteArray.size_append]
                have y4 : (T ++ mk0 ++ textB xl ++ mk1 ++ textB xb).size = T.size + mk0.size + (textB xl).size + mk1.size + (textB xb).size := by simp only [ByteArray.size_append]
                have y5 : (T ++ mk0 ++ textB xl ++ mk1 ++ textB xb ++ mk2).size = T.size + mk0.size + (textB xl).size + mk1.size + (textB xb).size + mk2.size := by simp only [ByteArray.size_append]
                have y6 : (T ++ mk0 ++ textB xl ++ mk1 ++ textB xb ++ mk2 ++ textB xr).size = T.size + mk0.size + (textB xl).size + mk1.size + (textB xb).size + mk2.size + (textB xr).size := by simp only [ByteArray.size_append]
                clear hm5 HTX r1 r2 r3 n1 n2 n3
                generalize textB xl = tl at *
                generalize textB xb = tb at *
                generalize textB xr = tr at *
                generalize mk0 = q0 at *
                generalize mk1 = q1 at *
                generalize mk2 = q2 at *
                generalize mk3 = q3 at *
                have s1 : (T ++ q0).size ≤ 200000000 := by omega
                have s2 : (T ++ q0 ++ tl).size ≤ 200000000 := by omega
                have s3 : (T ++ q0 ++ tl ++ q1).size ≤ 200000000 := by omega
                have s4 : (T ++ q0 ++ tl ++ q1 ++ tb).size ≤ 200000000 := by omega
                have s5 : (T ++ q0 ++ tl ++ q1 ++ tb ++ q2).size ≤ 200000000 := by omega
                have s6 : (T ++ q0 ++ tl ++ q1 ++ tb ++ q2 ++ tr).size ≤ 200000000 := by omega
                clear y1 y2 y3 y4 y5 y6
                have g0 : q0.size ≤ 8 := by omega
                have g1 : q1.size ≤ 8 := by omega
                have g2 : q2.size ≤ 8 := by omega
                have g3 : q3.size ≤ 8 := by omega
                have b0 : T.size ≤ 100000000 := by omega
                have b1 : tl.size ≤ 100000000 := by omega
                have b2 : tb.size ≤ 100000000 := by omega
                have b3 : tr.size ≤ 100000000 := by omega
                have CB := Lib.hid cB
                have CL := Lib.hid cL
                have CR := Lib.hid cR
                clear z0 z1 z2 z3 cB cL cR hsT
                go_wp2
                go_quiet ((first
                  | (go_at_call_of 21 (Value.slice A1 xb.length c1); exact quiet_drawn (CB.out _))
                  | (go_at_call_of 21 (Value.slice A2 xl.length c2); exact quiet_drawn (CL.out _))
                  | (go_at_call_of 21 (Value.slice A3 xr.length c3); exact quiet_drawn (CR.out _))))
                have hb6 := below_drewN' hb3 nq
                generalize w5.drewN nq = w6 at *
                clear CB CL CR d0 d1 d2 d3 m0 m1 m2 m3
                go_wp2
                go_roundw
                case rel => exact ⟨k + 1, by omega, by go_num, by rw [HTX2.out], HU2, hb6⟩
                case measure => simp [intOf]; omega
            · have HE := Lib.hid (HBAD.out (by rw [HUR.out]; rfl))
              clear HUR HBAD HOK HU
              go_wp2
              go_ret2
              exact ⟨ret_si HE.out, hb5⟩
          · have HE := Lib.hid (HBAD.out (by rw [HUR.out]; rfl))
            have hb5 := hb.trans (hb3.mono hb.size)
            clear HUR HBAD HOK HU
            go_wp2
            go_ret2
            exact ⟨ret_si HE.out, hb5⟩
        · have HE := Lib.hid (HBAD.out (by rw [HUR.out]; rfl))
          have hb5 := hb.trans (hb3.mono hb.size)
          clear HUR HBAD HOK HU
          go_wp2
          go_ret2
          exact ⟨ret_si HE.out, hb5⟩
      · have HE := Lib.hid (markS_ok HV.out hlt HU.out)
        have hkL : k = L.length := by omega
        have HK : Hid (textB (mkAll (L.take k)) = textB (mkAll L)) := by show _ = _; rw [hkL, List.take_length]
        clear HU hkL
        go_wp2
        go_ret2
        exact ⟨by rw [HK.out]; exact ret_si HE.out, hbr⟩
end Go.Proofs.Ythobbcafemkhbaa

namespace Go.Proofs.Ythobbcafemkhbaa
open Go.RowKit
set_option linter.unusedVariables false

theorem txtR_take {L : List Rg} {k : Nat} (h : k < L.length) : txtR (L.take (k + 1)) = txtR (L.take k) ++ L[k].2.2.1 := by
  rw [List.take_succ_eq_append_getElem h, txt_snoc]
theorem txtR_le (L : List Rg) (k : Nat) : (textB (txtR (L.take k))).size ≤ (textB (txtR L)).size := by
  have : txtR L = txtR (L.take k) ++ txtR (L.drop k) := by
    unfold txtR; rw [← List.flatten_append, ← List.map_append, List.take_append_drop]
  rw [this]; exact textB_le

set_option maxRecDepth 100000 in
set_option maxHeartbeats 2000000 in
theorem rclean_any (w : World) (v : Value) (L : List Rg) (h : Rgs w v L) (hsz : SzR L) (hl : LnR 100000 L) (hT : (textB (txtR L)).size ≤ 100000000) :
    Calls Try.prog 27 #[v] w fun e w' => e = .returned (.tuple #[.string (clnS L).1, .bool (clnS L).2]) ∧ Below w.heap.size w w' := by
  have cv := Lib.hid (rvalid_any w v L h hsz)
  have HL := Lib.hid hl
  clear hl
  obtain ⟨A, c, rfl, hc, hm⟩ := h.form
  cases hv : vldF false L
  · have HE := Lib.hid (clnS_bad hv)
    rw [hv] at cv
    clear hv
    go_enter Try.func27, Try.ntmps27
    go_wp2_with fail
    refine cv.out.mono ?_
    rintro e w1 ⟨rfl, hb⟩
    go_wp2
    go_ret2
    exact ⟨ret_sb HE.out, hb⟩
  · have HC := Lib.hid (clnS_valid hv)
    rw [hv] at cv
    clear hv
    go_enter Try.func27, Try.ntmps27
    go_wp2_with fail
    refine cv.out.mono ?_
    rintro e w1 ⟨rfl, hb⟩
    clear cv
    have CN := Lib.hid (rconflicts_any w1 _ L (h.keep (Keeps.of_below hb)))
    have HC2 : Hid (clnS L = if cntL L = 0 then (textB (txtR L), true) else (⟨#[]⟩, false)) := HC.out
    clear HC
    obtain ⟨n, hn⟩ : ∃ n, cntL L = n := ⟨_, rfl⟩
    rw [hn] at CN HC2
    clear hn
    go_wp2_with fail
    refine CN.out.mono ?_
    rintro e w2 ⟨rfl, rfl⟩
    clear CN
    by_cases hn0 : n = 0
    · have HE : Hid (clnS L = (textB (txtR L), true)) := by show _ = _; rw [HC2.out, if_pos hn0]
      subst hn0
      clear HC2
      have HT : Hid (∀ k, (textB (txtR (L.take k))).size ≤ 100000000) := fun k => Nat.le_trans (txtR_le L k) hT
      go_wp2_with fail
      go_loopw [4, 5] (fun s t wr => ∃ k : Nat, k ≤ L.length ∧ t = .int .i64 k ∧ s = .string (textB (txtR (L.take k))) ∧ Below w.heap.size w wr) (fun _ t _ => L.length - (intOf t).toNat)
      case atStart => exact ⟨0, by omega, rfl, rfl, hb⟩
      case round =>
        clear hb
        obtain ⟨k, hk, rfl, rfl, hb⟩ := hrel
        by_cases hlt : k < L.length
        · obtain ⟨b, off, v1, v2, v3, rfl, a1, a2, a3, a4, a5, a6, a7⟩ := (h.keep (Keeps.of_below hb)).get hlt
          obtain ⟨n1, n2, n3⟩ := HL.out L[k] (List.getElem_mem hlt)
          have HTX : Hid (textB (txtR (L.take (k + 1))) = textB (txtR (L.take k)) ++ textB L[k].2.2.1) := by show _ = _; rw [txtR_take hlt, textB_append]
          have hsT := HT.out (k + 1)
          rw [HTX.out, ByteArray.size_append] at hsT
          generalize textB (txtR (L.take k)) = T at *
          generalize L[k] = x at *
          obtain ⟨x1, xb, xl, xr⟩ := x
          obtain ⟨A2, c2, rfl, _, _⟩ := a6.form
          simp only at a1 a2 a3 a4 n2 a6 HTX hsT
          have CT := Lib.hid (rtext_any wr _ xl a6 n2 (by omega))
          clear a1 a2 a4 a5 a6 a7 n1 n2 n3
          generalize textB xl = tl at *
          have b0 : T.size ≤ 100000000 := by omega
          have b1 : tl.size ≤ 100000000 := by omega
          go_wp2_with fail
          refine CT.out.mono ?_
          rintro e w6 ⟨rfl, nd, rfl⟩
          have hb6 := below_drewN' hb nd
          generalize wr.drewN nd = w6 at *
          clear CT a3
          go_wp2
          go_roundw
          case rel => exact ⟨k + 1, by omega, by go_num, by rw [HTX.out], hb6⟩
          case measure => simp [intOf]; omega
        · have HK : Hid (textB (txtR (L.take k)) = textB (txtR L)) := by show _ = _; rw [show k = L.length by omega, List.take_length]
          go_wp2
          go_ret2
          exact ⟨by rw [HK.out]; exact ret_sb HE.out, hb⟩
    · have HE : Hid (clnS L = (⟨#[]⟩, false)) := by show _ = _; rw [HC2.out, if_neg hn0]
      have hpos : 0 < n := by omega
      clear HC2
      go_wp2
      go_ret2
      exact ⟨ret_sb HE.out, hb⟩
end Go.Proofs.Ythobbcafemkhbaa
