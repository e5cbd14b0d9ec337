/- cordwoodref19.Settle, cordwoodref19.Clean. -/
import Derived.Test.YthobbcafemkhbaaTmRval
import Derived.Test.YthobbcafemkhbaaTmStl
import Derived.Test.YthobbcafemkhbaaTmVldP
namespace Go.Proofs.Ythobbcafemkhbaa
open Go.RowKit
set_option linter.unusedVariables false

theorem row_push2 {w w1 w2 : World} {B : Nat} {v v2 vb vl vr : Value} {L : List Rg} {b l r : List ByteArray} {ob : Obj} {cells : List Value} (hst : Stab w (OwnOf v) fun w' => Elems 4 (RgR w') L cells) (hown : w.ownsRow B 58 4 v L.length cells) (hB : B ≤ w.heap.size) (hb1 : Below w.heap.size w w1)
    (hb : Far w1 B fun w' => Strs w' vb b) (hl : Far w1 B fun w' => Strs w' vl l) (hr : Far w1 B fun w' => Strs w' vr r)
    (hg2 : (w1.alloc ob).grownBy w2 v.ownBlock) (ho2 : w2.ownsRow B 58 4 v2 (L.length + 1) (cells ++ [.bool true, vb, vl, vr])) (ha2 : v2.ownBlock = v.ownBlock ∨ v2.ownBlock = some (w1.alloc ob).heap.size) :
    Row w2 B v2 (L ++ [(true, b, l, r)]) ∧ Below B w w2 := by
  have how : ∀ g, v.ownBlock = some g → B ≤ g := fun g hg => (hown.lt g hg).1
  obtain ⟨r1, r2, _⟩ := row_end hst hown hB hb1 (reg_stab (c := true) (hb.own how) (hl.own how) (hr.own how)) hg2 ho2 ha2
  exact ⟨r1, r2⟩
theorem rgs_made (w : World) : Rgs (w.alloc (.cells #[] 58)) (.slice (some ⟨w.heap.size, 0, none⟩) 0 0) [] := (Row.made w (Nat.le_refl _)).rgs

set_option maxRecDepth 100000 in
set_option maxHeartbeats 4000000 in
theorem rsettle_any (w : World) (v : Value) (L : List Rg) (i side : Int) (h : Rgs w v L) (hsz : SzR L) (hlen : L.length ≤ 100) (hl : LnR 1000 L) (i0 : -9223372036854775808 ≤ i) (i1 : i ≤ 9223372036854775807) (s0 : -9223372036854775808 ≤ side) (s1 : side ≤ 9223372036854775807) :
    Calls Try.prog 28 #[v, .int .i64 i, .int .i64 side] w fun e w' => ∃ v', e = .returned (.tuple #[v', .int .i64 (settleS L i side).2]) ∧ Rgs w' v' (settleS L i side).1 ∧ Below w.heap.size w w' := by
  obtain ⟨it, hi1, hy0, hy1, hy2⟩ := info_parts Try.info_reg
  have cv := Lib.hid (rvalid_any w v L h hsz)
  obtain ⟨A, c, rfl, hc, hm⟩ := h.form
  have HL := Lib.hid hl
  clear hl
  cases hv : vldF false L
  · have HE : Hid (settleS L i side = ([], 1)) := if_pos hv
    rw [hv] at cv
    clear hv
    go_enter Try.func28, Try.ntmps28
    go_wp2_with fail
    refine cv.out.mono ?_
    rintro e w1 ⟨rfl, hb⟩
    go_wp2
    go_ret2
    exact ret_se HE.out (rgs_made _) (hb.alloc hb.size _)
  · rw [hv] at cv
    have HS0 : Hid (settleS L i side = if i < 0 ∨ (cntL L : Int) ≤ i ∨ side < 0 ∨ 2 < side then ([], 2) else (stlF i.toNat side.toNat 0 L [], 0)) := if_neg (by rw [hv]; simp)
    clear hv
    go_enter Try.func28, Try.ntmps28
    go_wp2_with fail
    refine cv.out.mono ?_
    rintro e w1 ⟨rfl, hb⟩
    clear cv
    by_cases hi0 : i < 0
    · have HE : Hid (settleS L i side = ([], 2)) := by show _ = _; rw [HS0.out, if_pos (.inl hi0)]
      clear HS0
      go_wp2
      go_ret2
      exact ret_se HE.out (rgs_made _) (hb.alloc hb.size _)
    · have hd0 : decide (i < 0) = false := decide_eq_false hi0
      have CN := Lib.hid (rconflicts_any w1 _ L (h.keep (Keeps.of_below hb)))
      obtain ⟨n, hn⟩ : ∃ n, cntL L = n := ⟨_, rfl⟩
      rw [hn] at CN HS0
      clear hn
      go_wp2_with fail
      refine CN.out.mono ?_
      rintro e w2 ⟨rfl, rfl⟩
      clear CN
      by_cases hin : (n : Int) ≤ i
      · have HE : Hid (settleS L i side = ([], 2)) := by show _ = _; rw [HS0.out, if_pos (.inr (.inl hin))]
        clear HS0
        go_wp2
        go_ret2
        exact ret_se HE.out (rgs_made _) (hb.alloc hb.size _)
      · by_cases hs0 : side < 0
        · have HE : Hid (settleS L i side = ([], 2)) := by show _ = _; rw [HS0.out, if_pos (.inr (.inr (.inl hs0)))]
          clear HS0
          go_wp2
          go_ret2
          exact ret_se HE.out (rgs_made _) (hb.alloc hb.size _)
        · by_cases hs2 : 2 < side
          · have HE : Hid (settleS L i side = ([], 2)) := by show _ = _; rw [HS0.out, if_pos (.inr (.inr (.inr hs2)))]
            clear HS0
            go_wp2
            go_ret2
            exact ret_se HE.out (rgs_made _) (hb.alloc hb.size _)
          · have hd2 : decide (side < 0) = false := decide_eq_false hs0
            have hd3 : decide (2 < side) = false := decide_eq_false hs2
            obtain ⟨j, rfl⟩ : ∃ j : Nat, i = (j : Int) := ⟨i.toNat, by omega⟩
            have hd1 : decide (n ≤ j) = false := decide_eq_false (by omega)
            obtain ⟨s, rfl⟩ : ∃ s : Nat, side = (s : Int) := ⟨side.toNat, by omega⟩
            have HE : Hid (settleS L (j : Int) (s : Int) = (stlF j s 0 L [], 0)) := by show _ = _; rw [HS0.out, if_neg (by omega), Int.toNat_natCast, Int.toNat_natCast]
            clear HS0
            obtain ⟨R, hR⟩ : ∃ R, stlF j s 0 L [] = R := ⟨_, rfl⟩
            have HR : Hid (R = stlF j s 0 (L.drop 0) []) := hR.symm
            rw [hR] at HE
            clear hR
            have fL : ∀ k, (hk : k < L.length) → ∃ b off v1 v2 v3, A = some ⟨b, off, none⟩ ∧ w.cell? ⟨b, off + k * 4, none⟩ = some (.bool L[k].1) ∧ w.cell? ⟨b, off + k * 4 + 1, none⟩ = some v1 ∧ w.cell? ⟨b, off + k * 4 + 2, none⟩ = some v2 ∧ w.cell? ⟨b, off + k * 4 + 3, none⟩ = some v3 ∧
                (Far w w.heap.size fun w' => Strs w' v1 L[k].2.1) ∧ (Far w w.heap.size fun w' => Strs w' v2 L[k].2.2.1) ∧ (Far w w.heap.size fun w' => Strs w' v3 L[k].2.2.2) := fun k hk => by
              obtain ⟨b, off, v1, v2, v3, e, a1, a2, a3, a4, a5, a6, a7⟩ := h.get hk
              exact ⟨b, off, v1, v2, v3, e, a1, a2, a3, a4, far_strs a5, far_strs a6, far_strs a7⟩
            have FL := Lib.hid fL
            clear fL
            have R0 := (Row.made w1 hb.size)
            have hb0 := hb.alloc hb.size (.cells #[] 58)
            go_wp2_with fail
            generalize w1.alloc (.cells #[] 58) = w3 at *
            generalize w1.heap.size = g3 at *
            have hs3 : s ≤ 2 := by omega
            clear hs0 hs2 hin hi0 hd0 hd1 hd2 hd3
            go_loopw [8, 9, 10] (fun vo vm t wr => ∃ (k m : Nat) (out : List Rg), k ≤ L.length ∧ t = .int .i64 k ∧ vm = .int .i64 m ∧ m ≤ k ∧ Row wr w.heap.size vo out ∧ Hid (R = stlF j s m (L.drop k) out) ∧ RgB (1002 * k) out ∧ Below w.heap.size w wr) (fun _ _ t _ => L.length - (intOf t).toNat)
            case atStart => exact ⟨0, 0, [], by omega, rfl, rfl, by omega, R0, HR, RgB.nil, hb0⟩
            case round =>
              clear HR hb R0 hb0
              obtain ⟨k, m, out, hk, rfl, rfl, hmk, hcr, HR, hN, hb⟩ := hrel
              have hbs := hb.size
              by_cases hlt : k < L.length
              · obtain ⟨b, off, v1, v2, v3, rfl, a1, a2, a3, a4, f1, f2, f3⟩ := FL.out k hlt
                have a1 := cell_later hb a1
                have a2 := cell_later hb a2
                have a3 := cell_later hb a3
                have a4 := cell_later hb a4
                have f1 := f1.below hb
                have f2 := f2.below hb
                have f3 := f3.below hb
                obtain ⟨n1, n2, n3⟩ := HL.out L[k] (List.getElem_mem hlt)
                have hdr : L.drop k = L[k] :: L.drop (k + 1) := List.drop_eq_getElem_cons hlt
                rw [hdr] at HR
                generalize L[k] = x at *
                obtain ⟨x1, xb, xl, xr⟩ := x
                simp only at a1 f1 f2 f3 n1 n2 n3
                have bx : Below wr.heap.size wr (wr.alloc (.cells #[.bool x1, v1, v2, v3] 58)) := (Below.refl _ _).alloc (Nat.le_refl _) _
                obtain ⟨A1, c1, rfl, _, _⟩ := Strs.form f1.now
                obtain ⟨A2, c2, rfl, _, _⟩ := Strs.form f2.now
                obtain ⟨A3, c3, rfl, _, _⟩ := Strs.form f3.now
                obtain ⟨Av, cv, rfl, _, _⟩ := hcr.form
                have hbx := hb.trans (bx.mono hbs)
                have hbxs := bx.size
                clear hdr
                cases x1
                · have HR2 : Hid (R = stlF j s m (L.drop (k + 1)) (addL out xl)) := HR.out
                  have HN2 := (hN.addL xl).mono (M := 1002 * (k + 1)) (by omega)
                  have CA := Lib.hid (agreed_any _ w.heap.size _ _ out xl (hcr.below bx) (by omega) (f2.now.keep (Keeps.of_below hbx)) hN (by omega) (by omega))
                  clear HR f1 f2 f3 n1 n2 n3 bx hcr hN
                  go_wp2_with fail
                  refine CA.out.mono ?_
                  rintro e w5 ⟨v5, rfl, r5, b5, _, _⟩
                  have hb5 := hbx.trans b5
                  clear CA a1 a2 a3 a4 b5 hbx
                  go_wp2
                  go_roundw
                  case rel => exact ⟨k + 1, m, _, by omega, by go_num, rfl, by omega, r5, HR2, HN2, hb5⟩
                  case measure => simp [intOf]; omega
                · by_cases hmi : m = j
                  · have he : ((m : Int) != (j : Int)) = false := by rw [bne_eq_false_iff_eq]; omega
                    have HR2 : Hid (R = stlF j s (m + 1) (L.drop (k + 1)) (addL out (side3 s (xb, xl, xr)))) := by
                      have e : stlF j s m ((true, xb, xl, xr) :: L.drop (k + 1)) out = stlF j s (m + 1) (L.drop (k + 1)) (if m = j then addL out (side3 s (xb, xl, xr)) else out ++ [(true, xb, xl, xr)]) := rfl
                      show _ = _; rw [HR.out, e, if_pos hmi]
                    have HN2 := (hN.addL (side3 s (xb, xl, xr))).mono (M := 1002 * (k + 1)) (by
                      rcases (by omega : s = 0 ∨ s = 1 ∨ s = 2) with rfl | rfl | rfl
                      · show 1002 * k + xl.length + 1 ≤ _; omega
                      · show 1002 * k + xb.length + 1 ≤ _; omega
                      · show 1002 * k + xr.length + 1 ≤ _; omega)
                    have CA := fun vx ls (hx : Strs _ vx ls) (hll : ls.length ≤ 1000) => agreed_any (wr.alloc (.cells #[.bool true, .slice A1 xb.length c1, .slice A2 xl.length c2, .slice A3 xr.length c3] 58)) w.heap.size _ vx out ls (hcr.below bx) (by omega) hx hN (by omega) (by omega)
                    have kb := Keeps.of_below hbx
                    clear HR hmi
                    rcases (by omega : s = 0 ∨ s = 1 ∨ s = 2) with hs | hs | hs
                    · have e1 : ((s : Int) == 0) = true := by rw [beq_iff_eq]; omega
                      have hside : side3 s (xb, xl, xr) = xl := by rw [hs]; rfl
                      have CB := Lib.hid (CA _ _ (f2.now.keep kb) n2)
                      rw [hside] at HR2 HN2
                      clear CA kb f1 f2 f3 n1 n2 n3 bx hcr hN hs hside
                      go_wp2_with fail
                      refine CB.out.mono ?_
                      rintro e w5 ⟨v5, rfl, r5, b5, _, _⟩
                      have hb5 := hbx.trans b5
                      clear CB a1 a2 a3 a4 b5 hbx
                      go_wp2
                      go_roundw
                      case rel => exact ⟨k + 1, m + 1, _, by omega, by go_num, by go_num, by omega, r5, HR2, HN2, hb5⟩
                      case measure => simp [intOf]; omega
                    · have e1 : ((s : Int) == 0) = false := by rw [beq_eq_false_iff_ne]; omega
                      have e2 : ((s : Int) == 1) = true := by rw [beq_iff_eq]; omega
                      have hside : side3 s (xb, xl, xr) = xb := by rw [hs]; rfl
                      have CB := Lib.hid (CA _ _ (f1.now.keep kb) n1)
                      rw [hside] at HR2 HN2
                      clear CA kb f1 f2 f3 n1 n2 n3 bx hcr hN hs hside
                      go_wp2_with fail
                      refine CB.out.mono ?_
                      rintro e w5 ⟨v5, rfl, r5, b5, _, _⟩
                      have hb5 := hbx.trans b5
                      clear CB a1 a2 a3 a4 b5 hbx
                      go_wp2
                      go_roundw
                      case rel => exact ⟨k + 1, m + 1, _, by omega, by go_num, by go_num, by omega, r5, HR2, HN2, hb5⟩
                      case measure => simp [intOf]; omega
                    · have e1 : ((s : Int) == 0) = false := by rw [beq_eq_false_iff_ne]; omega
                      have e2 : ((s : Int) == 1) = false := by rw [beq_eq_false_iff_ne]; omega
                      have hside : side3 s (xb, xl, xr) = xr := by rw [hs]; rfl
                      have CB := Lib.hid (CA _ _ (f3.now.keep kb) n3)
                      rw [hside] at HR2 HN2
                      clear CA kb f1 f2 f3 n1 n2 n3 bx hcr hN hs hside
                      go_wp2_with fail
                      refine CB.out.mono ?_
                      rintro e w5 ⟨v5, rfl, r5, b5, _, _⟩
                      have hb5 := hbx.trans b5
                      clear CB a1 a2 a3 a4 b5 hbx
                      go_wp2
                      go_roundw
                      case rel => exact ⟨k + 1, m + 1, _, by omega, by go_num, by go_num, by omega, r5, HR2, HN2, hb5⟩
                      case measure => simp [intOf]; omega
                  · have he : ((m : Int) != (j : Int)) = true := by simp; omega
                    have HR2 : Hid (R = stlF j s (m + 1) (L.drop (k + 1)) (out ++ [(true, xb, xl, xr)])) := by
                      have e : stlF j s m ((true, xb, xl, xr) :: L.drop (k + 1)) out = stlF j s (m + 1) (L.drop (k + 1)) (if m = j then addL out (side3 s (xb, xl, xr)) else out ++ [(true, xb, xl, xr)]) := rfl
                      show _ = _; rw [HR.out, e, if_neg hmi]
                    have HN2 := (hN.snoc (true, xb, xl, xr)).mono (M := 1002 * (k + 1)) (by show 1002 * k + xl.length + 1 ≤ _; omega)
                    have hlo := hN.1
                    obtain ⟨cells, hown, hst⟩ := hcr
                    have hown1 := own_below hown bx
                    have key : ∀ ob w2 v2, ((wr.alloc (.cells #[.bool true, .slice A1 xb.length c1, .slice A2 xl.length c2, .slice A3 xr.length c3] 58)).alloc ob).grownBy w2 (Value.slice Av out.length cv).ownBlock →
                        w2.ownsRow w.heap.size 58 4 v2 (out.length + 1) (cells ++ [.bool true, .slice A1 xb.length c1, .slice A2 xl.length c2, .slice A3 xr.length c3]) →
                        (v2.ownBlock = (Value.slice Av out.length cv).ownBlock ∨ v2.ownBlock = some ((wr.alloc (.cells #[.bool true, .slice A1 xb.length c1, .slice A2 xl.length c2, .slice A3 xr.length c3] 58)).alloc ob).heap.size) →
                        Row w2 w.heap.size v2 (out ++ [(true, xb, xl, xr)]) ∧ Below w.heap.size wr w2 := fun ob w2 v2 h1 h2 h3 =>
                      row_push2 hst hown hbs bx (f1.below hbx) (f2.below hbx) (f3.below hbx) h1 h2 h3
                    have KEY := Lib.hid key
                    clear HR hmi f1 f2 f3 n1 n2 n3 bx hN key hst
                    go_wp2_with (at_builtin; go_must (refine wpList_append_any _ rfl (.tmp 54) (.tmp 56) _ rfl w.heap.size 58 it _ 4 80 Try.underlying24 hi1 hy0 hy1 hy2 rfl (by omega) (.slice Av out.length cv) out.length cells rfl (hown1.alloc _) _ 1 1 [.bool true, .slice A1 xb.length c1, .slice A2 xl.length c2, .slice A3 xr.length c3] rfl rfl (cells_new1 _ _ _ _) (by simp [Value.oneCell']) (by omega) (by omega) (by simp; omega) ?_)
                                 intro v5 w5 ho5 hg5 ha5)
                    obtain ⟨r5, b5⟩ := KEY.out _ _ _ hg5 ho5 (by simpa using ha5)
                    have hb5 := hb.trans b5
                    clear KEY a1 a2 a3 a4 hbx ho5 hg5 ha5
                    go_wp2
                    go_roundw
                    case rel => exact ⟨k + 1, m + 1, _, by omega, by go_num, by go_num, by omega, r5, HR2, HN2, hb5⟩
                    case measure => simp [intOf]; omega
              · have hR : R = out := by have := HR.out; rw [List.drop_of_length_le (by omega)] at this; exact this
                subst hR
                clear HR
                go_wp2
                go_ret2
                exact ret_se HE.out hcr.rgs hb
end Go.Proofs.Ythobbcafemkhbaa
