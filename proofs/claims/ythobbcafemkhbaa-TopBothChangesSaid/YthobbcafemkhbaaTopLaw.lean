/- The walk of the law TopBothChanges. -/
import Derived.Test.YthobbcafemkhbaaTopP
namespace Go.Proofs.Ythobbcafemkhbaa
open Go.RowKit
set_option linter.unusedVariables false

set_option maxRecDepth 100000 in
set_option maxHeartbeats 4000000 in
theorem law_both (w : World) (a : ByteArray) (ha : a.size ≤ 9223372036854775807) (b : ByteArray) (hb : b.size ≤ 9223372036854775807) (c : ByteArray) (hc : c.size ≤ 9223372036854775807) :
    Calls Try.prog 11 #[.string a, .string b, .string c] w fun e w' => e = .returned (.bool true) ∧ Below w.heap.size w w' := by
  have AW := Lib.hid merged_any
  have AP : ∀ k, k < 3 → ∃ s, (w.alloc (.cells #[.string a, .string b, .string c] 9)).cell? ⟨w.heap.size, k, none⟩ = some (.string s) ∧ [a, b, c][k]? = some s ∧ s.size ≤ 9223372036854775807 := by
    intro k hk
    have hb' := Blk.new w #[.string a, .string b, .string c] 9
    match k, hk with
    | 0, _ => exact ⟨a, hb'.cell rfl, rfl, ha⟩
    | 1, _ => exact ⟨b, hb'.cell rfl, rfl, hb⟩
    | 2, _ => exact ⟨c, hb'.cell rfl, rfl, hc⟩
  have HAP := Lib.hid AP
  have hB0 : Below w.heap.size w (w.alloc (.cells #[.string a, .string b, .string c] 9)) := (Below.refl _ _).alloc (Nat.le_refl _) _
  clear AP
  go_enter Try.func11, Try.ntmps11
  go_wp2_with fail
  generalize w.alloc (.cells #[.string a, .string b, .string c] 9) = wa at *
  go_loopw [27] (fun t wr => ∃ k : Nat, k ≤ 3 ∧ t = .int .i64 k ∧ Hid (∀ i s, i < k → [a, b, c][i]? = some s → few1 s = true) ∧ Below wa.heap.size wa wr) (fun t _ => 3 - (intOf t).toNat)
  case atStart => exact ⟨0, by omega, rfl, fun i s hi => absurd hi (by omega), Below.refl _ _⟩
  case round =>
    obtain ⟨k, hk, rfl, HK, hb1⟩ := hrel
    generalize wr = wo at *
    have hBo := hB0.trans (hb1.mono hB0.size)
    by_cases hlt : k < 3
    · obtain ⟨s, x1, x2, x3⟩ := HAP.out k hlt
      have x1 := cell_later hb1 x1
      have X2 := Lib.hid x2
      have di : decide ((k : Int) < 3) = true := by simp; omega
      clear x2
      by_cases h1 : s.size ≤ 200
      · have e1 : decide ((200 : Int) < (s.size : Int)) = false := by simp; omega
        have C1 := Lib.hid (rlns_any s (by omega) wo)
        have HF : Hid (few1 s = decide ((lns s).length ≤ 20)) := by show _ = _; unfold few1; rw [decide_eq_true h1, Bool.true_and]
        generalize lns s = ls at *
        go_wp2_with fail
        refine C1.out.mono ?_
        rintro e w1 ⟨v1, rfl, o1, b1⟩
        obtain ⟨A1, c1, rfl, _, _⟩ := Strs.form o1.sl
        have hb2 := hb1.trans (b1.mono hb1.size)
        have hBo := hBo.trans (b1.mono hBo.size)
        clear C1 o1 b1 x1
        by_cases h2 : ls.length ≤ 20
        · have e2 : decide ((20 : Int) < (ls.length : Int)) = false := by simp; omega
          have HK2 : Hid (∀ i s, i < k + 1 → [a, b, c][i]? = some s → few1 s = true) := fun i s' hi hs' => by
            rcases Nat.lt_or_ge i k with h | h
            · exact HK.out i s' h hs'
            · have : i = k := by omega
              subst this
              rw [X2.out] at hs'
              obtain rfl := Option.some.inj hs'
              rw [HF.out]
              exact decide_eq_true h2
          clear HK HF X2
          go_wp2
          go_roundw
          case rel => exact ⟨k + 1, by omega, by go_num, HK2, hb2⟩
          case measure => simp [intOf]; omega
        · have e2 : decide ((20 : Int) < (ls.length : Int)) = true := by simp; omega
          clear HK HF X2
          go_wp2_with fail
          refine (AW.out _).mono ?_
          rintro e w7 ⟨rfl, b7⟩
          have hB := hBo.trans (b7.mono hBo.size)
          go_wp2
          go_ret
          exact ⟨rfl, hB⟩
      · have e1 : decide ((200 : Int) < (s.size : Int)) = true := by simp; omega
        clear HK X2
        go_wp2_with fail
        refine (AW.out _).mono ?_
        rintro e w7 ⟨rfl, b7⟩
        have hB := hBo.trans (b7.mono hBo.size)
        go_wp2
        go_ret
        exact ⟨rfl, hB⟩
    · have di : decide ((k : Int) < 3) = false := by simp; omega
      have fa : few1 a = true := HK.out 0 a (by omega) rfl
      have fb : few1 b = true := HK.out 1 b (by omega) rfl
      have fc : few1 c = true := HK.out 2 c (by omega) rfl
      have za := few_ok fa
      have zb := few_ok fb
      have zc := few_ok fc
      have hg := Good.merge fa fb fc
      have hg2 := Good.merge fa fc fb
      have cm := Lib.hid (merge_len fa fb fc)
      have cm2 := Lib.hid (merge_len fa fc fb)
      have TF := top_facts fa fb fc
      clear HK HAP fa fb fc hb1
      generalize mergeL (lns a) (lns b) (lns c) = full at *
      generalize mergeL (lns a) (lns c) (lns b) = other at *
      have K1 := Lib.hid fun w' v hr => clean_any w' v full hr hg.sz (good_cl hg)
      have K2 := Lib.hid fun w' v hr => clean_any w' v other hr hg2.sz (good_cl hg2)
      have N1 := Lib.hid (show (lns a).length ≤ 100000 by omega)
      have N2 := Lib.hid (show (lns b).length ≤ 100000 by omega)
      have N3 := Lib.hid (show (lns c).length ≤ 100000 by omega)
      have z1 := za.1
      have z2 := zb.1
      have z3 := zc.1
      clear za zb zc hg hg2
      rcases TF with ⟨T, tf⟩ | ⟨t1, t2⟩
      · have TF := Lib.hid tf
        rw [tf.cf] at K1
        rw [tf.co] at K2
        have hs := tf.sz
        clear tf
        go_wp2_with fail
        refine (cm.out _).mono ?_
        rintro e w2 ⟨v2, rfl, r2, b2⟩
        have hB := hBo.trans (b2.mono hBo.size)
        obtain ⟨A2, c2, rfl, _, _⟩ := r2.form
        go_wp2_with fail
        refine (cm2.out _).mono ?_
        rintro e w3 ⟨v3, rfl, r3, b3⟩
        have hB := hB.trans (b3.mono hB.size)
        have K1' := Lib.hid (K1.out w3 _ (r2.keep (Keeps.of_below b3)))
        obtain ⟨A3, c3, rfl, _, _⟩ := r3.form
        clear cm cm2 b2 b3 r2 K1
        go_wp2_with fail
        refine K1'.out.mono ?_
        rintro e w4 ⟨rfl, b4⟩
        have hB := hB.trans (b4.mono hB.size)
        have K2' := Lib.hid (K2.out w4 _ (r3.keep (Keeps.of_below b4)))
        clear K1' K2 b4 r3
        have HT := Lib.hid TF.out.txt
        have HCT := Lib.hid TF.out.ct
        have O1 := Lib.hid TF.out.o1
        have O2 := Lib.hid TF.out.o2
        have hTl := TF.out.len
        generalize hsx : textB T = sx at *
        have HL : Hid (lns sx = T) := HT.out
        clear HT TF hsx
        have P1 := Lib.hid fun w' => only_any w' sx a c (by omega) (by omega) (by omega) (by rw [HL.out]; omega) N1.out N3.out
        have P2 := Lib.hid fun w' => only_any w' b a c (by omega) (by omega) (by omega) N2.out N1.out N3.out
        have P3 := Lib.hid fun w' => only_any w' sx a b (by omega) (by omega) (by omega) (by rw [HL.out]; omega) N1.out N2.out
        have P4 := Lib.hid fun w' => only_any w' c a b (by omega) (by omega) (by omega) N3.out N1.out N2.out
        have Q0 := Lib.hid fun w' x => count_any w' a x (by omega) N1.out
        have Q1 := Lib.hid fun w' x => count_any w' b x (by omega) N2.out
        have Q2 := Lib.hid fun w' x => count_any w' c x (by omega) N3.out
        have Q3 := Lib.hid fun w' x => count_any w' sx x (by omega) (by rw [HL.out]; omega)
        go_wp2_with fail
        refine K2'.out.mono ?_
        rintro e w5 ⟨rfl, b5⟩
        have hB := hB.trans (b5.mono hB.size)
        clear K2' b5
        go_wp2_with fail
        refine (P1.out w5).mono ?_
        rintro e w6 ⟨v6, rfl, s6, b6⟩
        have hB := hB.trans (b6.mono hB.size)
        clear P1 b6
        obtain ⟨A6, c6, rfl, _, _⟩ := s6.form
        go_wp2_with fail
        refine (P2.out w6).mono ?_
        rintro e w7 ⟨v7, rfl, s7, b7⟩
        have hB := hB.trans (b7.mono hB.size)
        have s6 := s6.keep (Keeps.of_below b7)
        have E1 := equal_any w7 _ _ _ _ s6 s7
        rw [eqB_true (by rw [HL.out]; exact O1.out)] at E1
        have E1 := Lib.hid E1
        obtain ⟨A7, c7, rfl, _, _⟩ := s7.form
        clear P2 b7 s6 s7 O1
        go_wp2_with fail
        refine E1.out.mono ?_
        rintro e w8 ⟨rfl, n8, rfl⟩
        have hB := below_drewN' hB n8
        generalize w7.drewN n8 = w8 at *
        clear E1
        go_wp2_with fail
        refine (P3.out w8).mono ?_
        rintro e w9 ⟨v9, rfl, s9, b9⟩
        have hB := hB.trans (b9.mono hB.size)
        clear P3 b9
        obtain ⟨A9, c9, rfl, _, _⟩ := s9.form
        go_wp2_with fail
        refine (P4.out w9).mono ?_
        rintro e w10 ⟨v10, rfl, s10, b10⟩
        have hB := hB.trans (b10.mono hB.size)
        have s9 := s9.keep (Keeps.of_below b10)
        have E2 := equal_any w10 _ _ _ _ s9 s10
        rw [eqB_true (by rw [HL.out]; exact O2.out)] at E2
        have E2 := Lib.hid E2
        obtain ⟨A10, c10, rfl, _, _⟩ := s10.form
        clear P4 b10 s9 s10 O2
        go_wp2_with fail
        refine E2.out.mono ?_
        rintro e w11 ⟨rfl, n11, rfl⟩
        have hB := below_drewN' hB n11
        generalize w10.drewN n11 = w11 at *
        clear E2
        have l4 : (⟨#[10]⟩ : ByteArray).size = 1 := rfl
        have e1 : (a ++ (⟨#[10]⟩ : ByteArray)).size = a.size + (⟨#[10]⟩ : ByteArray).size := ByteArray.size_append
        have e2 : (a ++ (⟨#[10]⟩ : ByteArray) ++ b).size = a.size + (⟨#[10]⟩ : ByteArray).size + b.size := by simp only [ByteArray.size_append]
        have e3 : (a ++ (⟨#[10]⟩ : ByteArray) ++ b ++ (⟨#[10]⟩ : ByteArray)).size = a.size + (⟨#[10]⟩ : ByteArray).size + b.size + (⟨#[10]⟩ : ByteArray).size := by simp only [ByteArray.size_append]
        have e4 : (a ++ (⟨#[10]⟩ : ByteArray) ++ b ++ (⟨#[10]⟩ : ByteArray) ++ c).size = a.size + (⟨#[10]⟩ : ByteArray).size + b.size + (⟨#[10]⟩ : ByteArray).size + c.size := by simp only [ByteArray.size_append]
        have e5 : (a ++ (⟨#[10]⟩ : ByteArray) ++ b ++ (⟨#[10]⟩ : ByteArray) ++ c ++ (⟨#[10]⟩ : ByteArray)).size = a.size + (⟨#[10]⟩ : ByteArray).size + b.size + (⟨#[10]⟩ : ByteArray).size + c.size + (⟨#[10]⟩ : ByteArray).size := by simp only [ByteArray.size_append]
        have e6 : (a ++ (⟨#[10]⟩ : ByteArray) ++ b ++ (⟨#[10]⟩ : ByteArray) ++ c ++ (⟨#[10]⟩ : ByteArray) ++ sx).size = a.size + (⟨#[10]⟩ : ByteArray).size + b.size + (⟨#[10]⟩ : ByteArray).size + c.size + (⟨#[10]⟩ : ByteArray).size + sx.size := by simp only [ByteArray.size_append]
        have y1 : (a ++ (⟨#[10]⟩ : ByteArray)).size ≤ 2000000 := by omega
        have y2 : (a ++ (⟨#[10]⟩ : ByteArray) ++ b).size ≤ 2000000 := by omega
        have y3 : (a ++ (⟨#[10]⟩ : ByteArray) ++ b ++ (⟨#[10]⟩ : ByteArray)).size ≤ 2000000 := by omega
        have y4 : (a ++ (⟨#[10]⟩ : ByteArray) ++ b ++ (⟨#[10]⟩ : ByteArray) ++ c).size ≤ 2000000 := by omega
        have y5 : (a ++ (⟨#[10]⟩ : ByteArray) ++ b ++ (⟨#[10]⟩ : ByteArray) ++ c ++ (⟨#[10]⟩ : ByteArray)).size ≤ 2000000 := by omega
        have C1 := Lib.hid (rlns_any (a ++ (⟨#[10]⟩ : ByteArray) ++ b ++ (⟨#[10]⟩ : ByteArray) ++ c ++ (⟨#[10]⟩ : ByteArray) ++ sx) (by omega) w11)
        clear e1 e2 e3 e4 e5 e6 l4
        obtain ⟨big, hbig⟩ : ∃ q, lns (a ++ (⟨#[10]⟩ : ByteArray) ++ b ++ (⟨#[10]⟩ : ByteArray) ++ c ++ (⟨#[10]⟩ : ByteArray) ++ sx) = q := ⟨_, rfl⟩
        rw [hbig] at C1
        clear hbig
        go_wp2_with fail
        refine C1.out.mono ?_
        rintro e w12 ⟨v12, rfl, o12, b12⟩
        have hB := hB.trans (b12.mono hB.size)
        have s12 : Strs w12 v12 big := o12.sl
        obtain ⟨A12, c12, rfl, _, _⟩ := s12.form
        rw [HL.out] at Q3
        clear C1 o12 b12 y1 y2 y3 y4 y5 N1 N2 N3 HL hBo
        go_wp2_with fail
        go_loopw [119] (fun t wr => ∃ j : Nat, j ≤ big.length ∧ t = .int .i64 j ∧ Below w12.heap.size w12 wr) (fun t _ => big.length - (intOf t).toNat)
        case atStart => exact ⟨0, by omega, rfl, Below.refl _ _⟩
        case round =>
          obtain ⟨j, hj, rfl, hb12⟩ := hrel
          have hBr := hB.trans (hb12.mono hB.size)
          by_cases hjl : j < big.length
          · obtain ⟨b', off, rfl, x1⟩ := (s12.keep (Keeps.of_below hb12)).get hjl
            generalize big[j] = x at *
            have R0 := Lib.hid (Q0.out wr x)
            have R1 := Lib.hid fun w' => Q1.out w' x
            have R2 := Lib.hid fun w' => Q2.out w' x
            have R3 := Lib.hid fun w' => Q3.out w' x
            have HX := Lib.hid (HCT.out x)
            have k0 := cntX_le x (lns a)
            have k1 := cntX_le x (lns b)
            have k2 := cntX_le x (lns c)
            have k3 := cntX_le x T
            generalize cntX x (lns a) = m0 at *
            generalize cntX x (lns b) = m1 at *
            generalize cntX x (lns c) = m2 at *
            generalize cntX x T = m3 at *
            go_wp2_with fail
            refine R0.out.mono ?_
            rintro e w13 ⟨rfl, b13⟩
            have hb13 := hb12.trans (b13.mono hb12.size)
            have hB13 := hBr.trans (b13.mono hBr.size)
            clear R0 b13 x1
            by_cases h0 : m0 = 0
            · obtain ⟨g1, g2, g3⟩ := HX.out h0
              have f0 : decide (0 < m0) = false := decide_eq_false (by omega)
              have f0' : decide ((0 : Int) < (m0 : Int)) = false := decide_eq_false (by omega)
              clear HX h0
              go_wp2_with fail
              refine (R1.out _).mono ?_
              rintro e w14 ⟨rfl, b14⟩
              have hb14 := hb13.trans (b14.mono hb13.size)
              have hB14 := hB13.trans (b14.mono hB13.size)
              clear R1 b14
              go_wp2_with fail
              refine (R2.out _).mono ?_
              rintro e w15 ⟨rfl, b15⟩
              have hb15 := hb14.trans (b15.mono hb14.size)
              have hB15 := hB14.trans (b15.mono hB14.size)
              clear R2 b15
              go_wp2_with fail
              refine (R3.out _).mono ?_
              rintro e w16 ⟨rfl, b16⟩
              have hb16 := hb15.trans (b16.mono hb15.size)
              clear R3 b16
              have q1 : decide (m3 < m1) = false := decide_eq_false (by omega)
              have q2 : decide (m3 < m2) = false := decide_eq_false (by omega)
              have q3 : decide (m1 + m2 < m3) = false := decide_eq_false (by omega)
              have q3' : decide ((m1 : Int) + (m2 : Int) < (m3 : Int)) = false := decide_eq_false (by omega)
              have q4 : decide ((m3 : Int) < max (m1 : Int) (m2 : Int)) = false := decide_eq_false (by omega)
              go_wp2
              go_roundw
              case rel => exact ⟨j + 1, by omega, by go_num, hb16⟩
              case measure => simp [intOf]; omega
            · have f0 : decide (0 < m0) = true := decide_eq_true (by omega)
              have f0' : decide ((0 : Int) < (m0 : Int)) = true := decide_eq_true (by omega)
              clear HX h0
              go_wp2
              go_roundw
              case rel => exact ⟨j + 1, by omega, by go_num, hb13⟩
              case measure => simp [intOf]; omega
          · go_wp2_with fail
            refine (AW.out _).mono ?_
            rintro e w17 ⟨rfl, b17⟩
            have hB17 := hBr.trans (b17.mono hBr.size)
            go_wp2
            go_ret
            exact ⟨rfl, hB17⟩
      · rw [t1] at K1
        rw [t2] at K2
        clear t1 t2
        go_wp2_with fail
        refine (cm.out _).mono ?_
        rintro e w2 ⟨v2, rfl, r2, b2⟩
        have hB := hBo.trans (b2.mono hBo.size)
        obtain ⟨A2, c2, rfl, _, _⟩ := r2.form
        go_wp2_with fail
        refine (cm2.out _).mono ?_
        rintro e w3 ⟨v3, rfl, r3, b3⟩
        have hB := hB.trans (b3.mono hB.size)
        have K1' := Lib.hid (K1.out w3 _ (r2.keep (Keeps.of_below b3)))
        obtain ⟨A3, c3, rfl, _, _⟩ := r3.form
        clear cm cm2 b2 b3 r2 K1
        go_wp2_with fail
        refine K1'.out.mono ?_
        rintro e w4 ⟨rfl, b4⟩
        have hB := hB.trans (b4.mono hB.size)
        have K2' := Lib.hid (K2.out w4 _ (r3.keep (Keeps.of_below b4)))
        clear K1' K2 b4 r3
        go_wp2_with fail
        refine K2'.out.mono ?_
        rintro e w5 ⟨rfl, b5⟩
        have hB := hB.trans (b5.mono hB.size)
        clear K2' b5
        go_wp2_with fail
        refine (AW.out _).mono ?_
        rintro e w6 ⟨rfl, b6⟩
        have hB := hB.trans (b6.mono hB.size)
        go_wp2
        go_ret
        exact ⟨rfl, hB⟩
end Go.Proofs.Ythobbcafemkhbaa
