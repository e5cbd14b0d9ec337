/- Law: JournalDurable. -/
import Derived.Test.YtockmhhiomdlkaaLawCon
namespace Go.Proofs.Ytockmhhiomdlkaa
set_option linter.unusedVariables false
set_option linter.unusedSimpArgs false
open Go.RowKit

theorem acts_one (w : World) {rA iA : Option Addr} {rc ic : Nat} {a : ActJ} (h : ActP w rA rc iA ic a) : Acts (w.alloc (.cells #[.int .i64 a.kind, .slice rA a.recs.length rc, .int .i64 a.left, .slice iA a.ps.length ic] 49)) (.slice (some ⟨w.heap.size, 0, none⟩) 1 1) [a] :=
  ⟨_, 1, [.int .i64 a.kind, .slice rA a.recs.length rc, .int .i64 a.left, .slice iA a.ps.length ic], rfl, Nat.le_refl _, by unfold maxLen; omega, by simpa using CellsAt.of_new w #[.int .i64 a.kind, .slice rA a.recs.length rc, .int .i64 a.left, .slice iA a.ps.length ic] 49 (0, 0),
    Elems.one ⟨_, _, rfl, h.recs.keep (Keeps.alloc _ _), h.ps.keep (Keeps.alloc _ _), ⟨h.k0, h.k1⟩, h.l0, h.l1⟩ rfl⟩
set_option maxRecDepth 100000 in
set_option maxHeartbeats 4000000 in
theorem law_durable (W : World) (n z : Int) (hz0 : -9223372036854775808 ≤ z) (B : Option Addr) (lc : Nat) (acts : List ActJ) (h : Acts W (.slice B acts.length lc) acts) (rA : Option Addr) (rc : Nat) (iA : Option Addr) (ic : Nat) (a : ActJ) (ha : ActP W rA rc iA ic a) (vq : Value) (ps : List Int) (hps : Ints W vq ps) :
    Calls Try.prog 8 #[.agg #[.int .i64 n, .int .i64 z, .slice B acts.length lc], .agg #[.int .i64 a.kind, .slice rA a.recs.length rc, .int .i64 a.left, .slice iA a.ps.length ic], vq] W fun e w' => e = .returned (.bool true) ∧ Below W.heap.size W w' := by
  have K := Lib.hid (Below.refl W.heap.size W)
  obtain ⟨_, _, el, hlc, hlm⟩ := h.form
  cases el
  have HA := Lib.hid h
  have HP := Lib.hid ha
  obtain ⟨pA, pc, rfl, _, _⟩ := hps.form
  have HQ := Lib.hid hps
  have hb1 := (Blk.new W #[.int .i64 n, .int .i64 z, .slice B acts.length lc] 42).alloc (.cells #[.int .i64 a.kind, .slice rA a.recs.length rc, .int .i64 a.left, .slice iA a.ps.length ic] 49)
  have hb2 := Blk.new (W.alloc (.cells #[.int .i64 n, .int .i64 z, .slice B acts.length lc] 42)) #[.int .i64 a.kind, .slice rA a.recs.length rc, .int .i64 a.left, .slice iA a.ps.length ic] 49
  rw [World.size_alloc] at hb2
  have HB := Lib.hid hb1
  have HX := Lib.hid hb2
  have al := ((Below.refl W.heap.size W).alloc (Nat.le_refl _) (.cells #[.int .i64 n, .int .i64 z, .slice B acts.length lc] 42)).alloc (by simp) (.cells #[.int .i64 a.kind, .slice rA a.recs.length rc, .int .i64 a.left, .slice iA a.ps.length ic] 49)
  clear hb1 hb2
  go_enter Try.func8, Try.ntmps8
  go_upto_region 1 with (fail)
  replace HA := Lib.hid (HA.out.keep (Keeps.of_below al))
  replace HP := Lib.hid (HP.out.keep (Keeps.of_below al))
  replace HQ := Lib.hid (HQ.out.keep (Keeps.of_below al))
  replace K := Lib.hid (K.out.trans (al.mono K.out.size))
  clear al
  generalize (W.alloc (.cells #[.int .i64 n, .int .i64 z, .slice B acts.length lc] 42)).alloc (.cells #[.int .i64 a.kind, .slice rA a.recs.length rc, .int .i64 a.left, .slice iA a.ps.length ic] 49) = w0 at *
  have C1 := Lib.hid (reached_any w0 n z hz0 B lc acts HA.out)
  obtain ⟨o00, o01, o02, _, _, _⟩ := blk3 HB.out
  go_wp2_with fail
  refine C1.out.mono ?_
  rintro e w1 ⟨vs, vp, rfl, hD, hb1⟩
  clear C1 o00 o01 o02
  have HD0 := Lib.hid hD
  clear hD
  have HJ : Hid (fineB n z acts = true → ∃ s un, Jst (rchD n z acts) s un ∧ (rchD n z acts).size = z ∧ ((rchD n z acts).secs.length : Int) = n ∧ 1 ≤ z ∧ z ≤ 16) := rch_true
  generalize rchD n z acts = D at *
  obtain ⟨A, c, P, cp, rfl, rfl, _, _, _, _⟩ := HD0.out.form
  replace HA := Lib.hid (HA.out.keep (Keeps.of_below hb1))
  replace HP := Lib.hid (HP.out.keep (Keeps.of_below hb1))
  replace HQ := Lib.hid (HQ.out.keep (Keeps.of_below hb1))
  replace HB := Lib.hid (HB.out.keep hb1)
  replace HX := Lib.hid (HX.out.keep hb1)
  replace K := Lib.hid (K.out.trans (hb1.mono K.out.size))
  clear hb1
  have al2 : Below w1.heap.size w1 (w1.alloc (.cells #[.int .i64 D.size, .slice A D.secs.length c, .slice P D.pend.length cp, .int .i64 D.left] 25)) := (Below.refl _ _).alloc (Nat.le_refl _) _
  have VD := Lib.hid (Var.new HD0.out)
  have gl2 := K.out.size
  replace HA := Lib.hid (HA.out.keep (Keeps.of_below al2))
  replace HP := Lib.hid (HP.out.keep (Keeps.of_below al2))
  replace HQ := Lib.hid (HQ.out.keep (Keeps.of_below al2))
  replace HB := Lib.hid (HB.out.keep al2)
  replace HX := Lib.hid (HX.out.keep al2)
  replace K := Lib.hid (K.out.trans (al2.mono K.out.size))
  clear al2
  go_upto_region 2 with (fail)
  generalize w1.alloc (.cells #[.int .i64 D.size, .slice A D.secs.length c, .slice P D.pend.length cp, .int .i64 D.left] 25) = w2 at *
  generalize w1.heap.size = g2 at *
  clear HD0
  cases hf : fineB n z acts with
  | false =>
    clear hf
    have C3 := Lib.hid (awake_any w2)
    go_wp2_with fail
    refine C3.out.mono ?_
    rintro e w3 ⟨rfl, hb3⟩
    clear C3
    replace HA := Lib.hid (HA.out.keep (Keeps.of_below hb3))
    replace HP := Lib.hid (HP.out.keep (Keeps.of_below hb3))
    replace HQ := Lib.hid (HQ.out.keep (Keeps.of_below hb3))
    replace HX := Lib.hid (HX.out.keep hb3)
    replace VD := Lib.hid (VD.out.keep hb3)
    replace K := Lib.hid (K.out.trans (hb3.mono K.out.size))
    clear hb3
    go_wp2
    go_ret
    exact ⟨rfl, K.out⟩
  | true =>
    obtain ⟨s0, un, hJ, -, -, -, -⟩ := HJ.out hf
    replace HJ := Lib.hid hJ
    clear hJ hf
    have C4 := Lib.hid (fine_any (w2.alloc (.cells #[.int .i64 a.kind, .slice rA a.recs.length rc, .int .i64 a.left, .slice iA a.ps.length ic] 49)) 3 1 (by omega) (some ⟨w2.heap.size, 0, none⟩) 1 [a] (acts_one w2 HP.out))
    have al4 : Below w2.heap.size w2 (w2.alloc (.cells #[.int .i64 a.kind, .slice rA a.recs.length rc, .int .i64 a.left, .slice iA a.ps.length ic] 49)) := (Below.refl _ _).alloc (Nat.le_refl _) _
    obtain ⟨o00, o01, o02, o03⟩ := box4 HX.out (Below.refl _ _)
    go_wp2_with fail
    refine C4.out.mono ?_
    rintro e w4 ⟨rfl, hbx⟩
    have hb4 := al4.trans (hbx.mono al4.size)
    clear C4 hbx al4 o00 o01 o02 o03
    replace HA := Lib.hid (HA.out.keep (Keeps.of_below hb4))
    replace HP := Lib.hid (HP.out.keep (Keeps.of_below hb4))
    replace HQ := Lib.hid (HQ.out.keep (Keeps.of_below hb4))
    replace HX := Lib.hid (HX.out.keep hb4)
    replace VD := Lib.hid (VD.out.keep hb4)
    replace K := Lib.hid (K.out.trans (hb4.mono K.out.size))
    clear hb4
    cases hg : fineB 3 1 [a] with
    | false =>
      clear hg
      have C5 := Lib.hid (awake_any w4)
      go_wp2_with fail
      refine C5.out.mono ?_
      rintro e w5 ⟨rfl, hb5⟩
      clear C5
      replace HA := Lib.hid (HA.out.keep (Keeps.of_below hb5))
      replace HP := Lib.hid (HP.out.keep (Keeps.of_below hb5))
      replace HQ := Lib.hid (HQ.out.keep (Keeps.of_below hb5))
      replace HX := Lib.hid (HX.out.keep hb5)
      replace VD := Lib.hid (VD.out.keep hb5)
      replace K := Lib.hid (K.out.trans (hb5.mono K.out.size))
      clear hb5
      go_wp2
      go_ret
      exact ⟨rfl, K.out⟩
    | true =>
      clear hg
      obtain ⟨pl, hpl⟩ : ∃ pl : Nat, pl = D.pend.length := ⟨_, rfl⟩
      have HPL := Lib.hid hpl
      clear hpl
      by_cases hc1 : 30 < (ps.length : Int)
      · obtain ⟨o00, o01, o02, o03, _⟩ := VD.out.facts
        obtain ⟨o10, o11, o12, o13⟩ := box4 HX.out (Below.refl _ _)
        rw [← HPL.out] at o02
        have C6 := Lib.hid (awake_any w4)
        go_wp2_with fail
        refine C6.out.mono ?_
        rintro e w6 ⟨rfl, hb6⟩
        clear C6
        replace HA := Lib.hid (HA.out.keep (Keeps.of_below hb6))
        replace HP := Lib.hid (HP.out.keep (Keeps.of_below hb6))
        replace HQ := Lib.hid (HQ.out.keep (Keeps.of_below hb6))
        replace HX := Lib.hid (HX.out.keep hb6)
        replace VD := Lib.hid (VD.out.keep hb6)
        replace K := Lib.hid (K.out.trans (hb6.mono K.out.size))
        clear hb6
        clear o00 o01 o02 o03 o10 o11 o12 o13
        go_wp2
        go_ret
        exact ⟨rfl, K.out⟩
      by_cases hc2 : 0 < (pl : Int)
      · obtain ⟨o00, o01, o02, o03, _⟩ := VD.out.facts
        obtain ⟨o10, o11, o12, o13⟩ := box4 HX.out (Below.refl _ _)
        rw [← HPL.out] at o02
        have C7 := Lib.hid (awake_any w4)
        go_wp2_with fail
        refine C7.out.mono ?_
        rintro e w7 ⟨rfl, hb7⟩
        clear C7
        replace HA := Lib.hid (HA.out.keep (Keeps.of_below hb7))
        replace HP := Lib.hid (HP.out.keep (Keeps.of_below hb7))
        replace HQ := Lib.hid (HQ.out.keep (Keeps.of_below hb7))
        replace HX := Lib.hid (HX.out.keep hb7)
        replace VD := Lib.hid (VD.out.keep hb7)
        replace K := Lib.hid (K.out.trans (hb7.mono K.out.size))
        clear hb7
        clear o00 o01 o02 o03 o10 o11 o12 o13
        go_wp2
        go_ret
        exact ⟨rfl, K.out⟩
      by_cases hc3 : a.kind < 0
      · obtain ⟨o00, o01, o02, o03, _⟩ := VD.out.facts
        obtain ⟨o10, o11, o12, o13⟩ := box4 HX.out (Below.refl _ _)
        rw [← HPL.out] at o02
        have C8 := Lib.hid (awake_any w4)
        go_wp2_with fail
        refine C8.out.mono ?_
        rintro e w8 ⟨rfl, hb8⟩
        clear C8
        replace HA := Lib.hid (HA.out.keep (Keeps.of_below hb8))
        replace HP := Lib.hid (HP.out.keep (Keeps.of_below hb8))
        replace HQ := Lib.hid (HQ.out.keep (Keeps.of_below hb8))
        replace HX := Lib.hid (HX.out.keep hb8)
        replace VD := Lib.hid (VD.out.keep hb8)
        replace K := Lib.hid (K.out.trans (hb8.mono K.out.size))
        clear hb8
        clear o00 o01 o02 o03 o10 o11 o12 o13
        go_wp2
        go_ret
        exact ⟨rfl, K.out⟩
      by_cases hc4 : 1 < a.kind
      · obtain ⟨o00, o01, o02, o03, _⟩ := VD.out.facts
        obtain ⟨o10, o11, o12, o13⟩ := box4 HX.out (Below.refl _ _)
        rw [← HPL.out] at o02
        have C9 := Lib.hid (awake_any w4)
        go_wp2_with fail
        refine C9.out.mono ?_
        rintro e w9 ⟨rfl, hb9⟩
        clear C9
        replace HA := Lib.hid (HA.out.keep (Keeps.of_below hb9))
        replace HP := Lib.hid (HP.out.keep (Keeps.of_below hb9))
        replace HQ := Lib.hid (HQ.out.keep (Keeps.of_below hb9))
        replace HX := Lib.hid (HX.out.keep hb9)
        replace VD := Lib.hid (VD.out.keep hb9)
        replace K := Lib.hid (K.out.trans (hb9.mono K.out.size))
        clear hb9
        clear o00 o01 o02 o03 o10 o11 o12 o13
        go_wp2
        go_ret
        exact ⟨rfl, K.out⟩
      obtain rfl : pl = 0 := by omega
      have hp0 : D.pend = [] := List.length_eq_zero_iff.1 (by have := HPL.out; omega)
      have hk : a.kind = 0 ∨ a.kind = 1 := by omega
      have HDU := Lib.hid (fun he => durable_ok HJ.out hp0 a hk he ps)
      have HPN := Lib.hid HJ.out.valid.2.2
      have HPM := Lib.hid (HJ.out.step a).1.valid.2.2
      clear hp0 hk HJ
      have C10 := do_any w4 A c P cp D VD.out.dk (by have := HPN.out; omega) rA rc iA ic a HP.out
      rw [← HPL.out] at C10
      have C10 := Lib.hid C10
      obtain ⟨o00, o01, o02, o03, _⟩ := VD.out.facts
      obtain ⟨o10, o11, o12, o13⟩ := box4 HX.out (Below.refl _ _)
      rw [← HPL.out] at o02
      go_wp2_with fail
      refine C10.out.mono ?_
      rintro e w10 ⟨vs10, vp10, rfl, hD10, hb10⟩
      clear C10 o00 o01 o02 o03 o10 o11 o12 o13
      obtain ⟨A2, c2, P2, cp2, rfl, rfl, _, _, _, _⟩ := hD10.form
      have HD2 := Lib.hid hD10
      clear hD10
      obtain ⟨D2, hD2⟩ : ∃ x, x = (doD D a).1 := ⟨_, rfl⟩
      obtain ⟨N2, hN2⟩ : ∃ x, x = (doD D a).2 := ⟨_, rfl⟩
      rw [← hD2, ← hN2] at HDU
      rw [← hD2] at HPM HD2 ⊢
      rw [← hN2]
      clear hD2 hN2
      replace HA := Lib.hid (HA.out.keep (Keeps.of_below hb10))
      replace HP := Lib.hid (HP.out.keep (Keeps.of_below hb10))
      replace HQ := Lib.hid (HQ.out.keep (Keeps.of_below hb10))
      replace HX := Lib.hid (HX.out.keep hb10)
      replace VD := Lib.hid (VD.out.keep hb10)
      replace K := Lib.hid (K.out.trans (hb10.mono K.out.size))
      clear hb10
      have al11 : Below w10.heap.size w10 (w10.alloc (.cells #[.int .i64 D2.size, .slice A2 D2.secs.length c2, .slice P2 D2.pend.length cp2, .int .i64 D2.left] 25)) := (Below.refl _ _).alloc (Nat.le_refl _) _
      have V2 := Lib.hid (Var.new HD2.out)
      have gl11 := K.out.size
      replace HA := Lib.hid (HA.out.keep (Keeps.of_below al11))
      replace HP := Lib.hid (HP.out.keep (Keeps.of_below al11))
      replace HQ := Lib.hid (HQ.out.keep (Keeps.of_below al11))
      replace HX := Lib.hid (HX.out.keep al11)
      replace VD := Lib.hid (VD.out.keep al11)
      replace K := Lib.hid (K.out.trans (al11.mono K.out.size))
      clear al11
      go_upto_region 5 with (fail)
      generalize w10.alloc (.cells #[.int .i64 D2.size, .slice A2 D2.secs.length c2, .slice P2 D2.pend.length cp2, .int .i64 D2.left] 25) = w11 at *
      generalize w10.heap.size = g11 at *
      clear HD2
      clear VD HX HP hc1 hc2 hc3 hc4
      by_cases h2 : N2 = 0
      · subst h2
        obtain ⟨hp2, x, hr1, hr2⟩ := HDU.out rfl
        have HR1 := Lib.hid hr1
        have HR2 := Lib.hid hr2
        have HP2 := Lib.hid hp2
        clear hr1 hr2 hp2 HDU
        have C12 := records_any w11 _ _ D2 V2.out.dk
        rw [HR1.out] at C12
        have C12 := Lib.hid C12
        obtain ⟨o00, o01, o02, o03, _⟩ := V2.out.facts
        go_wp2_with fail
        refine C12.out.mono ?_
        rintro e w12 ⟨v12, rfl, ht12, hb12⟩
        clear C12 o00 o01 o02 o03
        obtain ⟨rA2, rc2, rfl, hrl2, hrm2⟩ := Txs.form ht12
        have HT2 := Lib.hid ht12
        simp only at HT2
        clear ht12
        replace HA := Lib.hid (HA.out.keep (Keeps.of_below hb12))
        replace HQ := Lib.hid (HQ.out.keep (Keeps.of_below hb12))
        replace V2 := Lib.hid (V2.out.keep hb12)
        replace K := Lib.hid (K.out.trans (hb12.mono K.out.size))
        clear hb12
        have C13 := Lib.hid (cut_any w12 _ _ _ D2 V2.out.dk (by have := HPM.out; omega) ps HQ.out)
        obtain ⟨o00, o01, o02, o03, _⟩ := V2.out.facts
        go_wp2_with fail
        refine C13.out.mono ?_
        rintro e w13 ⟨vs13, vp13, rfl, hD13, hb13⟩
        clear C13 o00 o01 o02 o03
        have HD3 := Lib.hid hD13
        clear hD13
        generalize cutD D2 ps = D3 at *
        replace HA := Lib.hid (HA.out.keep (Keeps.of_below hb13))
        replace HQ := Lib.hid (HQ.out.keep (Keeps.of_below hb13))
        replace V2 := Lib.hid (V2.out.keep hb13)
        replace HT2 := Lib.hid (HT2.out.keep (Keeps.of_below hb13))
        replace K := Lib.hid (K.out.trans (hb13.mono K.out.size))
        clear hb13
        have C14 := records_any w13 _ _ D3 HD3.out
        rw [HR2.out] at C14
        have C14 := Lib.hid C14
        go_wp2_with fail
        refine C14.out.mono ?_
        rintro e w14 ⟨v14, rfl, ht14, hb14⟩
        clear C14
        obtain ⟨rA3, rc3, rfl, hrl3, hrm3⟩ := Txs.form ht14
        have HT3 := Lib.hid ht14
        simp only at HT3
        clear ht14
        replace HA := Lib.hid (HA.out.keep (Keeps.of_below hb14))
        replace HQ := Lib.hid (HQ.out.keep (Keeps.of_below hb14))
        replace V2 := Lib.hid (V2.out.keep hb14)
        replace HT2 := Lib.hid (HT2.out.keep (Keeps.of_below hb14))
        replace HD3 := Lib.hid (HD3.out.keep (Keeps.of_below hb14))
        replace K := Lib.hid (K.out.trans (hb14.mono K.out.size))
        clear hb14
        have C15 := rsame_any w14 rA2 rc2 x HT2.out rA3 rc3 x HT3.out
        rw [decide_eq_true (rfl : x = x)] at C15
        have C15 := Lib.hid C15
        go_wp2_with fail
        refine C15.out.mono ?_
        rintro e w15 ⟨rfl, hb15⟩
        clear C15
        replace HA := Lib.hid (HA.out.keep (Keeps.of_below hb15))
        replace HQ := Lib.hid (HQ.out.keep (Keeps.of_below hb15))
        replace V2 := Lib.hid (V2.out.keep hb15)
        replace HT2 := Lib.hid (HT2.out.keep (Keeps.of_below hb15))
        replace HD3 := Lib.hid (HD3.out.keep (Keeps.of_below hb15))
        replace HT3 := Lib.hid (HT3.out.keep (Keeps.of_below hb15))
        replace K := Lib.hid (K.out.trans (hb15.mono K.out.size))
        clear hb15
        have C16 := Lib.hid (awake_any w15)
        obtain ⟨o00, o01, o02, o03, _⟩ := V2.out.facts
        rw [show D2.pend.length = 0 by rw [HP2.out]; rfl] at o02
        go_wp2_with fail
        refine C16.out.mono ?_
        rintro e w16 ⟨rfl, hb16⟩
        clear C16 o00 o01 o02 o03
        replace HA := Lib.hid (HA.out.keep (Keeps.of_below hb16))
        replace HQ := Lib.hid (HQ.out.keep (Keeps.of_below hb16))
        replace V2 := Lib.hid (V2.out.keep hb16)
        replace HT2 := Lib.hid (HT2.out.keep (Keeps.of_below hb16))
        replace HD3 := Lib.hid (HD3.out.keep (Keeps.of_below hb16))
        replace HT3 := Lib.hid (HT3.out.keep (Keeps.of_below hb16))
        replace K := Lib.hid (K.out.trans (hb16.mono K.out.size))
        clear hb16
        go_wp2
        go_ret
        exact ⟨rfl, K.out⟩
      · have hn2 : (N2 != 0) = true := by simpa using h2
        clear h2
        have C17 := Lib.hid (awake_any w11)
        go_wp2_with fail
        refine C17.out.mono ?_
        rintro e w17 ⟨rfl, hb17⟩
        clear C17
        replace HA := Lib.hid (HA.out.keep (Keeps.of_below hb17))
        replace HQ := Lib.hid (HQ.out.keep (Keeps.of_below hb17))
        replace V2 := Lib.hid (V2.out.keep hb17)
        replace K := Lib.hid (K.out.trans (hb17.mono K.out.size))
        clear hb17
        go_wp2
        go_ret
        exact ⟨rfl, K.out⟩
theorem law_durableP (W : World) (v : Value) (x : Int × Int × List ActJ) (s : RunP W v x) (v1 : Value) (a : ActJ) (s1 : ActQ W v1 a) (v2 : Value) (ps : List Int) (s2 : Ints W v2 ps) :
    Calls Try.prog 8 #[v, v1, v2] W fun e w' => e = .returned (.bool true) ∧ Below W.heap.size W w' := by
  obtain ⟨B, lc, rfl, h, hr, hz⟩ := s
  obtain ⟨rA, rc, iA, ic, rfl, ha⟩ := s1
  exact law_durable W _ _ hz.1 B lc _ h rA rc iA ic a ha v2 ps s2
end Go.Proofs.Ytockmhhiomdlkaa
