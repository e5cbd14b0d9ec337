/- Law: JournalContents. JournalContents, with its arguments opened. -/
import Derived.Test.YtockmhhiomdlkaaJw
import Derived.Test.YtockmhhiomdlkaaOp
namespace Go.Proofs.Ytockmhhiomdlkaa
set_option linter.unusedVariables false
set_option linter.unusedSimpArgs false
open Go.RowKit

theorem rch_true {n z : Int} {acts : List ActJ} (h : fineB n z acts = true) : ∃ s un, Jst (rchD n z acts) s un ∧ (rchD n z acts).size = z ∧ ((rchD n z acts).secs.length : Int) = n ∧ 1 ≤ z ∧ z ≤ 16 := by
  obtain ⟨⟨f1, f2, f3, f4, f5⟩, f6⟩ := fineB_true h
  obtain ⟨m, rfl⟩ := Int.eq_ofNat_of_zero_le (show 0 ≤ n by omega)
  obtain ⟨y, rfl⟩ := Int.eq_ofNat_of_zero_le (show 0 ≤ z by omega)
  have e : rchD m y acts = reachD m y acts := if_pos h
  rw [e]
  obtain ⟨s, un, h1, h2, h3⟩ := reach_jst (n := m) (z := y) (by omega) (by omega) (by omega) (by omega) acts
  exact ⟨s, un, h1, h2, by omega, by omega, by omega⟩
set_option maxRecDepth 100000 in
set_option maxHeartbeats 4000000 in
theorem law_contents (W : World) (n z : Int) (hz0 : -9223372036854775808 ≤ z) (B : Option Addr) (lc : Nat) (acts : List ActJ) (h : Acts W (.slice B acts.length lc) acts) (lA : Option Addr) (lcap : Nat) (l : List Txt) (hl : Txs W (.slice lA l.length lcap) l) :
    Calls Try.prog 7 #[.agg #[.int .i64 n, .int .i64 z, .slice B acts.length lc], .slice lA l.length lcap] W fun e w' => e = .returned (.bool true) ∧ Below W.heap.size W w' := by
  obtain ⟨_, _, el2, hl1, hl2⟩ := Txs.form hl
  cases el2
  have HL := Lib.hid hl
  have K := Lib.hid (Below.refl W.heap.size W)
  obtain ⟨_, _, el, hlc, hlm⟩ := h.form
  cases el
  have HA := Lib.hid h
  go_enter Try.func7, Try.ntmps7
  have al1 : Below W.heap.size W (W.alloc (.cells #[.int .i64 n, .int .i64 z, .slice B acts.length lc] 42)) := (Below.refl _ _).alloc (Nat.le_refl _) _
  have HB := Lib.hid (Blk.new W #[.int .i64 n, .int .i64 z, .slice B acts.length lc] 42)
  have gl1 := K.out.size
  replace HA := Lib.hid (HA.out.keep (Keeps.of_below al1))
  replace HL := Lib.hid (HL.out.keep (Keeps.of_below al1))
  replace K := Lib.hid (K.out.trans (al1.mono K.out.size))
  clear al1
  go_upto_region 1 with (fail)
  generalize W.alloc (.cells #[.int .i64 n, .int .i64 z, .slice B acts.length lc] 42) = w1 at *
  have C2 := Lib.hid (reached_any w1 n z hz0 B lc acts HA.out)
  obtain ⟨o00, o01, o02, _, _, _⟩ := blk3 HB.out
  go_wp2_with fail
  refine C2.out.mono ?_
  rintro e w2 ⟨vs, vp, rfl, hD, hb2⟩
  clear C2 o00 o01 o02
  have HD0 := Lib.hid hD
  clear hD
  have HJ : Hid (fineB n z acts = true → ∃ s un, Jst (rchD n z acts) s un ∧ (rchD n z acts).size = z ∧ ((rchD n z acts).secs.length : Int) = n ∧ 1 ≤ z ∧ z ≤ 16) := rch_true
  generalize rchD n z acts = D at *
  obtain ⟨A, c, P, cp, rfl, rfl, _, _, _, _⟩ := HD0.out.form
  replace HA := Lib.hid (HA.out.keep (Keeps.of_below hb2))
  replace HL := Lib.hid (HL.out.keep (Keeps.of_below hb2))
  replace HB := Lib.hid (HB.out.keep hb2)
  replace K := Lib.hid (K.out.trans (hb2.mono K.out.size))
  clear hb2
  have al3 : Below w2.heap.size w2 (w2.alloc (.cells #[.int .i64 D.size, .slice A D.secs.length c, .slice P D.pend.length cp, .int .i64 D.left] 25)) := (Below.refl _ _).alloc (Nat.le_refl _) _
  have VD := Lib.hid (Var.new HD0.out)
  have gl3 := K.out.size
  replace HA := Lib.hid (HA.out.keep (Keeps.of_below al3))
  replace HL := Lib.hid (HL.out.keep (Keeps.of_below al3))
  replace HB := Lib.hid (HB.out.keep al3)
  replace K := Lib.hid (K.out.trans (al3.mono K.out.size))
  clear al3
  go_upto_region 2 with (fail)
  generalize w2.alloc (.cells #[.int .i64 D.size, .slice A D.secs.length c, .slice P D.pend.length cp, .int .i64 D.left] 25) = w3 at *
  generalize w2.heap.size = g3 at *
  clear HD0
  cases hf : fineB n z acts with
  | false =>
    clear hf
    have C4 := Lib.hid (awake_any w3)
    go_wp2_with fail
    refine C4.out.mono ?_
    rintro e w4 ⟨rfl, hb4⟩
    clear C4
    replace HA := Lib.hid (HA.out.keep (Keeps.of_below hb4))
    replace HL := Lib.hid (HL.out.keep (Keeps.of_below hb4))
    replace VD := Lib.hid (VD.out.keep hb4)
    replace K := Lib.hid (K.out.trans (hb4.mono K.out.size))
    clear hb4
    go_wp2
    go_ret
    exact ⟨rfl, K.out⟩
  | true =>
    obtain ⟨s0, un, hJ, -, -, -, -⟩ := HJ.out hf
    replace HJ := Lib.hid hJ
    clear hJ hf
    have C5 := Lib.hid (rgreat_any w3 lA lcap l HL.out)
    go_wp2_with fail
    refine C5.out.mono ?_
    rintro e w5 ⟨rfl, hb5⟩
    clear C5
    replace HA := Lib.hid (HA.out.keep (Keeps.of_below hb5))
    replace HL := Lib.hid (HL.out.keep (Keeps.of_below hb5))
    replace VD := Lib.hid (VD.out.keep hb5)
    replace K := Lib.hid (K.out.trans (hb5.mono K.out.size))
    clear hb5
    cases hg : grtT l with
    | true =>
      clear hg
      have C6 := Lib.hid (awake_any w5)
      go_wp2_with fail
      refine C6.out.mono ?_
      rintro e w6 ⟨rfl, hb6⟩
      clear C6
      replace HA := Lib.hid (HA.out.keep (Keeps.of_below hb6))
      replace HL := Lib.hid (HL.out.keep (Keeps.of_below hb6))
      replace VD := Lib.hid (VD.out.keep hb6)
      replace K := Lib.hid (K.out.trans (hb6.mono K.out.size))
      clear hb6
      go_wp2
      go_ret
      exact ⟨rfl, K.out⟩
    | false =>
      obtain ⟨r, hr0, hr1, hr2⟩ := contents_ok HJ.out l
      have HR0 := Lib.hid hr0
      have HR1 := Lib.hid hr1
      have HR2 := Lib.hid hr2
      have HP0 := Lib.hid HJ.out.valid.2.2
      have HP1 := Lib.hid (app_pend' HJ.out l)
      have HP2 := Lib.hid (rew_pend' HJ.out l)
      have HG := Lib.hid (grtT_false hg)
      have HRC := Lib.hid (HJ.out.count hr0)
      clear hr0 hr1 hr2 HJ hg
      have C7 := records_any w5 _ _ D VD.out.dk
      rw [HR0.out] at C7
      have C7 := Lib.hid C7
      obtain ⟨o00, o01, o02, o03, _⟩ := VD.out.facts
      go_wp2_with fail
      refine C7.out.mono ?_
      rintro e w7 ⟨v7, rfl, ht7, hb7⟩
      clear C7 o00 o01 o02 o03
      obtain ⟨rA, rc, rfl, hrl, hrm⟩ := Txs.form ht7
      have HT := Lib.hid ht7
      simp only at HT
      clear ht7
      replace HA := Lib.hid (HA.out.keep (Keeps.of_below hb7))
      replace HL := Lib.hid (HL.out.keep (Keeps.of_below hb7))
      replace VD := Lib.hid (VD.out.keep hb7)
      replace K := Lib.hid (K.out.trans (hb7.mono K.out.size))
      clear hb7
      have C8 := Lib.hid (append_any w7 _ _ D VD.out.dk (by have := HP0.out; omega) lA lcap l HL.out)
      obtain ⟨o00, o01, o02, o03, _⟩ := VD.out.facts
      go_wp2_with fail
      refine C8.out.mono ?_
      rintro e w8 ⟨vs8, vp8, rfl, hD8, hb8⟩
      clear C8 o00 o01 o02 o03
      obtain ⟨A2, c2, P2, cp2, rfl, rfl, _, _, _, _⟩ := hD8.form
      have HD2 := Lib.hid hD8
      clear hD8
      obtain ⟨D2, hD2⟩ : ∃ x, x = (appD D l).1 := ⟨_, rfl⟩
      obtain ⟨N2, hN2⟩ : ∃ x, x = (appD D l).2 := ⟨_, rfl⟩
      rw [← hD2, ← hN2] at HR1
      rw [← hD2] at HP1 HD2 ⊢
      rw [← hN2]
      clear hD2 hN2
      replace HA := Lib.hid (HA.out.keep (Keeps.of_below hb8))
      replace HL := Lib.hid (HL.out.keep (Keeps.of_below hb8))
      replace VD := Lib.hid (VD.out.keep hb8)
      replace HT := Lib.hid (HT.out.keep (Keeps.of_below hb8))
      replace K := Lib.hid (K.out.trans (hb8.mono K.out.size))
      clear hb8
      have al9 : Below w8.heap.size w8 (w8.alloc (.cells #[.int .i64 D2.size, .slice A2 D2.secs.length c2, .slice P2 D2.pend.length cp2, .int .i64 D2.left] 25)) := (Below.refl _ _).alloc (Nat.le_refl _) _
      have V2 := Lib.hid (Var.new HD2.out)
      have gl9 := K.out.size
      replace HA := Lib.hid (HA.out.keep (Keeps.of_below al9))
      replace HL := Lib.hid (HL.out.keep (Keeps.of_below al9))
      replace VD := Lib.hid (VD.out.keep al9)
      replace HT := Lib.hid (HT.out.keep (Keeps.of_below al9))
      replace K := Lib.hid (K.out.trans (al9.mono K.out.size))
      clear al9
      go_upto_region 6 with (fail)
      generalize w8.alloc (.cells #[.int .i64 D2.size, .slice A2 D2.secs.length c2, .slice P2 D2.pend.length cp2, .int .i64 D2.left] 25) = w9 at *
      generalize w8.heap.size = g9 at *
      clear HD2
      have C10 := Lib.hid (rewrite_any w9 _ _ D VD.out.dk (by have := HP0.out; omega) lA lcap l HL.out)
      obtain ⟨o00, o01, o02, o03, _⟩ := VD.out.facts
      go_wp2_with fail
      refine C10.out.mono ?_
      rintro e w10 ⟨vs10, vp10, rfl, hD10, hb10⟩
      clear C10 o00 o01 o02 o03
      obtain ⟨A3, c3, P3, cp3, rfl, rfl, _, _, _, _⟩ := hD10.form
      have HD3 := Lib.hid hD10
      clear hD10
      obtain ⟨D3, hD3⟩ : ∃ x, x = (rewD D l).1 := ⟨_, rfl⟩
      obtain ⟨N3, hN3⟩ : ∃ x, x = (rewD D l).2 := ⟨_, rfl⟩
      rw [← hD3, ← hN3] at HR2
      rw [← hD3] at HP2 HD3 ⊢
      rw [← hN3]
      clear hD3 hN3
      replace HA := Lib.hid (HA.out.keep (Keeps.of_below hb10))
      replace HL := Lib.hid (HL.out.keep (Keeps.of_below hb10))
      replace VD := Lib.hid (VD.out.keep hb10)
      replace HT := Lib.hid (HT.out.keep (Keeps.of_below hb10))
      replace V2 := Lib.hid (V2.out.keep hb10)
      replace K := Lib.hid (K.out.trans (hb10.mono K.out.size))
      clear hb10
      have al11 : Below w10.heap.size w10 (w10.alloc (.cells #[.int .i64 D3.size, .slice A3 D3.secs.length c3, .slice P3 D3.pend.length cp3, .int .i64 D3.left] 25)) := (Below.refl _ _).alloc (Nat.le_refl _) _
      have V3 := Lib.hid (Var.new HD3.out)
      have gl11 := K.out.size
      replace HA := Lib.hid (HA.out.keep (Keeps.of_below al11))
      replace HL := Lib.hid (HL.out.keep (Keeps.of_below al11))
      replace VD := Lib.hid (VD.out.keep al11)
      replace HT := Lib.hid (HT.out.keep (Keeps.of_below al11))
      replace V2 := Lib.hid (V2.out.keep al11)
      replace K := Lib.hid (K.out.trans (al11.mono K.out.size))
      clear al11
      go_upto_region 7 with (fail)
      generalize w10.alloc (.cells #[.int .i64 D3.size, .slice A3 D3.secs.length c3, .slice P3 D3.pend.length cp3, .int .i64 D3.left] 25) = w11 at *
      generalize w10.heap.size = g11 at *
      clear HD3
      clear VD HR0 HP0
      by_cases h2 : N2 = 0
      · subst h2
        have HR1 := Lib.hid (HR1.out rfl)
        have C12 := records_any w11 _ _ D2 V2.out.dk
        rw [HR1.out] at C12
        have C12 := Lib.hid C12
        obtain ⟨o00, o01, o02, o03, _⟩ := V2.out.facts
        go_wp2_with fail
        refine C12.out.mono ?_
        rintro e w12 ⟨v12, rfl, ht12, hb12⟩
        clear C12 o00 o01 o02 o03
        obtain ⟨rA2, rc2, rfl, hrl2, hrm2⟩ := Txs.form ht12
        have HT2 := Lib.hid ht12
        simp only at HT2
        clear ht12
        replace HA := Lib.hid (HA.out.keep (Keeps.of_below hb12))
        replace HL := Lib.hid (HL.out.keep (Keeps.of_below hb12))
        replace HT := Lib.hid (HT.out.keep (Keeps.of_below hb12))
        replace V2 := Lib.hid (V2.out.keep hb12)
        replace V3 := Lib.hid (V3.out.keep hb12)
        replace K := Lib.hid (K.out.trans (hb12.mono K.out.size))
        clear hb12
        obtain ⟨i1, hi1, hy0, hy1, hy2⟩ := info_parts Try.info_str
        go_upto_region 11 with (fail)
        have HTC := Lib.hid (txs_one HT.out)
        have HLC := Lib.hid (txs_one HL.out)
        have hrc := HRC.out
        have hlc2 := HG.out.1
        have HE0 := Lib.hid (own_empty w12 9 1)
        have al0 : Below w12.heap.size w12 (w12.alloc (.cells #[] 9)) := (Below.refl _ _).alloc (Nat.le_refl _) _
        go_wp2_with (at_builtin; first
          | (refine wpList_append_anyG (by rfl) (.tmp 59) (.tmp 60) _ rfl w12.heap.size 9 i1 _ 1 16 Try.underlying22 hi1 hy0 hy1 hy2 rfl (by omega) (.slice (some ⟨w12.heap.size, 0, none⟩) 0 0) 0 _ rfl HE0.out rA r.length rc (r.map fun t => .string (strB t)) rfl (by simp) (HTC.out.keep (Keeps.of_below al0)) (by simp [Value.oneCell']) (by omega) (by omega) (by simp) ?_; intro va wa howna hgra hata; have kba := al0.grown hgra (by simp) (fun g hg => by cases hg; exact Nat.le_refl _); obtain ⟨aA, ac, rfl⟩ := own_form howna; simp only [Nat.zero_add, List.nil_append] at howna)
          | (go_must (refine wpList_append_anyG (by rfl) (.tmp 61) (.tmp 62) _ rfl w12.heap.size 9 i1 _ 1 16 Try.underlying22 hi1 hy0 hy1 hy2 rfl (by omega) (.slice aA r.length ac) r.length _ rfl howna lA l.length lcap (l.map fun t => .string (strB t)) rfl (by simp) (HLC.out.keep (Keeps.of_below kba)) (by simp [Value.oneCell']) (by omega) (by omega) kba.size ?_; intro vb wb hownb hgrb hatb; have kbb := kba.grown hgrb kba.size (fun g hg => (World.ownsRow.lt howna g hg).1); obtain ⟨bA, bc, rfl⟩ := own_form hownb)))
        have HLL : Hid (r.length + l.length = (r ++ l).length) := by show _ = _; rw [List.length_append]
        have HTJ := Lib.hid (txs_ownS (l := r ++ l) HLL.out (by rw [List.map_append]; exact hownb))
        clear howna hgra hata hownb hgrb hatb kba al0 HE0 HTC HLC hrc hlc2
        replace HA := Lib.hid (HA.out.keep (Keeps.of_below kbb))
        replace HL := Lib.hid (HL.out.keep (Keeps.of_below kbb))
        replace HT := Lib.hid (HT.out.keep (Keeps.of_below kbb))
        replace V2 := Lib.hid (V2.out.keep kbb)
        replace V3 := Lib.hid (V3.out.keep kbb)
        replace HT2 := Lib.hid (HT2.out.keep (Keeps.of_below kbb))
        replace K := Lib.hid (K.out.trans (kbb.mono K.out.size))
        clear kbb
        have C13 := rsame_any wb rA2 rc2 (r ++ l) HT2.out bA bc (r ++ l) (HLL.out ▸ HTJ.out)
        rw [decide_eq_true (rfl : r ++ l = r ++ l)] at C13
        simp only [List.length_append] at C13
        have C13 := Lib.hid C13
        go_wp2_with fail
        refine C13.out.mono ?_
        rintro e w13 ⟨rfl, hb13⟩
        clear C13
        replace HA := Lib.hid (HA.out.keep (Keeps.of_below hb13))
        replace HL := Lib.hid (HL.out.keep (Keeps.of_below hb13))
        replace HT := Lib.hid (HT.out.keep (Keeps.of_below hb13))
        replace V2 := Lib.hid (V2.out.keep hb13)
        replace V3 := Lib.hid (V3.out.keep hb13)
        replace HT2 := Lib.hid (HT2.out.keep (Keeps.of_below hb13))
        replace HTJ := Lib.hid (HTJ.out.keep (Keeps.of_below hb13))
        replace K := Lib.hid (K.out.trans (hb13.mono K.out.size))
        clear hb13
        by_cases h3 : N3 = 0
        · subst h3
          have HR2 := Lib.hid (HR2.out rfl)
          have C14 := records_any w13 _ _ D3 V3.out.dk
          rw [HR2.out] at C14
          have C14 := Lib.hid C14
          obtain ⟨o00, o01, o02, o03, _⟩ := V3.out.facts
          go_wp2_with fail
          refine C14.out.mono ?_
          rintro e w14 ⟨v14, rfl, ht14, hb14⟩
          clear C14 o00 o01 o02 o03
          obtain ⟨rA3, rc3, rfl, hrl3, hrm3⟩ := Txs.form ht14
          have HT3 := Lib.hid ht14
          simp only at HT3
          clear ht14
          replace HA := Lib.hid (HA.out.keep (Keeps.of_below hb14))
          replace HL := Lib.hid (HL.out.keep (Keeps.of_below hb14))
          replace HT := Lib.hid (HT.out.keep (Keeps.of_below hb14))
          replace V2 := Lib.hid (V2.out.keep hb14)
          replace V3 := Lib.hid (V3.out.keep hb14)
          replace HT2 := Lib.hid (HT2.out.keep (Keeps.of_below hb14))
          replace HTJ := Lib.hid (HTJ.out.keep (Keeps.of_below hb14))
          replace K := Lib.hid (K.out.trans (hb14.mono K.out.size))
          clear hb14
          have C15 := rsame_any w14 rA3 rc3 l HT3.out lA lcap l HL.out
          rw [decide_eq_true (rfl : l = l)] at C15
          have C15 := Lib.hid C15
          go_wp2_with fail
          refine C15.out.mono ?_
          rintro e w15 ⟨rfl, hb15⟩
          clear C15
          replace HA := Lib.hid (HA.out.keep (Keeps.of_below hb15))
          replace HL := Lib.hid (HL.out.keep (Keeps.of_below hb15))
          replace HT := Lib.hid (HT.out.keep (Keeps.of_below hb15))
          replace V2 := Lib.hid (V2.out.keep hb15)
          replace V3 := Lib.hid (V3.out.keep hb15)
          replace HT2 := Lib.hid (HT2.out.keep (Keeps.of_below hb15))
          replace HTJ := Lib.hid (HTJ.out.keep (Keeps.of_below hb15))
          replace HT3 := Lib.hid (HT3.out.keep (Keeps.of_below hb15))
          replace K := Lib.hid (K.out.trans (hb15.mono K.out.size))
          clear hb15
          have C16 := Lib.hid (awake_any w15)
          go_wp2_with fail
          refine C16.out.mono ?_
          rintro e w16 ⟨rfl, hb16⟩
          clear C16
          replace HA := Lib.hid (HA.out.keep (Keeps.of_below hb16))
          replace HL := Lib.hid (HL.out.keep (Keeps.of_below hb16))
          replace HT := Lib.hid (HT.out.keep (Keeps.of_below hb16))
          replace V2 := Lib.hid (V2.out.keep hb16)
          replace V3 := Lib.hid (V3.out.keep hb16)
          replace HT2 := Lib.hid (HT2.out.keep (Keeps.of_below hb16))
          replace HTJ := Lib.hid (HTJ.out.keep (Keeps.of_below hb16))
          replace HT3 := Lib.hid (HT3.out.keep (Keeps.of_below hb16))
          replace K := Lib.hid (K.out.trans (hb16.mono K.out.size))
          clear hb16
          go_wp2
          go_ret
          exact ⟨rfl, K.out⟩
        · have hn3 : (N3 == 0) = false := by simpa using h3
          clear h3
          have C17 := Lib.hid (awake_any w13)
          go_wp2_with fail
          refine C17.out.mono ?_
          rintro e w17 ⟨rfl, hb17⟩
          clear C17
          replace HA := Lib.hid (HA.out.keep (Keeps.of_below hb17))
          replace HL := Lib.hid (HL.out.keep (Keeps.of_below hb17))
          replace HT := Lib.hid (HT.out.keep (Keeps.of_below hb17))
          replace V2 := Lib.hid (V2.out.keep hb17)
          replace V3 := Lib.hid (V3.out.keep hb17)
          replace HT2 := Lib.hid (HT2.out.keep (Keeps.of_below hb17))
          replace HTJ := Lib.hid (HTJ.out.keep (Keeps.of_below hb17))
          replace K := Lib.hid (K.out.trans (hb17.mono K.out.size))
          clear hb17
          go_wp2
          go_ret
          exact ⟨rfl, K.out⟩
      · have hn2 : (N2 == 0) = false := by simpa using h2
        clear h2
        by_cases h3 : N3 = 0
        · subst h3
          have HR2 := Lib.hid (HR2.out rfl)
          have C18 := records_any w11 _ _ D3 V3.out.dk
          rw [HR2.out] at C18
          have C18 := Lib.hid C18
          obtain ⟨o00, o01, o02, o03, _⟩ := V3.out.facts
          go_wp2_with fail
          refine C18.out.mono ?_
          rintro e w18 ⟨v18, rfl, ht18, hb18⟩
          clear C18 o00 o01 o02 o03
          obtain ⟨rA3, rc3, rfl, hrl3, hrm3⟩ := Txs.form ht18
          have HT3 := Lib.hid ht18
          simp only at HT3
          clear ht18
          replace HA := Lib.hid (HA.out.keep (Keeps.of_below hb18))
          replace HL := Lib.hid (HL.out.keep (Keeps.of_below hb18))
          replace HT := Lib.hid (HT.out.keep (Keeps.of_below hb18))
          replace V2 := Lib.hid (V2.out.keep hb18)
          replace V3 := Lib.hid (V3.out.keep hb18)
          replace K := Lib.hid (K.out.trans (hb18.mono K.out.size))
          clear hb18
          have C19 := rsame_any w18 rA3 rc3 l HT3.out lA lcap l HL.out
          rw [decide_eq_true (rfl : l = l)] at C19
          have C19 := Lib.hid C19
          go_wp2_with fail
          refine C19.out.mono ?_
          rintro e w19 ⟨rfl, hb19⟩
          clear C19
          replace HA := Lib.hid (HA.out.keep (Keeps.of_below hb19))
          replace HL := Lib.hid (HL.out.keep (Keeps.of_below hb19))
          replace HT := Lib.hid (HT.out.keep (Keeps.of_below hb19))
          replace V2 := Lib.hid (V2.out.keep hb19)
          replace V3 := Lib.hid (V3.out.keep hb19)
          replace HT3 := Lib.hid (HT3.out.keep (Keeps.of_below hb19))
          replace K := Lib.hid (K.out.trans (hb19.mono K.out.size))
          clear hb19
          have C20 := Lib.hid (awake_any w19)
          go_wp2_with fail
          refine C20.out.mono ?_
          rintro e w20 ⟨rfl, hb20⟩
          clear C20
          replace HA := Lib.hid (HA.out.keep (Keeps.of_below hb20))
          replace HL := Lib.hid (HL.out.keep (Keeps.of_below hb20))
          replace HT := Lib.hid (HT.out.keep (Keeps.of_below hb20))
          replace V2 := Lib.hid (V2.out.keep hb20)
          replace V3 := Lib.hid (V3.out.keep hb20)
          replace HT3 := Lib.hid (HT3.out.keep (Keeps.of_below hb20))
          replace K := Lib.hid (K.out.trans (hb20.mono K.out.size))
          clear hb20
          go_wp2
          go_ret
          exact ⟨rfl, K.out⟩
        · have hn3 : (N3 == 0) = false := by simpa using h3
          clear h3
          have C21 := Lib.hid (awake_any w11)
          go_wp2_with fail
          refine C21.out.mono ?_
          rintro e w21 ⟨rfl, hb21⟩
          clear C21
          replace HA := Lib.hid (HA.out.keep (Keeps.of_below hb21))
          replace HL := Lib.hid (HL.out.keep (Keeps.of_below hb21))
          replace HT := Lib.hid (HT.out.keep (Keeps.of_below hb21))
          replace V2 := Lib.hid (V2.out.keep hb21)
          replace V3 := Lib.hid (V3.out.keep hb21)
          replace K := Lib.hid (K.out.trans (hb21.mono K.out.size))
          clear hb21
          go_wp2
          go_ret
          exact ⟨rfl, K.out⟩
end Go.Proofs.Ytockmhhiomdlkaa

namespace Go.Proofs.Ytockmhhiomdlkaa
set_option linter.unusedSimpArgs false
set_option linter.unusedVariables false
open Go.RowKit
theorem law_contentsP (W : World) (v : Value) (x : Int × Int × List ActJ) (s : RunP W v x) (v1 : Value) (l : List Txt) (s1 : Txs W v1 l) :
    Calls Try.prog 7 #[v, v1] W fun e w' => e = .returned (.bool true) ∧ Below W.heap.size W w' := by
  obtain ⟨B, lc, rfl, h, hr, hz⟩ := s
  obtain ⟨lA, lcap, rfl, _, _⟩ := Txs.form s1
  exact law_contents W _ _ hz.1 B lc _ h lA lcap l s1
end Go.Proofs.Ytockmhhiomdlkaa
