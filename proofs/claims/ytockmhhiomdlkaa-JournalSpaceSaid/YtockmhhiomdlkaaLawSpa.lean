/- Law: JournalSpace. -/
import Derived.Test.YtockmhhiomdlkaaLawCon
namespace Go.Proofs.Ytockmhhiomdlkaa
set_option linter.unusedVariables false
set_option linter.unusedSimpArgs false
open Go.RowKit

def encN (l : List Txt) : Nat := (l.flatMap encT).length
theorem encN_take {l : List Txt} {k : Nat} (h : k < l.length) : encN (l.take (k + 1)) = encN (l.take k) + ((digL l[k].length).length + l[k].length) := by
  unfold encN
  rw [List.take_succ_eq_append_getElem h, List.flatMap_append, List.length_append]
  simp [encT]
theorem encN_le {l : List Txt} (h : grtT l = false) (k : Nat) : encN (l.take k) ≤ 20 * 310 := by
  obtain ⟨h1, h2⟩ := grtT_false h
  have key : ∀ m : List Txt, (∀ t ∈ m, t.length ≤ 300) → encN m ≤ m.length * 310 := by
    intro m
    induction m with
    | nil => intro _; simp [encN]
    | cons x m ih =>
      intro hm
      have h3 := ih fun y hy => hm y (by simp [hy])
      have h4 := hm x (by simp)
      have h5 := digL_len x.length 5 (by omega)
      have e : encN (x :: m) = ((digL x.length).length + x.length) + encN m := by unfold encN; simp [encT]; omega
      rw [e, List.length_cons, Nat.add_mul]
      omega
  have h3 := key (l.take k) fun t ht => h2 t (List.mem_of_mem_take ht)
  have h4 : (l.take k).length ≤ 20 := by rw [List.length_take]; omega
  exact Nat.le_trans h3 (Nat.mul_le_mul_right 310 h4)
theorem putTsB_encN (l : List Txt) : (putTsB l).length = (digL l.length).length + encN l := by unfold putTsB encN; rw [List.length_append]
theorem frB_encN (l : List Txt) : (frB l).length = 1 + (putTsB l).length + (digL (putTsB l).length).length := by
  unfold frB
  rw [List.length_cons, List.length_append]
  omega
set_option maxRecDepth 100000 in
set_option maxHeartbeats 4000000 in
theorem law_space (W : World) (n z : Int) (hz0 : -9223372036854775808 ≤ z) (B : Option Addr) (lc : Nat) (acts : List ActJ) (h : Acts W (.slice B acts.length lc) acts) (lA : Option Addr) (lcap : Nat) (l : List Txt) (hl : Txs W (.slice lA l.length lcap) l) :
    Calls Try.prog 6 #[.agg #[.int .i64 n, .int .i64 z, .slice B acts.length lc], .slice lA l.length lcap] W fun e w' => e = .returned (.bool true) ∧ Below W.heap.size W w' := by
  obtain ⟨_, _, el2, hl1, hl2⟩ := Txs.form hl
  cases el2
  have HL := Lib.hid hl
  have K := Lib.hid (Below.refl W.heap.size W)
  obtain ⟨_, _, el, hlc, hlm⟩ := h.form
  cases el
  have HA := Lib.hid h
  go_enter Try.func6, Try.ntmps6
  have al1 : Below W.heap.size W (W.alloc (.cells #[.int .i64 n, .int .i64 z, .slice B acts.length lc] 42)) := (Below.refl _ _).alloc (Nat.le_refl _) _
  have HB := Lib.hid (Blk.new W #[.int .i64 n, .int .i64 z, .slice B acts.length lc] 42)
  have gl1 := K.out.size
  replace HA := Lib.hid (HA.out.keep (Keeps.of_below al1))
  replace HL := Lib.hid (HL.out.keep (Keeps.of_below al1))
  replace K := Lib.hid (K.out.trans (al1.mono K.out.size))
  clear al1
  go_upto_region 1 with (fail)
  generalize W.alloc (.cells #[.int .i64 n, .int .i64 z, .slice B acts.length lc] 42) = w1 at *
  have C2 := Lib.hid (reached_any w1 n z hz0 B lc acts HA.out)
  obtain ⟨o00, o01, o02, _, _, _⟩ := blk3 HB.out
  go_wp2_with fail
  refine C2.out.mono ?_
  rintro e w2 ⟨vs, vp, rfl, hD, hb2⟩
  clear C2 o00 o01 o02
  have HD0 := Lib.hid hD
  clear hD
  have HJ : Hid (fineB n z acts = true → ∃ s un, Jst (rchD n z acts) s un ∧ (rchD n z acts).size = z ∧ ((rchD n z acts).secs.length : Int) = n ∧ 1 ≤ z ∧ z ≤ 16) := rch_true
  generalize rchD n z acts = D at *
  obtain ⟨A, c, P, cp, rfl, rfl, _, _, _, _⟩ := HD0.out.form
  replace HA := Lib.hid (HA.out.keep (Keeps.of_below hb2))
  replace HL := Lib.hid (HL.out.keep (Keeps.of_below hb2))
  replace HB := Lib.hid (HB.out.keep hb2)
  replace K := Lib.hid (K.out.trans (hb2.mono K.out.size))
  clear hb2
  have al3 : Below w2.heap.size w2 (w2.alloc (.cells #[.int .i64 D.size, .slice A D.secs.length c, .slice P D.pend.length cp, .int .i64 D.left] 25)) := (Below.refl _ _).alloc (Nat.le_refl _) _
  have VD := Lib.hid (Var.new HD0.out)
  have gl3 := K.out.size
  replace HA := Lib.hid (HA.out.keep (Keeps.of_below al3))
  replace HL := Lib.hid (HL.out.keep (Keeps.of_below al3))
  replace HB := Lib.hid (HB.out.keep al3)
  replace K := Lib.hid (K.out.trans (al3.mono K.out.size))
  clear al3
  go_upto_region 2 with (fail)
  generalize w2.alloc (.cells #[.int .i64 D.size, .slice A D.secs.length c, .slice P D.pend.length cp, .int .i64 D.left] 25) = w3 at *
  generalize w2.heap.size = g3 at *
  clear HD0
  cases hf : fineB n z acts with
  | false =>
    clear hf
    have C4 := Lib.hid (awake_any w3)
    go_wp2_with fail
    refine C4.out.mono ?_
    rintro e w4 ⟨rfl, hb4⟩
    clear C4
    replace HA := Lib.hid (HA.out.keep (Keeps.of_below hb4))
    replace HL := Lib.hid (HL.out.keep (Keeps.of_below hb4))
    replace HB := Lib.hid (HB.out.keep hb4)
    replace VD := Lib.hid (VD.out.keep hb4)
    replace K := Lib.hid (K.out.trans (hb4.mono K.out.size))
    clear hb4
    go_wp2
    go_ret
    exact ⟨rfl, K.out⟩
  | true =>
    obtain ⟨s0, un, hJ, hz, hnn, hz1, hz2⟩ := HJ.out hf
    replace HJ := Lib.hid hJ
    have HZ := Lib.hid hz
    clear hJ hf hz hnn
    have C5 := Lib.hid (rgreat_any w3 lA lcap l HL.out)
    go_wp2_with fail
    refine C5.out.mono ?_
    rintro e w5 ⟨rfl, hb5⟩
    clear C5
    replace HA := Lib.hid (HA.out.keep (Keeps.of_below hb5))
    replace HL := Lib.hid (HL.out.keep (Keeps.of_below hb5))
    replace HB := Lib.hid (HB.out.keep hb5)
    replace VD := Lib.hid (VD.out.keep hb5)
    replace K := Lib.hid (K.out.trans (hb5.mono K.out.size))
    clear hb5
    cases hg : grtT l with
    | true =>
      clear hg
      have C6 := Lib.hid (awake_any w5)
      go_wp2_with fail
      refine C6.out.mono ?_
      rintro e w6 ⟨rfl, hb6⟩
      clear C6
      replace HA := Lib.hid (HA.out.keep (Keeps.of_below hb6))
      replace HL := Lib.hid (HL.out.keep (Keeps.of_below hb6))
      replace HB := Lib.hid (HB.out.keep hb6)
      replace VD := Lib.hid (VD.out.keep hb6)
      replace K := Lib.hid (K.out.trans (hb6.mono K.out.size))
      clear hb6
      go_wp2
      go_ret
      exact ⟨rfl, K.out⟩
    | false =>
      have HG := Lib.hid hg
      clear hg
      by_cases hlf : D.left = -1
      · have hlf2 : (D.left != -1) = false := by simpa using hlf
        by_cases hl0 : (l.length : Int) = 0
        · have HLF := Lib.hid hlf
          clear hlf
          have C7 := Lib.hid (awake_any w5)
          obtain ⟨o00, o01, o02, o03, _⟩ := VD.out.facts
          go_wp2_with fail
          refine C7.out.mono ?_
          rintro e w7 ⟨rfl, hb7⟩
          clear C7 o00 o01 o02 o03
          replace HA := Lib.hid (HA.out.keep (Keeps.of_below hb7))
          replace HL := Lib.hid (HL.out.keep (Keeps.of_below hb7))
          replace HB := Lib.hid (HB.out.keep hb7)
          replace VD := Lib.hid (VD.out.keep hb7)
          replace K := Lib.hid (K.out.trans (hb7.mono K.out.size))
          clear hb7
          go_wp2
          go_ret
          exact ⟨rfl, K.out⟩
        · have hne : l ≠ [] := by rintro rfl; exact hl0 rfl
          obtain ⟨m, hr0, hsp⟩ := space_ok HJ.out hlf l hne (grtT_ok HG.out)
          have hm500 : m ≤ 500 := by
            have h1 := congrArg Prod.fst hr0
            have h2 := half_le HJ.out.valid.1
            unfold roomD at h1
            split at h1
            · simp at h1; omega
            · simp at h1; omega
          have HR0 := Lib.hid hr0
          have HSP := Lib.hid hsp
          have HPN := Lib.hid HJ.out.valid.2.2
          have HPM := Lib.hid (app_pend' HJ.out l)
          have hl20 := (grtT_false HG.out).1
          have HE := Lib.hid (encN_le HG.out)
          have hl0' : ((l.length : Int) == 0) = false := by simpa using hl0
          clear hr0 hsp hne hlf HJ
          have C8 := Lib.hid (rsize_any w5 l.length (by omega))
          obtain ⟨o00, o01, o02, o03, _⟩ := VD.out.facts
          go_wp2_with fail
          refine C8.out.mono ?_
          rintro e _ ⟨rfl, rfl⟩
          clear C8 o00 o01 o02 o03
          have hd0 := digL_len l.length 5 (by omega)
          obtain ⟨d0, hdd0⟩ : ∃ x, x = (digL l.length).length := ⟨_, rfl⟩
          rw [← hdd0] at hd0 ⊢
          have HD0 := Lib.hid hdd0
          clear hdd0
          go_upto_region 6 with (fail)
          go_loopw [7, 9, 45] (fun tb ts ti wr => ∃ k : Nat, k ≤ l.length ∧ ti = .int .i64 k ∧ tb = .int .i64 ((1 + d0 + encN (l.take k) : Nat) : Int) ∧ w5 = wr) (fun _ _ ti _ => l.length - (intOf ti).toNat)
          case atStart => exact ⟨0, by omega, rfl, by simp [encN], rfl⟩
          case round =>
            obtain ⟨k, hk, rfl, rfl, rfl⟩ := hrel
            have hek := HE.out k
            by_cases hlt : k < l.length
            · obtain ⟨b, off, rfl, a1⟩ := Txs.getL HL.out hlt
              have hs300 := (grtT_false HG.out).2 l[k] (List.getElem_mem hlt)
              have HT := Lib.hid (encN_take hlt)
              have hek1 := HE.out (k + 1)
              have hsz : (strB l[k]).size = l[k].length := strB_size _
              rw [← hsz] at HT
              rw [← hsz] at hs300
              clear hsz
              generalize strB l[k] = x at *
              have CS := Lib.hid (rsize_any w5 x.size (by omega))
              have hdx := digL_len x.size 5 (by omega)
              go_wp2_with fail
              refine CS.out.mono ?_
              rintro e' w' ⟨rfl, rfl⟩
              clear CS a1
              generalize (digL x.size).length = dx at *
              have HT' := HT.out
              generalize encN (l.take k) = e0 at *
              clear HT
              go_wp2
              go_roundw
              case rel => exact ⟨k + 1, by omega, by go_num, by rw [show 1 + d0 + encN (l.take (k + 1)) = 1 + d0 + e0 + (dx + x.size) by omega]; go_num, trivial⟩
              case measure => simp [intOf]; omega
            · obtain rfl : k = l.length := by omega
              rw [List.take_length] at hek ⊢
              have hF1 := putTsB_encN l
              have hF2 := frB_encN l
              rw [← HD0.out] at hF1
              obtain ⟨p0, hp0⟩ : ∃ x, x = (putTsB l).length := ⟨_, rfl⟩
              rw [← hp0] at hF1 hF2
              have hb1 : 1 + d0 + encN l = 1 + p0 := by omega
              rw [hb1]
              have hdp := digL_len p0 5 (by omega)
              have hp6 : p0 ≤ 6300 := by have h9 := HE.out l.length; rw [List.take_length] at h9; omega
              have HF2 := Lib.hid hF2
              clear hF1 hF2 hp0 hb1
              have C9 := Lib.hid (rsize_any w5 p0 (by omega))
              go_wp2_with fail
              rw [show (1 + (p0 : Int) - 1) = (p0 : Int) by omega]
              refine C9.out.mono ?_
              rintro e _ ⟨rfl, rfl⟩
              clear C9
              generalize (digL p0).length = dp at *
              rw [HF2.out] at HSP
              clear HF2
              obtain ⟨y, rfl⟩ := Int.eq_ofNat_of_zero_le (show 0 ≤ z by omega)
              have HND : Hid ((1 + (p0 : Int) + (dp : Int) + (y : Int) - 1) / (y : Int) = (need (1 + p0 + dp) y : Nat)) := by
                show _ = _
                rw [show (1 + (p0 : Int) + (dp : Int) + (y : Int) - 1) = ((1 + p0 + dp + y - 1 : Nat) : Int) by omega]; rfl
              have hnd := need_le (c := 1 + p0 + dp) (sz := y) (m := 1 + p0 + dp) (by omega) (by have := Nat.mul_le_mul_left (1 + p0 + dp) (show 1 ≤ y by omega); omega)
              have hy0 : ¬ (y : Int) = 0 := by omega
              rw [HZ.out, Int.toNat_natCast] at HSP
              generalize need (1 + p0 + dp) y = nd at *
              obtain ⟨o00, o01, o02, _, _, _⟩ := blk3 HB.out
              go_upto_region 12 with (fail)
              rw [HND.out]
              clear HND o00 o01 o02
              have hm63 : nd ≤ 7000 := by omega
              have C10 := room_any w5 _ _ D VD.out.dk
              rw [HR0.out] at C10
              have C10 := Lib.hid C10
              obtain ⟨o00, o01, o02, o03, _⟩ := VD.out.facts
              go_wp2_with fail
              refine C10.out.mono ?_
              rintro e w10 ⟨rfl, hb10⟩
              clear C10 o00 o01 o02 o03
              replace HA := Lib.hid (HA.out.keep (Keeps.of_below hb10))
              replace HL := Lib.hid (HL.out.keep (Keeps.of_below hb10))
              replace HB := Lib.hid (HB.out.keep hb10)
              replace VD := Lib.hid (VD.out.keep hb10)
              replace K := Lib.hid (K.out.trans (hb10.mono K.out.size))
              clear hb10
              have C11 := Lib.hid (append_any w10 _ _ D VD.out.dk (by have := HPN.out; omega) lA lcap l HL.out)
              obtain ⟨o00, o01, o02, o03, _⟩ := VD.out.facts
              go_wp2_with fail
              refine C11.out.mono ?_
              rintro e w11 ⟨vs11, vp11, rfl, hD11, hb11⟩
              clear C11 o00 o01 o02 o03
              obtain ⟨A2, c2, P2, cp2, rfl, rfl, _, _, _, _⟩ := hD11.form
              have HD2 := Lib.hid hD11
              clear hD11
              obtain ⟨D2, hD2⟩ : ∃ x, x = (appD D l).1 := ⟨_, rfl⟩
              obtain ⟨N2, hN2⟩ : ∃ x, x = (appD D l).2 := ⟨_, rfl⟩
              rw [← hD2, ← hN2] at HSP
              rw [← hD2] at HPM HD2 ⊢
              rw [← hN2]
              clear hD2 hN2
              replace HA := Lib.hid (HA.out.keep (Keeps.of_below hb11))
              replace HL := Lib.hid (HL.out.keep (Keeps.of_below hb11))
              replace HB := Lib.hid (HB.out.keep hb11)
              replace VD := Lib.hid (VD.out.keep hb11)
              replace K := Lib.hid (K.out.trans (hb11.mono K.out.size))
              clear hb11
              have al12 : Below w11.heap.size w11 (w11.alloc (.cells #[.int .i64 D2.size, .slice A2 D2.secs.length c2, .slice P2 D2.pend.length cp2, .int .i64 D2.left] 25)) := (Below.refl _ _).alloc (Nat.le_refl _) _
              have V2 := Lib.hid (Var.new HD2.out)
              have gl12 := K.out.size
              replace HA := Lib.hid (HA.out.keep (Keeps.of_below al12))
              replace HL := Lib.hid (HL.out.keep (Keeps.of_below al12))
              replace HB := Lib.hid (HB.out.keep al12)
              replace VD := Lib.hid (VD.out.keep al12)
              replace K := Lib.hid (K.out.trans (al12.mono K.out.size))
              clear al12
              go_upto_region 14 with (fail)
              generalize w11.alloc (.cells #[.int .i64 D2.size, .slice A2 D2.secs.length c2, .slice P2 D2.pend.length cp2, .int .i64 D2.left] 25) = w12 at *
              generalize w11.heap.size = g12 at *
              clear HD2
              by_cases hgt : m < nd
              · have hN := HSP.out
                rw [if_pos hgt] at hN
                subst hN
                obtain ⟨r1, hr1⟩ : ∃ x, x = roomD D2 := ⟨_, rfl⟩
                have HR1 := Lib.hid hr1
                clear hr1 HSP
                obtain ⟨q1, q2⟩ := r1
                have C13 := room_any w12 _ _ D2 V2.out.dk
                rw [← HR1.out] at C13
                have C13 := Lib.hid C13
                obtain ⟨o00, o01, o02, o03, _⟩ := V2.out.facts
                go_wp2_with fail
                refine C13.out.mono ?_
                rintro e w13 ⟨rfl, hb13⟩
                clear C13 o00 o01 o02 o03
                replace HA := Lib.hid (HA.out.keep (Keeps.of_below hb13))
                replace HL := Lib.hid (HL.out.keep (Keeps.of_below hb13))
                replace HB := Lib.hid (HB.out.keep hb13)
                replace VD := Lib.hid (VD.out.keep hb13)
                replace V2 := Lib.hid (V2.out.keep hb13)
                replace K := Lib.hid (K.out.trans (hb13.mono K.out.size))
                clear hb13
                have hgt2 : (m : Int) < (nd : Int) := by omega
                have C14 := Lib.hid (awake_any w13)
                go_wp2_with fail
                refine C14.out.mono ?_
                rintro e w14 ⟨rfl, hb14⟩
                clear C14
                replace HA := Lib.hid (HA.out.keep (Keeps.of_below hb14))
                replace HL := Lib.hid (HL.out.keep (Keeps.of_below hb14))
                replace HB := Lib.hid (HB.out.keep hb14)
                replace VD := Lib.hid (VD.out.keep hb14)
                replace V2 := Lib.hid (V2.out.keep hb14)
                replace K := Lib.hid (K.out.trans (hb14.mono K.out.size))
                clear hb14
                go_wp2
                go_ret
                exact ⟨rfl, K.out⟩
              · have hN := HSP.out
                rw [if_neg hgt] at hN
                obtain ⟨rfl, hR⟩ := hN
                have HR1 := Lib.hid hR
                clear hR HSP
                have hle : nd ≤ m := by omega
                clear hgt
                have C15 := room_any w12 _ _ D2 V2.out.dk
                rw [HR1.out] at C15
                have C15 := Lib.hid C15
                obtain ⟨o00, o01, o02, o03, _⟩ := V2.out.facts
                go_wp2_with fail
                refine C15.out.mono ?_
                rintro e w15 ⟨rfl, hb15⟩
                clear C15 o00 o01 o02 o03
                replace HA := Lib.hid (HA.out.keep (Keeps.of_below hb15))
                replace HL := Lib.hid (HL.out.keep (Keeps.of_below hb15))
                replace HB := Lib.hid (HB.out.keep hb15)
                replace VD := Lib.hid (VD.out.keep hb15)
                replace V2 := Lib.hid (V2.out.keep hb15)
                replace K := Lib.hid (K.out.trans (hb15.mono K.out.size))
                clear hb15
                obtain ⟨lf, hlf0⟩ : ∃ lf, lf = m - nd := ⟨_, rfl⟩
                rw [← hlf0]
                have hgt2 : ¬ (m : Int) < (nd : Int) := by omega
                have hsub2 : (m : Int) - (nd : Int) = (lf : Int) := by omega
                clear hlf0 hle
                have C16 := Lib.hid (awake_any w15)
                go_wp2_with fail
                refine C16.out.mono ?_
                rintro e w16 ⟨rfl, hb16⟩
                clear C16
                replace HA := Lib.hid (HA.out.keep (Keeps.of_below hb16))
                replace HL := Lib.hid (HL.out.keep (Keeps.of_below hb16))
                replace HB := Lib.hid (HB.out.keep hb16)
                replace VD := Lib.hid (VD.out.keep hb16)
                replace V2 := Lib.hid (V2.out.keep hb16)
                replace K := Lib.hid (K.out.trans (hb16.mono K.out.size))
                clear hb16
                go_wp2
                go_ret
                exact ⟨rfl, K.out⟩
      · have hlf2 : (D.left != -1) = true := by simpa using hlf
        clear hlf
        have C17 := Lib.hid (awake_any w5)
        obtain ⟨o00, o01, o02, o03, _⟩ := VD.out.facts
        go_wp2_with fail
        refine C17.out.mono ?_
        rintro e w17 ⟨rfl, hb17⟩
        clear C17 o00 o01 o02 o03
        replace HA := Lib.hid (HA.out.keep (Keeps.of_below hb17))
        replace HL := Lib.hid (HL.out.keep (Keeps.of_below hb17))
        replace HB := Lib.hid (HB.out.keep hb17)
        replace VD := Lib.hid (VD.out.keep hb17)
        replace K := Lib.hid (K.out.trans (hb17.mono K.out.size))
        clear hb17
        go_wp2
        go_ret
        exact ⟨rfl, K.out⟩
theorem law_spaceP (W : World) (v : Value) (x : Int × Int × List ActJ) (s : RunP W v x) (v1 : Value) (l : List Txt) (s1 : Txs W v1 l) :
    Calls Try.prog 6 #[v, v1] W fun e w' => e = .returned (.bool true) ∧ Below W.heap.size W w' := by
  obtain ⟨B, lc, rfl, h, hr, hz⟩ := s
  obtain ⟨lA, lcap, rfl, _, _⟩ := Txs.form s1
  exact law_space W _ _ hz.1 B lc _ h lA lcap l s1
end Go.Proofs.Ytockmhhiomdlkaa
