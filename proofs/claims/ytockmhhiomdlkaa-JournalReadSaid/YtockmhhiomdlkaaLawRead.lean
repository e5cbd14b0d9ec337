/- Law: JournalRead. -/
import Derived.Test.YtockmhhiomdlkaaJw
import Derived.Test.YtockmhhiomdlkaaRfN
namespace Go.Proofs.Ytockmhhiomdlkaa
set_option linter.unusedVariables false
set_option linter.unusedSimpArgs false
open Go.RowKit

set_option maxRecDepth 100000 in
set_option maxHeartbeats 4000000 in
theorem law_read (W : World) (A : Option Addr) (c : Nat) (P : Option Addr) (cp : Nat) (d : Dk) (hd : DskP W (.slice A d.secs.length c) (.slice P d.pend.length cp) d) :
    Calls Try.prog 4 #[.agg #[.int .i64 d.size, .slice A d.secs.length c, .slice P d.pend.length cp, .int .i64 d.left]] W fun e w' => e = .returned (.bool true) ∧ Below W.heap.size W w' := by
  have K := Lib.hid (Below.refl W.heap.size W)
  have HD0 := Lib.hid hd
  clear hd
  go_enter Try.func4, Try.ntmps4
  have al1 : Below W.heap.size W (W.alloc (.cells #[.int .i64 d.size, .slice A d.secs.length c, .slice P d.pend.length cp, .int .i64 d.left] 25)) := (Below.refl _ _).alloc (Nat.le_refl _) _
  have VD := Lib.hid (Var.new HD0.out)
  have gl1 := K.out.size
  replace K := Lib.hid (K.out.trans (al1.mono K.out.size))
  clear al1
  go_upto_region 1 with (fail)
  generalize W.alloc (.cells #[.int .i64 d.size, .slice A d.secs.length c, .slice P d.pend.length cp, .int .i64 d.left] 25) = w1 at *
  clear HD0
  have C2 := Lib.hid (great_any w1 _ _ d VD.out.dk)
  obtain ⟨o00, o01, o02, o03, _⟩ := VD.out.facts
  go_wp2_with fail
  refine C2.out.mono ?_
  rintro e w2 ⟨rfl, hb2⟩
  clear C2 o00 o01 o02 o03
  replace VD := Lib.hid (VD.out.keep hb2)
  replace K := Lib.hid (K.out.trans (hb2.mono K.out.size))
  clear hb2
  cases hg : greatB d with
  | true =>
    clear hg
    have C3 := Lib.hid (awake_any w2)
    go_wp2_with fail
    refine C3.out.mono ?_
    rintro e w3 ⟨rfl, hb3⟩
    clear C3
    replace VD := Lib.hid (VD.out.keep hb3)
    replace K := Lib.hid (K.out.trans (hb3.mono K.out.size))
    clear hb3
    go_wp2
    go_ret
    exact ⟨rfl, K.out⟩
  | false =>
    have HG := Lib.hid (greatB_false hg)
    clear hg
    obtain ⟨r2, hr2⟩ : ∃ r, r = recD d := ⟨_, rfl⟩
    obtain ⟨R2, M2⟩ := r2
    have HR := Lib.hid hr2
    clear hr2
    obtain ⟨r2, hr2⟩ : ∃ r, r = roomD d := ⟨_, rfl⟩
    obtain ⟨Q2, O2⟩ := r2
    have HQ := Lib.hid hr2
    clear hr2
    obtain ⟨r2, hr2⟩ : ∃ r, r = fmtD d := ⟨_, rfl⟩
    obtain ⟨D2, N2⟩ := r2
    have HE2 := Lib.hid hr2
    clear hr2
    have C4 := records_any w2 _ _ d VD.out.dk
    rw [← HR.out] at C4
    have C4 := Lib.hid C4
    obtain ⟨o00, o01, o02, o03, _⟩ := VD.out.facts
    go_wp2_with fail
    refine C4.out.mono ?_
    rintro e w4 ⟨v4, rfl, ht4, hb4⟩
    clear C4 o00 o01 o02 o03
    obtain ⟨rA0, rc0, rfl, hrl0, hrm0⟩ := Txs.form ht4
    have HT0 := Lib.hid ht4
    simp only at HT0
    clear ht4
    replace VD := Lib.hid (VD.out.keep hb4)
    replace K := Lib.hid (K.out.trans (hb4.mono K.out.size))
    clear hb4
    have C5 := rrecords_any w4 _ _ d VD.out.dk
    rw [← HR.out] at C5
    have C5 := Lib.hid C5
    obtain ⟨o00, o01, o02, o03, _⟩ := VD.out.facts
    go_wp2_with fail
    refine C5.out.mono ?_
    rintro e w5 ⟨v5, rfl, ht5, hb5⟩
    clear C5 o00 o01 o02 o03
    obtain ⟨rA1, rc1, rfl, hrl1, hrm1⟩ := Txs.form ht5
    have HT1 := Lib.hid ht5
    simp only at HT1
    clear ht5
    replace VD := Lib.hid (VD.out.keep hb5)
    replace HT0 := Lib.hid (HT0.out.keep (Keeps.of_below hb5))
    replace K := Lib.hid (K.out.trans (hb5.mono K.out.size))
    clear hb5
    clear HR
    have C6 := room_any w5 _ _ d VD.out.dk
    rw [← HQ.out] at C6
    have C6 := Lib.hid C6
    obtain ⟨o00, o01, o02, o03, _⟩ := VD.out.facts
    go_wp2_with fail
    refine C6.out.mono ?_
    rintro e w6 ⟨rfl, hb6⟩
    clear C6 o00 o01 o02 o03
    replace VD := Lib.hid (VD.out.keep hb6)
    replace HT0 := Lib.hid (HT0.out.keep (Keeps.of_below hb6))
    replace HT1 := Lib.hid (HT1.out.keep (Keeps.of_below hb6))
    replace K := Lib.hid (K.out.trans (hb6.mono K.out.size))
    clear hb6
    have C7 := rroom_any w6 _ _ d VD.out.dk
    rw [← HQ.out] at C7
    have C7 := Lib.hid C7
    obtain ⟨o00, o01, o02, o03, _⟩ := VD.out.facts
    go_wp2_with fail
    refine C7.out.mono ?_
    rintro e w7 ⟨rfl, hb7⟩
    clear C7 o00 o01 o02 o03
    replace VD := Lib.hid (VD.out.keep hb7)
    replace HT0 := Lib.hid (HT0.out.keep (Keeps.of_below hb7))
    replace HT1 := Lib.hid (HT1.out.keep (Keeps.of_below hb7))
    replace K := Lib.hid (K.out.trans (hb7.mono K.out.size))
    clear hb7
    clear HQ
    have C8 := format_any w7 _ _ d VD.out.dk (by have := HG.out; omega)
    rw [← HE2.out] at C8
    simp only at C8
    have C8 := Lib.hid C8
    obtain ⟨o00, o01, o02, o03, _⟩ := VD.out.facts
    go_wp2_with fail
    refine C8.out.mono ?_
    rintro e w8 ⟨vs8, vp8, rfl, hD8, hb8⟩
    clear C8 o00 o01 o02 o03
    obtain ⟨A2, c2, P2, cp2, rfl, rfl, _, _, _, _⟩ := hD8.form
    have HD2 := Lib.hid hD8
    clear hD8
    replace VD := Lib.hid (VD.out.keep hb8)
    replace HT0 := Lib.hid (HT0.out.keep (Keeps.of_below hb8))
    replace HT1 := Lib.hid (HT1.out.keep (Keeps.of_below hb8))
    replace K := Lib.hid (K.out.trans (hb8.mono K.out.size))
    clear hb8
    have al9 : Below w8.heap.size w8 (w8.alloc (.cells #[.int .i64 D2.size, .slice A2 D2.secs.length c2, .slice P2 D2.pend.length cp2, .int .i64 D2.left] 25)) := (Below.refl _ _).alloc (Nat.le_refl _) _
    have V2 := Lib.hid (Var.new HD2.out)
    have gl9 := K.out.size
    replace VD := Lib.hid (VD.out.keep al9)
    replace HT0 := Lib.hid (HT0.out.keep (Keeps.of_below al9))
    replace HT1 := Lib.hid (HT1.out.keep (Keeps.of_below al9))
    replace K := Lib.hid (K.out.trans (al9.mono K.out.size))
    clear al9
    go_upto_region 8 with (fail)
    generalize w8.alloc (.cells #[.int .i64 D2.size, .slice A2 D2.secs.length c2, .slice P2 D2.pend.length cp2, .int .i64 D2.left] 25) = w9 at *
    generalize w8.heap.size = g9 at *
    clear HD2
    have C10 := rformat_any w9 _ _ d VD.out.dk (by have := HG.out; omega)
    rw [← HE2.out] at C10
    simp only at C10
    have C10 := Lib.hid C10
    obtain ⟨o00, o01, o02, o03, _⟩ := VD.out.facts
    go_wp2_with fail
    refine C10.out.mono ?_
    rintro e w10 ⟨vs10, vp10, rfl, hD10, hb10⟩
    clear C10 o00 o01 o02 o03
    obtain ⟨A3, c3, P3, cp3, rfl, rfl, _, _, _, _⟩ := hD10.form
    have HD3 := Lib.hid hD10
    clear hD10
    replace VD := Lib.hid (VD.out.keep hb10)
    replace HT0 := Lib.hid (HT0.out.keep (Keeps.of_below hb10))
    replace HT1 := Lib.hid (HT1.out.keep (Keeps.of_below hb10))
    replace V2 := Lib.hid (V2.out.keep hb10)
    replace K := Lib.hid (K.out.trans (hb10.mono K.out.size))
    clear hb10
    have al11 : Below w10.heap.size w10 (w10.alloc (.cells #[.int .i64 D2.size, .slice A3 D2.secs.length c3, .slice P3 D2.pend.length cp3, .int .i64 D2.left] 25)) := (Below.refl _ _).alloc (Nat.le_refl _) _
    have V3 := Lib.hid (Var.new HD3.out)
    have gl11 := K.out.size
    replace VD := Lib.hid (VD.out.keep al11)
    replace HT0 := Lib.hid (HT0.out.keep (Keeps.of_below al11))
    replace HT1 := Lib.hid (HT1.out.keep (Keeps.of_below al11))
    replace V2 := Lib.hid (V2.out.keep al11)
    replace K := Lib.hid (K.out.trans (al11.mono K.out.size))
    clear al11
    go_upto_region 9 with (fail)
    generalize w10.alloc (.cells #[.int .i64 D2.size, .slice A3 D2.secs.length c3, .slice P3 D2.pend.length cp3, .int .i64 D2.left] 25) = w11 at *
    generalize w10.heap.size = g11 at *
    clear HD3
    clear VD HE2 HG
    have C12 := rsame_any w11 rA0 rc0 R2 HT0.out rA1 rc1 R2 HT1.out
    rw [decide_eq_true (rfl : R2 = R2)] at C12
    have C12 := Lib.hid C12
    go_wp2_with fail
    refine C12.out.mono ?_
    rintro e w12 ⟨rfl, hb12⟩
    clear C12
    replace HT0 := Lib.hid (HT0.out.keep (Keeps.of_below hb12))
    replace HT1 := Lib.hid (HT1.out.keep (Keeps.of_below hb12))
    replace V2 := Lib.hid (V2.out.keep hb12)
    replace V3 := Lib.hid (V3.out.keep hb12)
    replace K := Lib.hid (K.out.trans (hb12.mono K.out.size))
    clear hb12
    have C13 := Lib.hid (same_any w12 _ _ _ _ D2 V2.out.dk V3.out.dk)
    obtain ⟨o00, o01, o02, o03, _⟩ := V2.out.facts
    obtain ⟨o10, o11, o12, o13, _⟩ := V3.out.facts
    go_wp2_with fail
    refine C13.out.mono ?_
    rintro e w13 ⟨rfl, hb13⟩
    clear C13 o00 o01 o02 o03 o10 o11 o12 o13
    replace HT0 := Lib.hid (HT0.out.keep (Keeps.of_below hb13))
    replace HT1 := Lib.hid (HT1.out.keep (Keeps.of_below hb13))
    replace V2 := Lib.hid (V2.out.keep hb13)
    replace V3 := Lib.hid (V3.out.keep hb13)
    replace K := Lib.hid (K.out.trans (hb13.mono K.out.size))
    clear hb13
    have C14 := Lib.hid (awake_any w13)
    go_wp2_with fail
    refine C14.out.mono ?_
    rintro e w14 ⟨rfl, hb14⟩
    clear C14
    replace HT0 := Lib.hid (HT0.out.keep (Keeps.of_below hb14))
    replace HT1 := Lib.hid (HT1.out.keep (Keeps.of_below hb14))
    replace V2 := Lib.hid (V2.out.keep hb14)
    replace V3 := Lib.hid (V3.out.keep hb14)
    replace K := Lib.hid (K.out.trans (hb14.mono K.out.size))
    clear hb14
    go_wp2
    go_ret
    exact ⟨rfl, K.out⟩
theorem law_readP (W : World) (v : Value) (d : Dk) (s : Dsk W v d) :
    Calls Try.prog 4 #[v] W fun e w' => e = .returned (.bool true) ∧ Below W.heap.size W w' := by
  obtain ⟨vs, vp, rfl, h⟩ := s
  obtain ⟨A, c, P, cp, rfl, rfl, _, _, _, _⟩ := h.form
  exact law_read W A c P cp d h
end Go.Proofs.Ytockmhhiomdlkaa
