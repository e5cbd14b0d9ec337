/- Law: JournalRewrite. -/
import Derived.Test.YtockmhhiomdlkaaJw
import Derived.Test.YtockmhhiomdlkaaRfN
namespace Go.Proofs.Ytockmhhiomdlkaa
set_option linter.unusedVariables false
set_option linter.unusedSimpArgs false
open Go.RowKit

set_option maxRecDepth 100000 in
set_option maxHeartbeats 4000000 in
theorem law_rewrite (W : World) (A : Option Addr) (c : Nat) (P : Option Addr) (cp : Nat) (d : Dk) (hd : DskP W (.slice A d.secs.length c) (.slice P d.pend.length cp) d) (lA : Option Addr) (lcap : Nat) (l : List Txt) (hl : Txs W (.slice lA l.length lcap) l) :
    Calls Try.prog 5 #[.agg #[.int .i64 d.size, .slice A d.secs.length c, .slice P d.pend.length cp, .int .i64 d.left], .slice lA l.length lcap] W fun e w' => e = .returned (.bool true) ∧ Below W.heap.size W w' := by
  have K := Lib.hid (Below.refl W.heap.size W)
  have HD0 := Lib.hid hd
  clear hd
  obtain ⟨_, _, el2, hl1, hl2⟩ := Txs.form hl
  cases el2
  have HL := Lib.hid hl
  clear hl
  go_enter Try.func5, Try.ntmps5
  have al1 : Below W.heap.size W (W.alloc (.cells #[.int .i64 d.size, .slice A d.secs.length c, .slice P d.pend.length cp, .int .i64 d.left] 25)) := (Below.refl _ _).alloc (Nat.le_refl _) _
  have VD := Lib.hid (Var.new HD0.out)
  have gl1 := K.out.size
  replace HL := Lib.hid (HL.out.keep (Keeps.of_below al1))
  replace K := Lib.hid (K.out.trans (al1.mono K.out.size))
  clear al1
  go_upto_region 1 with (fail)
  generalize W.alloc (.cells #[.int .i64 d.size, .slice A d.secs.length c, .slice P d.pend.length cp, .int .i64 d.left] 25) = w1 at *
  clear HD0
  have C2 := Lib.hid (great_any w1 _ _ d VD.out.dk)
  obtain ⟨o00, o01, o02, o03, _⟩ := VD.out.facts
  go_wp2_with fail
  refine C2.out.mono ?_
  rintro e w2 ⟨rfl, hb2⟩
  clear C2 o00 o01 o02 o03
  replace HL := Lib.hid (HL.out.keep (Keeps.of_below hb2))
  replace VD := Lib.hid (VD.out.keep hb2)
  replace K := Lib.hid (K.out.trans (hb2.mono K.out.size))
  clear hb2
  cases hg : greatB d with
  | true =>
    clear hg
    have C3 := Lib.hid (awake_any w2)
    go_wp2_with fail
    refine C3.out.mono ?_
    rintro e w3 ⟨rfl, hb3⟩
    clear C3
    replace HL := Lib.hid (HL.out.keep (Keeps.of_below hb3))
    replace VD := Lib.hid (VD.out.keep hb3)
    replace K := Lib.hid (K.out.trans (hb3.mono K.out.size))
    clear hb3
    go_wp2
    go_ret
    exact ⟨rfl, K.out⟩
  | false =>
    have HG := Lib.hid (greatB_false hg)
    clear hg
    have C4 := Lib.hid (rgreat_any w2 lA lcap l HL.out)
    go_wp2_with fail
    refine C4.out.mono ?_
    rintro e w4 ⟨rfl, hb4⟩
    clear C4
    replace HL := Lib.hid (HL.out.keep (Keeps.of_below hb4))
    replace VD := Lib.hid (VD.out.keep hb4)
    replace K := Lib.hid (K.out.trans (hb4.mono K.out.size))
    clear hb4
    cases hg : grtT l with
    | true =>
      clear hg
      have C5 := Lib.hid (awake_any w4)
      go_wp2_with fail
      refine C5.out.mono ?_
      rintro e w5 ⟨rfl, hb5⟩
      clear C5
      replace HL := Lib.hid (HL.out.keep (Keeps.of_below hb5))
      replace VD := Lib.hid (VD.out.keep hb5)
      replace K := Lib.hid (K.out.trans (hb5.mono K.out.size))
      clear hb5
      go_wp2
      go_ret
      exact ⟨rfl, K.out⟩
    | false =>
      have HGT := Lib.hid (grtT_false hg)
      clear hg
      obtain ⟨r2, hr2⟩ : ∃ r, r = rewD d l := ⟨_, rfl⟩
      obtain ⟨D2, N2⟩ := r2
      have HE2 := Lib.hid hr2
      clear hr2
      have C6 := rewrite_any w4 _ _ d VD.out.dk (by have := HG.out; omega) lA lcap l HL.out
      rw [← HE2.out] at C6
      simp only at C6
      have C6 := Lib.hid C6
      obtain ⟨o00, o01, o02, o03, _⟩ := VD.out.facts
      go_wp2_with fail
      refine C6.out.mono ?_
      rintro e w6 ⟨vs6, vp6, rfl, hD6, hb6⟩
      clear C6 o00 o01 o02 o03
      obtain ⟨A2, c2, P2, cp2, rfl, rfl, _, _, _, _⟩ := hD6.form
      have HD2 := Lib.hid hD6
      clear hD6
      replace HL := Lib.hid (HL.out.keep (Keeps.of_below hb6))
      replace VD := Lib.hid (VD.out.keep hb6)
      replace K := Lib.hid (K.out.trans (hb6.mono K.out.size))
      clear hb6
      have al7 : Below w6.heap.size w6 (w6.alloc (.cells #[.int .i64 D2.size, .slice A2 D2.secs.length c2, .slice P2 D2.pend.length cp2, .int .i64 D2.left] 25)) := (Below.refl _ _).alloc (Nat.le_refl _) _
      have V2 := Lib.hid (Var.new HD2.out)
      have gl7 := K.out.size
      replace HL := Lib.hid (HL.out.keep (Keeps.of_below al7))
      replace VD := Lib.hid (VD.out.keep al7)
      replace K := Lib.hid (K.out.trans (al7.mono K.out.size))
      clear al7
      go_upto_region 4 with (fail)
      generalize w6.alloc (.cells #[.int .i64 D2.size, .slice A2 D2.secs.length c2, .slice P2 D2.pend.length cp2, .int .i64 D2.left] 25) = w7 at *
      generalize w6.heap.size = g7 at *
      clear HD2
      have C8 := rrewrite_any w7 _ _ d VD.out.dk (by have := HG.out; omega) lA lcap l HL.out (fun t ht => by have := HGT.out.2 t ht; omega)
      rw [← HE2.out] at C8
      simp only at C8
      have C8 := Lib.hid C8
      obtain ⟨o00, o01, o02, o03, _⟩ := VD.out.facts
      go_wp2_with fail
      refine C8.out.mono ?_
      rintro e w8 ⟨vs8, vp8, rfl, hD8, hb8⟩
      clear C8 o00 o01 o02 o03
      obtain ⟨A3, c3, P3, cp3, rfl, rfl, _, _, _, _⟩ := hD8.form
      have HD3 := Lib.hid hD8
      clear hD8
      replace HL := Lib.hid (HL.out.keep (Keeps.of_below hb8))
      replace VD := Lib.hid (VD.out.keep hb8)
      replace V2 := Lib.hid (V2.out.keep hb8)
      replace K := Lib.hid (K.out.trans (hb8.mono K.out.size))
      clear hb8
      have al9 : Below w8.heap.size w8 (w8.alloc (.cells #[.int .i64 D2.size, .slice A3 D2.secs.length c3, .slice P3 D2.pend.length cp3, .int .i64 D2.left] 25)) := (Below.refl _ _).alloc (Nat.le_refl _) _
      have V3 := Lib.hid (Var.new HD3.out)
      have gl9 := K.out.size
      replace HL := Lib.hid (HL.out.keep (Keeps.of_below al9))
      replace VD := Lib.hid (VD.out.keep al9)
      replace V2 := Lib.hid (V2.out.keep al9)
      replace K := Lib.hid (K.out.trans (al9.mono K.out.size))
      clear al9
      go_upto_region 5 with (fail)
      generalize w8.alloc (.cells #[.int .i64 D2.size, .slice A3 D2.secs.length c3, .slice P3 D2.pend.length cp3, .int .i64 D2.left] 25) = w9 at *
      generalize w8.heap.size = g9 at *
      clear HD3
      clear VD HE2 HG
      have C10 := Lib.hid (same_any w9 _ _ _ _ D2 V2.out.dk V3.out.dk)
      obtain ⟨o00, o01, o02, o03, _⟩ := V2.out.facts
      obtain ⟨o10, o11, o12, o13, _⟩ := V3.out.facts
      go_wp2_with fail
      refine C10.out.mono ?_
      rintro e w10 ⟨rfl, hb10⟩
      clear C10 o00 o01 o02 o03 o10 o11 o12 o13
      replace HL := Lib.hid (HL.out.keep (Keeps.of_below hb10))
      replace V2 := Lib.hid (V2.out.keep hb10)
      replace V3 := Lib.hid (V3.out.keep hb10)
      replace K := Lib.hid (K.out.trans (hb10.mono K.out.size))
      clear hb10
      have C11 := Lib.hid (awake_any w10)
      go_wp2_with fail
      refine C11.out.mono ?_
      rintro e w11 ⟨rfl, hb11⟩
      clear C11
      replace HL := Lib.hid (HL.out.keep (Keeps.of_below hb11))
      replace V2 := Lib.hid (V2.out.keep hb11)
      replace V3 := Lib.hid (V3.out.keep hb11)
      replace K := Lib.hid (K.out.trans (hb11.mono K.out.size))
      clear hb11
      go_wp2
      go_ret
      exact ⟨rfl, K.out⟩
theorem law_rewriteP (W : World) (v : Value) (d : Dk) (s : Dsk W v d) (v1 : Value) (l : List Txt) (s1 : Txs W v1 l) :
    Calls Try.prog 5 #[v, v1] W fun e w' => e = .returned (.bool true) ∧ Below W.heap.size W w' := by
  obtain ⟨vs, vp, rfl, h⟩ := s
  obtain ⟨A, c, P, cp, rfl, rfl, _, _, _, _⟩ := h.form
  obtain ⟨lA, lcap, rfl, _, _⟩ := Txs.form s1
  exact law_rewrite W A c P cp d h lA lcap l s1
end Go.Proofs.Ytockmhhiomdlkaa
