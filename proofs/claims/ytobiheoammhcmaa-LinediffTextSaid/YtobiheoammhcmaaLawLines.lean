/- The walk of the law LinediffLines: it returns true for any string and any list of strings. -/
import Derived.Test.YtobiheoammhcmaaRlines
import Derived.Test.YtobiheoammhcmaaText
import Derived.Test.YtobiheoammhcmaaAwake
namespace Go.Proofs.Ytobiheoammhcmaa
open Go.RowKit

theorem lines_strs {w w' : World} {v : Value} {l : List (List UInt8)} (h : w'.ownsRow w.heap.size 9 1 v l.length (l.map fun x => .string ⟨x.toArray⟩)) : Strs w' v (l.map fun x => (⟨x.toArray⟩ : ByteArray)) :=
  Ow.sl (e := 9) (base := w.heap.size) ⟨_, by rw [List.length_map]; exact h, by
    have := elems_strs (l.map fun x => (⟨x.toArray⟩ : ByteArray))
    rw [List.map_map] at this
    exact this⟩
theorem great_text {xs : List ByteArray} (h : greatB xs = false) : (textB xs).size ≤ 480 := by
  have h1 := greatB_false h
  rw [textB_size]
  have := sum_le h1.2
  omega

set_option maxRecDepth 100000 in
set_option maxHeartbeats 2000000 in
theorem law_lines (w : World) (s : ByteArray) (vl : Value) (xs : List ByteArray) (ha : Strs w vl xs) :
    Calls Try.prog 9 #[.string s, vl] w fun e w' => e = .returned (.bool true) ∧ Below w.heap.size w w' := by
  have g1 := great_any w vl xs ha
  have aw := awake_any w
  by_cases hs : s.size ≤ 300
  · have hs' : decide ((300 : Int) < (s.size : Int)) = false := by simp; omega
    cases hx : greatB xs
    · rw [hx] at g1
      have lx := (greatB_false hx).1
      have lt := great_text hx
      have c1 := lines_any s (by omega) w
      clear hx aw
      go_enter Try.func9, Try.ntmps9
      have C1 := Lib.hid c1
      clear c1
      go_wp2_with fail
      refine g1.mono ?_
      clear g1
      rintro e w1 ⟨rfl, rfl⟩
      go_wp2_with fail
      refine C1.out.mono ?_
      clear C1
      rintro e w1 ⟨v1, rfl, hv1, hb1⟩
      have s1 := lines_strs hv1
      have ha1 := ha.keep (Keeps.of_below hb1)
      have c2 := rlines_any s (by omega) w1
      clear hv1 ha
      go_wp2_with fail
      refine c2.mono ?_
      clear c2
      rintro e w2 ⟨v2, rfl, hv2, hb2⟩
      have s2 := lines_strs hv2
      have s1 := s1.keep (Keeps.of_below hb2)
      have ha2 := ha1.keep (Keeps.of_below hb2)
      have hB2 := hb1.trans (hb2.mono hb1.size)
      have c3 := same_any w2 v1 v2 _ _ s1 s2
      rw [eqB_true rfl] at c3
      clear hv2 ha1 hb1 hb2
      go_wp2_with fail
      refine c3.mono ?_
      clear c3
      rintro e w3 ⟨rfl, hd⟩
      have ha3 := ha2.keep hd.keeps
      have hB3 := hB2.trans (hd.below _)
      have c4 := text_any w3 vl xs ha3 (by omega) (by omega)
      clear s1 s2 ha2 hB2 hd
      generalize hT : textB xs = T at *
      have HT := Lib.hid hT
      clear hT
      go_wp2_with fail
      refine c4.mono ?_
      clear c4
      rintro e w4 ⟨rfl, hb4⟩
      have ha4 := ha3.keep (Keeps.of_below hb4)
      have hB4 := hB3.trans (hb4.mono hB3.size)
      have c5 := rtext_any w4 vl xs ha4 (by omega) (by rw [HT.out]; omega)
      rw [HT.out] at c5
      clear ha3 hB3 hb4
      go_wp2_with fail
      refine c5.mono ?_
      clear c5
      rintro e w5 ⟨rfl, hd⟩
      have hB5 := hB4.trans (hd.below _)
      have c6 := awake_any w5
      clear ha4 hB4 hd
      go_wp2_with fail
      refine c6.mono ?_
      clear c6
      rintro e w6 ⟨rfl, hb6⟩
      have hB6 := hB5.trans (hb6.mono hB5.size)
      go_wp2
      go_ret
      exact ⟨rfl, hB6⟩
    · rw [hx] at g1
      clear hx
      go_enter Try.func9, Try.ntmps9
      have AW := Lib.hid aw
      clear aw
      go_wp2_with fail
      refine g1.mono ?_
      clear g1
      rintro e w1 ⟨rfl, rfl⟩
      go_wp2_with fail
      refine AW.out.mono ?_
      clear AW
      rintro e w1 ⟨rfl, hb1⟩
      go_wp2
      go_ret
      exact ⟨rfl, hb1⟩
  · have hs' : (300 : Int) < (s.size : Int) := by omega
    clear g1
    go_enter Try.func9, Try.ntmps9
    go_wp2_with fail
    refine aw.mono ?_
    clear aw
    rintro e w1 ⟨rfl, hb1⟩
    go_wp2
    go_ret
    exact ⟨rfl, hb1⟩
end Go.Proofs.Ytobiheoammhcmaa
