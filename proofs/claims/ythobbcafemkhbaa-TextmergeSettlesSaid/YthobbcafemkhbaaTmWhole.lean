/- cordwoodref19.whole: is a string a line with its line feed? -/
import Derived.Test.YthobbcafemkhbaaTmMem
import Derived.Test.YthobbcafemkhbaaRlines
namespace Go.Proofs.Ythobbcafemkhbaa
open Go.RowKit

theorem bget {s : ByteArray} {i : Nat} (h : i < s.size) : s.data.toList[i]? = some s[i] := by
  rw [Array.getElem?_toList]; exact Array.getElem?_eq_getElem h
theorem u8_ten (c : UInt8) : ((c.toNat : Int) == 10) = decide (c = 10) := by
  by_cases h : c = 10
  · subst h; rfl
  · rw [decide_eq_false h, beq_eq_false_iff_ne]
    intro e
    exact h (UInt8.toNat_inj.1 (show c.toNat = (10 : UInt8).toNat by have : (10 : UInt8).toNat = 10 := rfl; omega))
def wholeB (s : ByteArray) : Bool := decide (0 < s.size) && decide ((lines s.data.toList).length = 1) && decide (s.data.toList[s.size - 1]? = some 10)

set_option maxRecDepth 100000 in
set_option maxHeartbeats 1000000 in
theorem whole_any (w : World) (s : ByteArray) (hs : s.size ≤ 1000000000) : Calls Try.prog 68 #[.string s] w fun e w' => e = .returned (.bool (wholeB s)) ∧ Below w.heap.size w w' := by
  have cl := rlines_any s hs w
  by_cases h0 : 0 < s.size
  · have hge : s.size - 1 < s.size := by omega
    have hidx : ((s.size : Int) - 1).toNat = s.size - 1 := by omega
    have HB : Hid (wholeB s = (decide ((lines s.data.toList).length = 1) && decide (s[s.size - 1] = 10))) := by
      show _ = _
      unfold wholeB
      rw [decide_eq_true h0, Bool.true_and, bget hge]
      simp
    generalize lines s.data.toList = L at *
    by_cases h1 : L.length = 1
    · have hn : ((L.length : Int) == 1) = true := by simp [h1]
      have HB2 : Hid (wholeB s = decide (s[s.size - 1] = 10)) := by show _ = _; rw [HB.out, decide_eq_true h1, Bool.true_and]
      clear HB h1
      go_enter Try.func68, Try.ntmps68
      go_wp2_with fail
      refine cl.mono ?_
      clear cl
      rintro e w1 ⟨v, rfl, ho, hb⟩
      obtain ⟨A, c, rfl⟩ := own_form ho
      go_wp2
      go_ret
      exact ⟨ret_bool (by rw [HB2.out]; exact u8_ten _), hb⟩
    · have hn : ((L.length : Int) == 1) = false := by rw [beq_eq_false_iff_ne]; omega
      have HB2 : Hid (wholeB s = false) := by show _ = _; rw [HB.out, decide_eq_false h1, Bool.false_and]
      clear HB h1
      go_enter Try.func68, Try.ntmps68
      go_wp2_with fail
      refine cl.mono ?_
      clear cl
      rintro e w1 ⟨v, rfl, ho, hb⟩
      obtain ⟨A, c, rfl⟩ := own_form ho
      go_wp2
      go_ret
      exact ⟨ret_bool HB2.out.symm, hb⟩
  · have HE : Hid (wholeB s = false) := by show _ = _; unfold wholeB; rw [decide_eq_false h0]; rfl
    clear cl
    go_enter Try.func68, Try.ntmps68
    go_wp2
    go_ret
    exact ⟨ret_bool HE.out.symm, Below.refl _ _⟩
end Go.Proofs.Ythobbcafemkhbaa
