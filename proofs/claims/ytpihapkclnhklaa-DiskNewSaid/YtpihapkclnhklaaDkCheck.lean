/- Checks of disks: inRange, has, less, Check, in the program and in the reference implementation. -/
import Derived.Test.YtpihapkclnhklaaProg
import Derived.Test.YtpihapkclnhklaaDkMem
import Derived.Deep.QuietTactic
import Derived.Outline
namespace Go.Proofs.Ytpihapkclnhklaa
open Go.RowKit

def inRangeB (s z : Int) : Bool := decide (1 ≤ s ∧ s ≤ 1000 ∧ 1 ≤ z ∧ z ≤ 512)
def hasB (n : Nat) (i : Int) : Bool := decide (0 ≤ i ∧ i < n)
theorem inRangeB_true {s z : Int} (h : inRangeB s z = true) : 1 ≤ s ∧ s ≤ 1000 ∧ 1 ≤ z ∧ z ≤ 512 := of_decide_eq_true h
theorem inRangeB_false {s z : Int} (h : inRangeB s z = false) : ¬ (1 ≤ s ∧ s ≤ 1000 ∧ 1 ≤ z ∧ z ≤ 512) := of_decide_eq_false h
theorem hasB_true {n : Nat} {i : Int} (h : hasB n i = true) : 0 ≤ i ∧ i < n := of_decide_eq_true h
theorem hasB_false {n : Nat} {i : Int} (h : hasB n i = false) : i < 0 ∨ (n : Int) ≤ i := by have := of_decide_eq_false h; omega

set_option maxHeartbeats 400000 in
theorem inRange_any (s z : Int) (w : World) : Calls Try.prog 28 #[.int .i64 s, .int .i64 z] w fun e w' => e = .returned (.bool (inRangeB s z)) ∧ w = w' := by
  have key : inRangeB s z = (decide (1 ≤ s) && decide (s ≤ 1000) && decide (1 ≤ z) && decide (z ≤ 512)) := by
    unfold inRangeB
    rw [Bool.eq_iff_iff]
    simp
    omega
  have K := Lib.hid key
  clear key
  by_cases h1 : 1 ≤ s <;> by_cases h2 : s ≤ 1000 <;> by_cases h3 : 1 ≤ z <;> by_cases h4 : z ≤ 512
  all_goals
    go_enter Try.func28, Try.ntmps28
    go_wp2
    go_ret
    exact ⟨ret_bool (by rw [K.out]; simp [h1, h2, h3, h4]), rfl⟩

set_option maxHeartbeats 400000 in
theorem has_any (z l i : Int) (A : Option Addr) (n c : Nat) (vp : Value) (_hn : n ≤ c) (_hc : c ≤ 9223372036854775807) (w : World) :
    Calls Try.prog 34 #[.agg #[.int .i64 z, .slice A n c, vp, .int .i64 l], .int .i64 i] w fun e w' => e = .returned (.bool (hasB n i)) ∧ Below w.heap.size w w' := by
  have key : hasB n i = (decide (0 ≤ i) && decide (i < (n : Int))) := by
    unfold hasB
    rw [Bool.eq_iff_iff]
    simp
  have K := Lib.hid key
  clear key
  by_cases h1 : 0 ≤ i <;> by_cases h2 : i < (n : Int)
  all_goals
    go_enter Try.func34, Try.ntmps34
    go_wp2
    go_ret
    exact ⟨ret_bool (by rw [K.out]; simp [h1, h2]), (Below.refl _ _).alloc (Nat.le_refl _) _⟩

theorem less_any (n : Int) (h0 : -9223372036854775808 ≤ n) (h1 : n ≤ 9223372036854775807) (w : World) :
    Calls Try.prog 36 #[.int .i64 n] w fun e w' => e = .returned (.int .i64 (lessZ n)) ∧ w = w' := by
  by_cases h : 0 < n
  all_goals
    go_enter Try.func36, Try.ntmps36
    go_wp2
    go_ret
    exact ⟨ret_int (by unfold lessZ; first | rw [if_pos h] | rw [if_neg (by omega)]), rfl⟩
theorem rless_any (n : Int) (h0 : -9223372036854775808 ≤ n) (h1 : n ≤ 9223372036854775807) (w : World) :
    Calls Try.prog 39 #[.int .i64 n] w fun e w' => e = .returned (.int .i64 (lessZ n)) ∧ w = w' := by
  by_cases h : 0 < n
  all_goals
    go_enter Try.func39, Try.ntmps39
    go_wp2
    go_ret
    exact ⟨ret_int (by unfold lessZ; first | rw [if_pos h] | rw [if_neg (by omega)]), rfl⟩
end Go.Proofs.Ytpihapkclnhklaa
