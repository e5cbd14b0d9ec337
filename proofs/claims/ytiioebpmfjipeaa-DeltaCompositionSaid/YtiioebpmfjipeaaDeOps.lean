/- delta: isCopy, isInsertion, size. -/
import Derived.Test.YtiioebpmfjipeaaBld
import Derived.Test.YtiioebpmfjipeaaJoinP
namespace Go.Proofs.Ytiioebpmfjipeaa
open Go.RowKit

def strB (l : List UInt8) : ByteArray := ⟨l.toArray⟩
theorem strB_data (l : List UInt8) : (strB l).data.toList = l := by simp [strB]
theorem strB_toList (l : List UInt8) : (strB l).toList = l := (ByteArray.toList_eq _).trans (strB_data l)
theorem strB_size (l : List UInt8) : (strB l).size = l.length := by simp [strB, ByteArray.size]
theorem strB_of (s : ByteArray) : strB s.data.toList = s := by simp [strB]
def dC (x : DOp) : List Value := [.int .i64 x.off, .int .i64 x.len, .string (strB x.data)]
def dV (x : DOp) : Value := .agg #[.int .i64 x.off, .int .i64 x.len, .string (strB x.data)]
theorem dC_len (x : DOp) : (dC x).length = 3 := rfl
def cpB (x : DOp) : Bool := decide x.cp
def insB (x : DOp) : Bool := decide x.ins
def szD (x : DOp) : Int := if 0 < x.len then x.len else x.data.length

set_option maxHeartbeats 1000000 in
theorem isCopy_any (x : DOp) (w : World) : Calls Try.prog 34 #[dV x] w fun e w' => e = .returned (.bool (cpB x)) ∧ Below w.heap.size w w' := by
  obtain ⟨o, n, d⟩ := x
  unfold dV
  have hb : Below w.heap.size w (w.alloc (.cells #[.int .i64 o, .int .i64 n, .string (strB d)] 28)) := (Below.refl _ _).alloc (Nat.le_refl _) _
  have hl := strB_toList d
  by_cases h1 : 0 < n
  · by_cases h2 : d = []
    · have hc : cpB ⟨o, n, d⟩ = true := decide_eq_true ⟨h1, h2⟩
      rw [hc]
      have he : (strB d).toList.isEmpty = true := by rw [hl, h2]; rfl
      generalize strB d = s at *
      clear hc h2 hl
      go_enter Try.func34, Try.ntmps34
      go_wp2
      go_ret
      exact ⟨rfl, hb⟩
    · have hc : cpB ⟨o, n, d⟩ = false := decide_eq_false fun e => h2 e.2
      rw [hc]
      have hl' : (strB d).toList ≠ [] := by rw [hl]; exact h2
      have he : (strB d).toList.isEmpty = false := by rw [hl]; simpa using h2
      generalize strB d = s at *
      clear hc h2 hl
      go_enter Try.func34, Try.ntmps34
      go_wp2
      go_ret
      exact ⟨rfl, hb⟩
  · have hc : cpB ⟨o, n, d⟩ = false := decide_eq_false fun e => h1 e.1
    rw [hc]
    generalize strB d = s at *
    have h1' : decide (0 < n) = false := decide_eq_false h1
    clear hc hl
    go_enter Try.func34, Try.ntmps34
    go_wp2
    go_ret
    exact ⟨rfl, hb⟩
set_option maxHeartbeats 1000000 in
theorem isIns_any (x : DOp) (w : World) : Calls Try.prog 35 #[dV x] w fun e w' => e = .returned (.bool (insB x)) ∧ Below w.heap.size w w' := by
  obtain ⟨o, n, d⟩ := x
  unfold dV
  have hb : Below w.heap.size w (w.alloc (.cells #[.int .i64 o, .int .i64 n, .string (strB d)] 28)) := (Below.refl _ _).alloc (Nat.le_refl _) _
  have hl := strB_toList d
  by_cases h0 : n = 0
  · subst h0
    by_cases h1 : o = 0
    · subst h1
      by_cases h2 : d = []
      · have hc : insB ⟨0, 0, d⟩ = false := decide_eq_false fun e => e.2.2 h2
        rw [hc]
        have he : (strB d).toList.isEmpty = true := by rw [hl, h2]; rfl
        generalize strB d = s at *
        clear hc h2 hl
        go_enter Try.func35, Try.ntmps35
        go_wp2
        go_ret
        exact ⟨rfl, hb⟩
      · have hc : insB ⟨0, 0, d⟩ = true := decide_eq_true ⟨rfl, rfl, h2⟩
        rw [hc]
        have hl' : (strB d).toList ≠ [] := by rw [hl]; exact h2
        have he : (strB d).toList.isEmpty = false := by rw [hl]; simpa using h2
        generalize strB d = s at *
        clear hc h2 hl
        go_enter Try.func35, Try.ntmps35
        go_wp2
        go_ret
        exact ⟨rfl, hb⟩
    · have hc : insB ⟨o, 0, d⟩ = false := decide_eq_false fun e => h1 e.2.1
      rw [hc]
      have h1' : (o == 0) = false := by simpa using h1
      generalize strB d = s at *
      clear hc hl
      go_enter Try.func35, Try.ntmps35
      go_wp2
      go_ret
      exact ⟨rfl, hb⟩
  · have hc : insB ⟨o, n, d⟩ = false := decide_eq_false fun e => h0 e.1
    rw [hc]
    have h1' : (n == 0) = false := by simpa using h0
    generalize strB d = s at *
    clear hc hl
    go_enter Try.func35, Try.ntmps35
    go_wp2
    go_ret
    exact ⟨rfl, hb⟩
set_option maxHeartbeats 1000000 in
theorem size_any (x : DOp) (w : World) : Calls Try.prog 36 #[dV x] w fun e w' => e = .returned (.int .i64 (szD x)) ∧ Below w.heap.size w w' := by
  obtain ⟨o, n, d⟩ := x
  unfold dV
  have hb : Below w.heap.size w (w.alloc (.cells #[.int .i64 o, .int .i64 n, .string (strB d)] 28)) := (Below.refl _ _).alloc (Nat.le_refl _) _
  have hl := strB_size d
  by_cases h1 : 0 < n
  · have hc : szD ⟨o, n, d⟩ = n := if_pos h1
    rw [hc]
    generalize strB d = s at *
    clear hc hl
    go_enter Try.func36, Try.ntmps36
    go_wp2
    go_ret
    exact ⟨rfl, hb⟩
  · have hc : szD ⟨o, n, d⟩ = (strB d).size := by rw [hl]; exact if_neg h1
    rw [hc]
    generalize strB d = s at *
    clear hc hl
    go_enter Try.func36, Try.ntmps36
    go_wp2
    go_ret
    exact ⟨rfl, hb⟩
end Go.Proofs.Ytiioebpmfjipeaa
