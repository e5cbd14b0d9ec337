/- sort.SearchInts over an ascending slice. -/
import Derived.Test.YtiioebpmfjipeaaProg
import Derived.Test.YtiioebpmfjipeaaMem
import Derived.BigQuiet
namespace Go.Proofs.Ytiioebpmfjipeaa
set_option linter.unusedVariables false
set_option linter.unusedSimpArgs false
open Go.RowKit

def searchV (ga gx : Nat) : Value := .func (.func 75) #[] #[.pointer (some ⟨ga, 0, none⟩), .pointer (some ⟨gx, 0, none⟩)]
set_option maxHeartbeats 1000000 in
theorem search1_any (W : World) {ga gx b o c n : Nat} {x y : Int} (ha : W.cell? ⟨ga, 0, none⟩ = some (.slice (some ⟨b, o, none⟩) n c)) (hx : W.cell? ⟨gx, 0, none⟩ = some (.int .i64 x)) {i : Nat} (hi : i < n) (hn : n ≤ 1000000000) (hy : W.cell? ⟨b, o + i, none⟩ = some (.int .i64 y)) :
    Calls Try.prog 75 #[.int .i64 i, .pointer (some ⟨ga, 0, none⟩), .pointer (some ⟨gx, 0, none⟩)] W fun e w' => e = .returned (.bool (decide (x ≤ y))) ∧ Drawn W w' := by
  have hi' : (i : Int) < (n : Int) := by omega
  by_cases hxy : x ≤ y
  · rw [decide_eq_true hxy]
    go_enter Try.func75, Try.ntmps75
    go_wp2
    go_quiet (fail)
    go_wp2
    go_ret
    exact ⟨rfl, (Drawn.refl W).drewN _⟩
  · rw [decide_eq_false hxy]
    have hxy' : decide (x ≤ y) = false := decide_eq_false hxy
    go_enter Try.func75, Try.ntmps75
    go_wp2
    go_quiet (fail)
    go_wp2
    go_ret
    exact ⟨rfl, (Drawn.refl W).drewN _⟩
/-- How many come first. -/
def Cut1 (es : List Int) (x : Int) (r : Nat) : Prop := r ≤ es.length ∧ (∀ j y, es[j]? = some y → j < r → y < x) ∧ (∀ j y, es[j]? = some y → r ≤ j → x ≤ y)

set_option maxRecDepth 100000 in
set_option maxHeartbeats 2000000 in
theorem search_any (W : World) {ga gx b o c : Nat} {x : Int} (es : List Int) (hn : es.length ≤ 1000000000) (ha : W.cell? ⟨ga, 0, none⟩ = some (.slice (some ⟨b, o, none⟩) es.length c)) (hx : W.cell? ⟨gx, 0, none⟩ = some (.int .i64 x))
    (hy : ∀ j y, es[j]? = some y → W.cell? ⟨b, o + j, none⟩ = some (.int .i64 y)) (hm : ∀ (i j : Nat) (y z : Int), i ≤ j → es[i]? = some y → es[j]? = some z → y ≤ z) :
    Calls Try.prog 74 #[.int .i64 es.length, searchV ga gx] W fun e w' => ∃ r : Nat, e = .returned (.int .i64 r) ∧ Cut1 es x r ∧ Drawn W w' := by
  have HA := Lib.hid ha
  have HX := Lib.hid hx
  have HY := Lib.hid hy
  have HM := Lib.hid hm
  clear ha hx hy hm
  unfold searchV
  go_enter Try.func74, Try.ntmps74
  go_wp2
  go_loopw [5, 6] (fun li ri wr => ∃ lo hi : Nat, li = .int .i64 lo ∧ ri = .int .i64 hi ∧ lo ≤ hi ∧ hi ≤ es.length ∧ Hid ((∀ j y, es[j]? = some y → j < lo → y < x) ∧ (∀ j y, es[j]? = some y → hi ≤ j → x ≤ y)) ∧ Drawn W wr) (fun li ri _ => (intOf ri).toNat - (intOf li).toNat)
  case atStart => exact ⟨0, es.length, rfl, rfl, by omega, by omega, ⟨fun j y _ h => by omega, fun j y h1 h2 => by have := (List.getElem?_eq_some_iff.1 h1).1; omega⟩, Drawn.refl _⟩
  case round =>
    obtain ⟨lo, hi, rfl, rfl, hlh, hin, HI, hd⟩ := hrel
    by_cases hlt : lo < hi
    · obtain ⟨m, hmd⟩ : ∃ m, m = (lo + hi) / 2 := ⟨_, rfl⟩
      obtain ⟨y, hym⟩ : ∃ y, es[m]? = some y := ⟨_, List.getElem?_eq_getElem (by omega)⟩
      have C1 := Lib.hid (search1_any wr (hd.keeps _ _ _ HA.out) (hd.keeps _ _ _ HX.out) (i := m) (by omega) hn (hd.keeps _ _ _ (HY.out m y hym)))
      have hdm : ((lo : Int) + (hi : Int)) / 2 = (m : Int) := by omega
      have HDr := Lib.hid hd
      have HYM := Lib.hid hym
      have hm1 : m < hi := by omega
      have hm2 : lo ≤ m := by omega
      clear hym hd hmd
      by_cases hxy : x ≤ y
      · rw [decide_eq_true hxy] at C1
        have HI2 : Hid ((∀ j y, es[j]? = some y → j < lo → y < x) ∧ (∀ j y, es[j]? = some y → m ≤ j → x ≤ y)) := ⟨HI.out.1, fun j z hz hj => Int.le_trans hxy (HM.out m j y z hj HYM.out hz)⟩
        clear HI
        go_wp2_with fail
        refine C1.out.mono ?_
        rintro e w2 ⟨rfl, hd2⟩
        have HD2 := Lib.hid (HDr.out.trans hd2)
        clear C1 hd2 HDr
        go_wp2
        go_roundw
        case rel => exact ⟨lo, m, rfl, rfl, by omega, by omega, HI2, HD2.out⟩
        case measure => simp [intOf]; omega
      · rw [decide_eq_false hxy] at C1
        have HI2 : Hid ((∀ j y, es[j]? = some y → j < m + 1 → y < x) ∧ (∀ j y, es[j]? = some y → hi ≤ j → x ≤ y)) := ⟨fun j z hz hj => by
          have := HM.out j m z y (by omega) hz HYM.out
          omega, HI.out.2⟩
        clear HI
        go_wp2_with fail
        refine C1.out.mono ?_
        rintro e w2 ⟨rfl, hd2⟩
        have HD2 := Lib.hid (HDr.out.trans hd2)
        clear C1 hd2 HDr
        go_wp2
        go_roundw
        case rel => exact ⟨m + 1, hi, by go_num, rfl, by omega, by omega, HI2, HD2.out⟩
        case measure => simp [intOf]; omega
    · have hle : lo = hi := by omega
      subst hle
      have HE : Hid (Cut1 es x lo) := ⟨hin, HI.out.1, HI.out.2⟩
      clear HI
      go_wp2
      go_ret
      exact ⟨lo, rfl, HE.out, hd⟩

set_option maxRecDepth 100000 in
set_option maxHeartbeats 2000000 in
theorem searchInts_any (w : World) {b o c : Nat} {x : Int} (es : List Int) (hn : es.length ≤ 1000000000) (hb : b < w.heap.size)
    (hy : ∀ j y, es[j]? = some y → w.cell? ⟨b, o + j, none⟩ = some (.int .i64 y)) (hm : ∀ (i j : Nat) (y z : Int), i ≤ j → es[i]? = some y → es[j]? = some z → y ≤ z) :
    Calls Try.prog 67 #[.slice (some ⟨b, o, none⟩) es.length c, .int .i64 x] w fun e w' => ∃ r : Nat, e = .returned (.int .i64 r) ∧ Cut1 es x r ∧ Below w.heap.size w w' := by
  have k1 := (Below.refl w.heap.size w).alloc (Nat.le_refl _) (.cells #[.slice (some ⟨b, o, none⟩) es.length c] 94)
  have k2 := k1.alloc (by simp) (.cells #[.int .i64 x] 3)
  have x1 := (Blk.new w #[.slice (some ⟨b, o, none⟩) es.length c] 94).alloc (.cells #[.int .i64 x] 3)
  have x2 := Blk.new (w.alloc (.cells #[.slice (some ⟨b, o, none⟩) es.length c] 94)) #[.int .i64 x] 3
  rw [show (w.alloc (.cells #[.slice (some ⟨b, o, none⟩) es.length c] 94)).heap.size = w.heap.size + 1 by simp] at x2
  have CS := Lib.hid (search_any _ es hn (x1.cell (j := 0) rfl) (x2.cell (j := 0) rfl) (fun j y h => by rw [k2.cell (p := ⟨b, o + j, none⟩) (by simpa using hb)]; exact hy j y h) hm)
  have q1 := x1.cell (j := 0) rfl
  have K2 := Lib.hid k2
  unfold searchV at CS
  clear hy hm k1 k2 x1 x2
  go_enter Try.func67, Try.ntmps67
  go_wp2_with fail
  refine CS.out.mono ?_
  rintro e w2 ⟨r, rfl, hc, hd⟩
  have HC := Lib.hid hc
  have HB := Lib.hid (K2.out.trans (hd.below _))
  clear hc hd CS K2 q1
  go_wp2
  go_ret
  exact ⟨r, rfl, HC.out, HB.out⟩
end Go.Proofs.Ytiioebpmfjipeaa
