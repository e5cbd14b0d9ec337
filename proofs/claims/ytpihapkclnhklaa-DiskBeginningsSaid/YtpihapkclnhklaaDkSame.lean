/- cordwoodref05.Same of a disk with itself; Great. -/
import Derived.Test.YtpihapkclnhklaaDkRef1
namespace Go.Proofs.Ytpihapkclnhklaa
open Go.RowKit

set_option maxRecDepth 100000 in
set_option maxHeartbeats 2000000 in
theorem same_any (W : World) (vs vp us up : Value) (d : Dk) (h : DskP W vs vp d) (h' : DskP W us up d) :
    Calls Try.prog 14 #[.agg #[.int .i64 d.size, vs, vp, .int .i64 d.left], .agg #[.int .i64 d.size, us, up, .int .i64 d.left]] W fun e w' => e = .returned (.bool true) ∧ Below W.heap.size W w' := by
  obtain ⟨size, secs, pend, left⟩ := d
  obtain ⟨hs, hp, z0, z1, f0, f1⟩ := h
  obtain ⟨hs', hp', _, _, _, _⟩ := h'
  simp only at hs hp hs' hp' z0 z1 f0 f1
  obtain ⟨A, c, rfl, hc, hm⟩ := hs.form
  obtain ⟨P, cp, rfl, hcp, hmp⟩ := hp.form
  obtain ⟨A', c', rfl, hc', hm'⟩ := hs'.form
  obtain ⟨P', cp', rfl, hcp', hmp'⟩ := hp'.form
  have hbk0 := Blk.new W #[.int .i64 size, .slice A secs.length c, .slice P pend.length cp, .int .i64 left] 26
  have hbk := hbk0.alloc (.cells #[.int .i64 size, .slice A' secs.length c', .slice P' pend.length cp', .int .i64 left] 26)
  have hbr := Blk.new (W.alloc (.cells #[.int .i64 size, .slice A secs.length c, .slice P pend.length cp, .int .i64 left] 26)) #[.int .i64 size, .slice A' secs.length c', .slice P' pend.length cp', .int .i64 left] 26
  rw [World.size_alloc] at hbr
  have hd1 := ((Below.refl W.heap.size W).alloc (Nat.le_refl _) (.cells #[.int .i64 size, .slice A secs.length c, .slice P pend.length cp, .int .i64 left] 26)).alloc (by simp) (.cells #[.int .i64 size, .slice A' secs.length c', .slice P' pend.length cp', .int .i64 left] 26)
  clear hbk0
  go_enter Try.func14, Try.ntmps14
  go_upto_region 1 with (fail)
  generalize (W.alloc (.cells #[.int .i64 size, .slice A secs.length c, .slice P pend.length cp, .int .i64 left] 26)).alloc (.cells #[.int .i64 size, .slice A' secs.length c', .slice P' pend.length cp', .int .i64 left] 26) = w1 at *
  have q0 := hbk.cell (j := 0) rfl
  have q1 := hbk.cell (j := 1) rfl
  have q2 := hbk.cell (j := 2) rfl
  have q3 := hbk.cell (j := 3) rfl
  have p0 := hbr.cell (j := 0) rfl
  have p1 := hbr.cell (j := 1) rfl
  have p2 := hbr.cell (j := 2) rfl
  have p3 := hbr.cell (j := 3) rfl
  go_wp2
  go_loopw [5] (fun t wr => ∃ k : Nat, k ≤ secs.length ∧ t = .int .i64 k ∧ Drawn w1 wr) (fun t _ => secs.length - (intOf t).toNat)
  case atStart => exact ⟨0, by omega, rfl, Drawn.refl _⟩
  case round =>
    clear q0 q3 p0 p3
    obtain ⟨k, hk, rfl, nd, rfl⟩ := hrel
    by_cases hlt : k < secs.length
    · obtain ⟨b, off, rfl, a1⟩ := (hs.keep (Keeps.of_below hd1)).get hlt
      obtain ⟨b', off', rfl, a1'⟩ := (hs'.keep (Keeps.of_below hd1)).get hlt
      generalize secs[k] = s at *
      go_wp2
      go_quiet (fail)
      go_wp2
      go_roundw
      case rel => exact ⟨k + 1, by omega, by go_num, nd + _, rfl⟩
      case measure => simp [intOf]; omega
    · go_wp2
      go_loopw [6] (fun t wr => ∃ k : Nat, k ≤ pend.length ∧ t = .int .i64 k ∧ Drawn w1 wr) (fun t _ => pend.length - (intOf t).toNat)
      case atStart => exact ⟨0, by omega, rfl, nd, rfl⟩
      case round =>
        obtain ⟨j, hj, rfl, ne, rfl⟩ := hrel
        by_cases hlt2 : j < pend.length
        · obtain ⟨b, off, rfl, a1, a2, a3, a4⟩ := (hp.keep (Keeps.of_below hd1)).get hlt2
          obtain ⟨b', off', rfl, a1', a2', _, _⟩ := (hp'.keep (Keeps.of_below hd1)).get hlt2
          generalize pend[j] = wx at *
          go_wp2
          go_quiet (fail)
          go_wp2
          go_roundw
          case rel => exact ⟨j + 1, by omega, by go_num, ne + _, rfl⟩
          case measure => simp [intOf]; omega
        · go_wp2
          go_ret
          exact ⟨rfl, below_drewN' hd1 ne⟩

/-- Is a disk greater than the bounds of the statements? -/
def greatB (d : Dk) : Bool := decide (12 < d.secs.length ∨ 12 < d.pend.length ∨ 40 < d.size)
theorem greatB_false {d : Dk} (h : greatB d = false) : d.secs.length ≤ 12 ∧ d.pend.length ≤ 12 ∧ d.size ≤ 40 := by
  have := of_decide_eq_false h
  omega
set_option maxHeartbeats 400000 in
theorem great_any (W : World) (vs vp : Value) (d : Dk) (h : DskP W vs vp d) :
    Calls Try.prog 15 #[.agg #[.int .i64 d.size, vs, vp, .int .i64 d.left]] W fun e w' => e = .returned (.bool (greatB d)) ∧ Below W.heap.size W w' := by
  obtain ⟨size, secs, pend, left⟩ := d
  obtain ⟨hs, hp, z0, z1, f0, f1⟩ := h
  simp only at hs hp z0 z1 f0 f1
  obtain ⟨A, c, rfl, hc, hm⟩ := hs.form
  obtain ⟨P, cp, rfl, hcp, hmp⟩ := hp.form
  have key : greatB ⟨size, secs, pend, left⟩ = (decide (12 < (secs.length : Int)) || decide (12 < (pend.length : Int)) || decide (40 < size)) := by
    unfold greatB
    rw [Bool.eq_iff_iff]
    simp
    omega
  have K := Lib.hid key
  clear key
  by_cases h1 : 12 < (secs.length : Int) <;> by_cases h2 : 12 < (pend.length : Int) <;> by_cases h3 : 40 < size
  all_goals
    go_enter Try.func15, Try.ntmps15
    go_wp2
    go_ret
    exact ⟨ret_bool (by rw [K.out, Bool.eq_iff_iff]; simp <;> omega), (Below.refl _ _).alloc (Nat.le_refl _) _⟩
end Go.Proofs.Ytpihapkclnhklaa
