/- cordwoodlaw19.awake: the examples of the chapter. -/
import Derived.Test.YthobbcafemkhbaaTmMerge2
import Derived.Test.YthobbcafemkhbaaTmClean
import Derived.Test.YthobbcafemkhbaaAwake
namespace Go.Proofs.Ythobbcafemkhbaa
open Go.RowKit

def ya : ByteArray := ⟨#[97, 10]⟩
def yb : ByteArray := ⟨#[98, 10]⟩
def yc : ByteArray := ⟨#[99, 10]⟩
def yx : ByteArray := ⟨#[120, 10]⟩
def yy : ByteArray := ⟨#[121, 10]⟩
def yd : ByteArray := ⟨#[100, 10]⟩
def want1 : List Rg := [(false, [], [ya], []), (true, [yb, yc], [yx, yc], [yb, yy])]
def want2 : List Rg := [(false, [], [ya, yx, yc, yd], [])]
theorem ex_merge1 : mergeL (lns ⟨#[97, 10, 98, 10, 99, 10]⟩) (lns ⟨#[97, 10, 120, 10, 99, 10]⟩) (lns ⟨#[97, 10, 98, 10, 121, 10]⟩) = want1 := by decide +kernel
theorem ex_merge2 : mergeL (lns ⟨#[97, 10, 98, 10, 99, 10]⟩) (lns ⟨#[97, 10, 120, 10, 99, 10]⟩) (lns ⟨#[97, 10, 98, 10, 99, 10, 100, 10]⟩) = want2 := by decide +kernel
theorem ex_clean2 : clnS want2 = (⟨#[97, 10, 120, 10, 99, 10, 100, 10]⟩, true) := by decide +kernel
theorem sz_small {L : List Rg} (h : ∀ x ∈ L, (∀ s ∈ x.2.1, s.size ≤ 1000) ∧ (∀ s ∈ x.2.2.1, s.size ≤ 1000) ∧ ∀ s ∈ x.2.2.2, s.size ≤ 1000) : SzR L := fun x hx =>
  ⟨fun s hs => Nat.le_trans ((h x hx).1 s hs) (by omega), fun s hs => Nat.le_trans ((h x hx).2.1 s hs) (by omega), fun s hs => Nat.le_trans ((h x hx).2.2 s hs) (by omega)⟩

theorem merge1_any (w : World) : Calls Try.prog 14 #[.string ⟨#[97, 10, 98, 10, 99, 10]⟩, .string ⟨#[97, 10, 120, 10, 99, 10]⟩, .string ⟨#[97, 10, 98, 10, 121, 10]⟩] w fun e w' => ∃ v, e = .returned (.tuple #[v, .int .i64 0]) ∧ Rgs w' v want1 ∧ Below w.heap.size w w' :=
  merge_gen _ _ _ (by decide) (by decide) (by decide) _ _ _ _ rfl rfl rfl ex_merge1 (by decide +kernel) (by decide +kernel) (by decide +kernel) w
theorem merge2_any (w : World) : Calls Try.prog 14 #[.string ⟨#[97, 10, 98, 10, 99, 10]⟩, .string ⟨#[97, 10, 120, 10, 99, 10]⟩, .string ⟨#[97, 10, 98, 10, 99, 10, 100, 10]⟩] w fun e w' => ∃ v, e = .returned (.tuple #[v, .int .i64 0]) ∧ Rgs w' v want2 ∧ Below w.heap.size w w' :=
  merge_gen _ _ _ (by decide) (by decide) (by decide) _ _ _ _ rfl rfl rfl ex_merge2 (by decide +kernel) (by decide +kernel) (by decide +kernel) w
theorem clean2_any (w : World) (v : Value) (h : Rgs w v want2) : Calls Try.prog 18 #[v] w fun e w' => e = .returned (.tuple #[.string ⟨#[97, 10, 120, 10, 99, 10, 100, 10]⟩, .bool true]) ∧ Below w.heap.size w w' := by
  have := clean_any w v want2 h (sz_small (by decide +kernel)) (by decide +kernel)
  rw [ex_clean2] at this
  exact this

/-- The regions of the example, as the law lays them. -/
theorem want_lit (w : World) : Rgs (((((w.alloc (.cells #[.string ya] 9)).alloc (.cells #[.string yb, .string yc] 9)).alloc (.cells #[.string yx, .string yc] 9)).alloc (.cells #[.string yb, .string yy] 9)).alloc
      (.cells #[.bool false, .slice none 0 0, .slice (some ⟨w.heap.size, 0, none⟩) 1 1, .slice none 0 0, .bool true, .slice (some ⟨w.heap.size + 1, 0, none⟩) 2 2, .slice (some ⟨w.heap.size + 1 + 1, 0, none⟩) 2 2, .slice (some ⟨w.heap.size + 1 + 1 + 1, 0, none⟩) 2 2] 58))
    (.slice (some ⟨w.heap.size + 1 + 1 + 1 + 1, 0, none⟩) 2 2) want1 := by
  have s1 : Strs _ (.slice (some ⟨w.heap.size, 0, none⟩) 1 1) [ya] := strs_lit w [ya] (by decide)
  have s2 : Strs _ (.slice (some ⟨(w.alloc (.cells #[.string ya] 9)).heap.size, 0, none⟩) 2 2) [yb, yc] := strs_lit (w.alloc (.cells #[.string ya] 9)) [yb, yc] (by decide)
  have s3 : Strs _ (.slice (some ⟨((w.alloc (.cells #[.string ya] 9)).alloc (.cells #[.string yb, .string yc] 9)).heap.size, 0, none⟩) 2 2) [yx, yc] := strs_lit ((w.alloc (.cells #[.string ya] 9)).alloc (.cells #[.string yb, .string yc] 9)) [yx, yc] (by decide)
  have s4 : Strs _ (.slice (some ⟨(((w.alloc (.cells #[.string ya] 9)).alloc (.cells #[.string yb, .string yc] 9)).alloc (.cells #[.string yx, .string yc] 9)).heap.size, 0, none⟩) 2 2) [yb, yy] :=
    strs_lit (((w.alloc (.cells #[.string ya] 9)).alloc (.cells #[.string yb, .string yc] 9)).alloc (.cells #[.string yx, .string yc] 9)) [yb, yy] (by decide)
  have s1 := (((s1.keep (Keeps.alloc _ (.cells #[.string yb, .string yc] 9))).keep (Keeps.alloc _ (.cells #[.string yx, .string yc] 9))).keep (Keeps.alloc _ (.cells #[.string yb, .string yy] 9)))
  have s2 := ((s2.keep (Keeps.alloc _ (.cells #[.string yx, .string yc] 9))).keep (Keeps.alloc _ (.cells #[.string yb, .string yy] 9)))
  have s3 := (s3.keep (Keeps.alloc _ (.cells #[.string yb, .string yy] 9)))
  simp only [World.size_alloc] at s2 s3 s4
  have hc := CellsAt.of_new ((((w.alloc (.cells #[.string ya] 9)).alloc (.cells #[.string yb, .string yc] 9)).alloc (.cells #[.string yx, .string yc] 9)).alloc (.cells #[.string yb, .string yy] 9))
    #[.bool false, .slice none 0 0, .slice (some ⟨w.heap.size, 0, none⟩) 1 1, .slice none 0 0, .bool true, .slice (some ⟨w.heap.size + 1, 0, none⟩) 2 2, .slice (some ⟨w.heap.size + 1 + 1, 0, none⟩) 2 2, .slice (some ⟨w.heap.size + 1 + 1 + 1, 0, none⟩) 2 2] 58 (0, 0)
  simp only [World.size_alloc] at hc
  refine ⟨_, 2, _, rfl, Nat.le_refl _, by unfold maxLen; omega, hc, [.bool false, .slice none 0 0, .slice (some ⟨w.heap.size, 0, none⟩) 1 1, .slice none 0 0], _, rfl, rfl, ⟨_, _, _, rfl, Sl.nil _ _ _, s1.keep (Keeps.alloc _ _), Sl.nil _ _ _⟩, [.bool true, .slice (some ⟨w.heap.size + 1, 0, none⟩) 2 2, .slice (some ⟨w.heap.size + 1 + 1, 0, none⟩) 2 2, .slice (some ⟨w.heap.size + 1 + 1 + 1, 0, none⟩) 2 2], [], rfl, rfl, ⟨_, _, _, rfl, s2.keep (Keeps.alloc _ _), s3.keep (Keeps.alloc _ _), s4.keep (Keeps.alloc _ _)⟩, rfl⟩

set_option maxRecDepth 100000 in
set_option maxHeartbeats 1000000 in
theorem awake19_any (w : World) : Calls Try.prog 13 #[] w fun e w' => e = .returned (.bool true) ∧ Below w.heap.size w w' := by
  have m1 := Lib.hid (merge1_any w)
  go_enter Try.func13, Try.ntmps13
  go_wp2_with fail
  refine m1.out.mono ?_
  rintro e w1 ⟨v1, rfl, r1, b1⟩
  have hl := want_lit w1
  have bl : Below w1.heap.size w1 (((((w1.alloc (.cells #[.string ya] 9)).alloc (.cells #[.string yb, .string yc] 9)).alloc (.cells #[.string yx, .string yc] 9)).alloc (.cells #[.string yb, .string yy] 9)).alloc
      (.cells #[.bool false, .slice none 0 0, .slice (some ⟨w1.heap.size, 0, none⟩) 1 1, .slice none 0 0, .bool true, .slice (some ⟨w1.heap.size + 1, 0, none⟩) 2 2, .slice (some ⟨w1.heap.size + 1 + 1, 0, none⟩) 2 2, .slice (some ⟨w1.heap.size + 1 + 1 + 1, 0, none⟩) 2 2] 58)) :=
    (((((Below.refl _ _).alloc (by simp <;> omega) _).alloc (by simp <;> omega) _).alloc (by simp <;> omega) _).alloc (by simp <;> omega) _).alloc (by simp <;> omega) _
  unfold ya yb yc yx yy at hl bl
  obtain ⟨A1, c1, rfl, _, _⟩ := r1.form
  go_wp2_with fail
  have r1 := r1.keep (Keeps.of_below bl)
  have hb := b1.trans (bl.mono b1.size)
  clear bl b1 m1
  refine (merge2_any _).mono ?_
  rintro e w3 ⟨v3, rfl, r3, b3⟩
  have r1 := r1.keep (Keeps.of_below b3)
  have hl := Rgs.keep hl (Keeps.of_below b3)
  have hb := hb.trans (b3.mono hb.size)
  clear b3
  have cc := Lib.hid (clean2_any w3 v3 r3)
  obtain ⟨A3, c3, rfl, _, _⟩ := r3.form
  go_wp2_with fail
  refine cc.out.mono ?_
  rintro e w4 ⟨rfl, b4⟩
  have r1 := r1.keep (Keeps.of_below b4)
  have hl := Rgs.keep hl (Keeps.of_below b4)
  have hb := hb.trans (b4.mono hb.size)
  have cs := rgSame_any w4 _ _ _ _ r1 hl
  rw [eqB_true rfl] at cs
  have CS := Lib.hid cs
  clear cs b4 cc r1 hl
  go_wp2_with fail
  refine CS.out.mono ?_
  rintro e w5 ⟨rfl, n, rfl⟩
  go_wp2
  go_ret
  exact ⟨rfl, below_drewN' hb n⟩
end Go.Proofs.Ythobbcafemkhbaa
