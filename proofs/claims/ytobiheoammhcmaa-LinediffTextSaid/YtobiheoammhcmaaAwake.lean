/- cordwoodlaw18.awake: the example of the chapter. -/
import Derived.Test.YtobiheoammhcmaaDiff
import Derived.Test.YtobiheoammhcmaaRdiff
import Derived.Test.YtobiheoammhcmaaLines2
namespace Go.Proofs.Ytobiheoammhcmaa
open Go.RowKit

theorem elems_strs : ∀ (xs : List ByteArray), Elems 1 Str1 xs (xs.map .string)
  | [] => rfl
  | x :: xs => ⟨[.string x], _, rfl, rfl, rfl, elems_strs xs⟩
theorem strs_lit (w : World) (xs : List ByteArray) (hx : xs.length ≤ 1000000) : Strs (w.alloc (.cells (xs.map Value.string).toArray 9)) (.slice (some ⟨w.heap.size, 0, none⟩) xs.length xs.length) xs :=
  ⟨_, xs.length, xs.map .string, rfl, Nat.le_refl _, by unfold maxLen; omega, by simpa using CellsAt.of_new w (xs.map Value.string).toArray 9 (0, 0), elems_strs xs⟩

def sa : ByteArray := ⟨#[97, 10]⟩
def sb : ByteArray := ⟨#[98, 10]⟩
def sc : ByteArray := ⟨#[99]⟩
def sx : ByteArray := ⟨#[120, 10]⟩
theorem ex_diff : diffL [sa, sb, sc] [sa, sx, sc] = [((1 : Int), [sb], [sx])] := by decide +kernel
theorem ex_lines : lines [97, 10, 98, 10, 99] = [[97, 10], [98, 10], [99]] := by decide +kernel

theorem hks_lit (w : World) (n : Int) (hn0 : -9223372036854775808 ≤ n) (hn1 : n ≤ 9223372036854775807) (vo vn : Value) (o e : List ByteArray) (ho : Strs w vo o) (he : Strs w vn e) :
    Hks (w.alloc (.cells #[.int .i64 n, vo, vn] 32)) (.slice (some ⟨w.heap.size, 0, none⟩) 1 1) [(n, o, e)] :=
  ⟨_, 1, [.int .i64 n, vo, vn], rfl, Nat.le_refl _, by unfold maxLen; omega, by simpa using CellsAt.of_new w #[.int .i64 n, vo, vn] 32 (0, 0), Elems.one ⟨vo, vn, rfl, ho.keep (Keeps.alloc _ _), he.keep (Keeps.alloc _ _), hn0, hn1⟩ rfl⟩

set_option maxRecDepth 100000 in
set_option maxHeartbeats 1000000 in
theorem awake_any (w : World) : Calls Try.prog 12 #[] w fun e w' => e = .returned (.bool true) ∧ Below w.heap.size w w' := by
  have sA : Strs (w.alloc (.cells #[.string sa, .string sb, .string sc] 9)) (.slice (some ⟨w.heap.size, 0, none⟩) 3 3) [sa, sb, sc] := strs_lit w [sa, sb, sc] (by simp)
  have sA2 := sA.keep (Keeps.alloc _ (.cells #[.string sa, .string sx, .string sc] 9))
  have sB : Strs ((w.alloc (.cells #[.string sa, .string sb, .string sc] 9)).alloc (.cells #[.string sa, .string sx, .string sc] 9)) (.slice (some ⟨w.heap.size + 1, 0, none⟩) 3 3) [sa, sx, sc] := by
    have := strs_lit (w.alloc (.cells #[.string sa, .string sb, .string sc] 9)) [sa, sx, sc] (by simp)
    rw [World.size_alloc] at this
    exact this
  have hb2 : Below w.heap.size w ((w.alloc (.cells #[.string sa, .string sb, .string sc] 9)).alloc (.cells #[.string sa, .string sx, .string sc] 9)) := ((Below.refl _ _).alloc (Nat.le_refl _) _).alloc (by simp) _
  have c1 := diff_any _ _ _ _ _ sA2 sB (by simp) (by simp)
  go_enter Try.func12, Try.ntmps12
  go_wp2_with fail
  refine c1.mono ?_
  clear c1
  rintro e w3 ⟨v, rfl, hv, hb3⟩
  have hH : Hks w3 v _ := hv.sl
  rw [ex_diff] at hH
  have sA3 := sA2.keep (Keeps.of_below hb3)
  have sB3 := sB.keep (Keeps.of_below hb3)
  have hbw3 := hb2.trans (hb3.mono hb2.size)
  clear sA sA2 sB hv hb2 hb3
  have s8 : Strs (w3.alloc (.cells #[.string sb] 9)) (.slice (some ⟨w3.heap.size, 0, none⟩) 1 1) [sb] := strs_lit w3 [sb] (by simp)
  have s9 : Strs ((w3.alloc (.cells #[.string sb] 9)).alloc (.cells #[.string sx] 9)) (.slice (some ⟨w3.heap.size + 1, 0, none⟩) 1 1) [sx] := by
    have := strs_lit (w3.alloc (.cells #[.string sb] 9)) [sx] (by simp)
    rw [World.size_alloc] at this
    exact this
  have s10 := hks_lit _ 1 (by omega) (by omega) _ _ _ _ (s8.keep (Keeps.alloc _ (.cells #[.string sx] 9))) s9
  rw [World.size_alloc, World.size_alloc] at s10
  have kk : Keeps w3 _ := ((Keeps.alloc w3 (.cells #[.string sb] 9)).trans (Keeps.alloc _ (.cells #[.string sx] 9))).trans (Keeps.alloc _ (.cells #[.int .i64 1, .slice (some ⟨w3.heap.size, 0, none⟩) 1 1, .slice (some ⟨w3.heap.size + 1, 0, none⟩) 1 1] 32))
  have hb4 := ((hbw3.alloc hbw3.size (.cells #[.string sb] 9)).alloc (by have := hbw3.size; simp; omega) (.cells #[.string sx] 9)).alloc (by have := hbw3.size; simp; omega) (.cells #[.int .i64 1, .slice (some ⟨w3.heap.size, 0, none⟩) 1 1, .slice (some ⟨w3.heap.size + 1, 0, none⟩) 1 1] 32)
  have c2 := sameHunks_any _ _ _ _ _ (hH.keep kk) s10
  rw [eqB_true rfl] at c2
  have sA4 := sA3.keep kk
  have sB4 := sB3.keep kk
  clear hH s8 s9 s10 kk sA3 sB3 hbw3
  go_wp2_with fail
  refine c2.mono ?_
  clear c2
  rintro e w5 ⟨rfl, hd⟩
  have sA5 := sA4.keep hd.keeps
  have sB5 := sB4.keep hd.keeps
  have hb5 := hb4.trans (hd.below _)
  clear sA4 sB4 hb4 hd
  have c3 := dist_any _ _ _ _ _ sA5 sB5 (by simp) (by simp)
  rw [ex_diff, show sizeH [((1 : Int), [sb], [sx])] = 2 from rfl] at c3
  go_wp2_with fail
  refine c3.mono ?_
  clear c3
  rintro e w6 ⟨rfl, hb6⟩
  have sA6 := sA5.keep (Keeps.of_below hb6)
  have hb7 := hb5.trans (hb6.mono hb5.size)
  clear sA5 sB5 hb5 hb6
  have c4 := lines_any ⟨#[97, 10, 98, 10, 99]⟩ (by decide) w6
  rw [show (⟨#[97, 10, 98, 10, 99]⟩ : ByteArray).data.toList = [97, 10, 98, 10, 99] from rfl, ex_lines] at c4
  go_wp2_with fail
  refine c4.mono ?_
  clear c4
  rintro e w7 ⟨v7, rfl, hv7, hb8⟩
  have s7 : Strs w7 v7 [sa, sb, sc] := Ow.sl (e := 9) (base := w6.heap.size) ⟨_, hv7, elems_strs [sa, sb, sc]⟩
  have c5 := same_any _ _ _ _ _ s7 (sA6.keep (Keeps.of_below hb8))
  rw [eqB_true rfl] at c5
  have hb9 := hb7.trans (hb8.mono hb7.size)
  clear s7 sA6 hv7 hb7 hb8
  go_wp2_with fail
  refine c5.mono ?_
  clear c5
  rintro e w8 ⟨rfl, hd⟩
  have hb10 := hb9.trans (hd.below _)
  go_wp2
  go_ret
  exact ⟨rfl, hb10⟩
end Go.Proofs.Ytobiheoammhcmaa
