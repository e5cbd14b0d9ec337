/- slices.Grow of nil and slices.Concat of two slices of pending writes. -/
import Derived.Test.YtpihapkclnhklaaDkRef5
import Derived.Lib.AppendZerosOnto
import Derived.ArgAppend
namespace Go.Proofs.Ytpihapkclnhklaa
open Go.RowKit

set_option maxRecDepth 100000 in
set_option maxHeartbeats 1000000 in
theorem grow_any (W : World) (n : Nat) (h1 : 1 ≤ n) (h2 : n ≤ 1000000) :
    Calls Try.prog 48 #[.slice none 0 0, .int .i64 n] W fun e w' => ∃ v, e = .returned v ∧ w'.ownsRow W.heap.size 45 2 v 0 [] ∧ Below W.heap.size W w' := by
  obtain ⟨i1, hi1, hy0, hy1, hy2⟩ := info_parts Try.info_wr
  have hr : ∀ ty, (Builtin.append_ #[24, 3] ty #[.slice none 0 0, .int .i64 (n : Int)]).run Try.prog W =
      .ok (.slice (some ⟨W.heap.size, 0, none⟩) n (grownCap W n 0 45)) (W.drew.alloc (.cells (Builtin.zeroCells (Value.agg #[.int .i64 0, .string ByteArray.empty]).cells n ++ Builtin.zeroCells (Value.agg #[.int .i64 0, .string ByteArray.empty]).cells (grownCap W n 0 45 - n)) 45)) := fun ty => by
    have h := Lib.run_append_grow_zeros W 24 3 ty 45 i1 _ .i64 .i64 Try.underlying24 Try.underlying3 hi1 hy0 none 0 0 [] (run_firstCells_none W.drew i1.size 0 0 0) n (by omega) (by omega) (by omega) (by omega) (by rw [hy2]; omega) (by rw [hy2]; exact growslice_fits (by omega) (by omega))
    simpa using h
  have hG := grownCap_ge W n 0 45
  have hG2 := grownCap_le_maxLen W n 0 45 (by unfold maxLen; omega)
  have hG3 : grownCap W n 0 45 ≤ 9223372036854775807 := by unfold maxLen at hG2; omega
  generalize grownCap W n 0 45 = G at *
  have hsz : (Builtin.zeroCells (Value.agg #[.int .i64 0, .string ByteArray.empty]).cells n ++ Builtin.zeroCells (Value.agg #[.int .i64 0, .string ByteArray.empty]).cells (G - n)).size = G * 2 := by
    rw [Array.size_append, size_zeroCells, size_zeroCells]
    have : (Value.agg #[.int .i64 0, .string ByteArray.empty]).cells.size = 2 := rfl
    rw [this]
    omega
  have hown := World.ownsRow_made (base := W.heap.size) (e := 45) (size := 2) W.drew _ G (Nat.le_refl _) hG2 hsz
  have hbl := (below_drew1 (Below.refl W.heap.size W)).alloc (Nat.le_refl _) (.cells (Builtin.zeroCells (Value.agg #[.int .i64 0, .string ByteArray.empty]).cells n ++ Builtin.zeroCells (Value.agg #[.int .i64 0, .string ByteArray.empty]).cells (G - n)) 45)
  have HR := Lib.hid hr
  clear hr hsz
  generalize W.drew.alloc (.cells (Builtin.zeroCells (Value.agg #[.int .i64 0, .string ByteArray.empty]).cells n ++ Builtin.zeroCells (Value.agg #[.int .i64 0, .string ByteArray.empty]).cells (G - n)) 45) = w1 at *
  go_enter Try.func48, Try.ntmps48
  go_wp2_with (at_builtin; go_must (refine Lib.wpList_append_run _ rfl (.tmp 20) (.tmp 21) _ _ rfl _ _ rfl rfl _ _ (HR.out _) ?_))
  go_ret
  exact ⟨_, rfl, hown, hbl⟩

/-- Where the first k of two slices have been gathered. -/
def gath (p : List (Int × ByteArray)) (x : Int × ByteArray) : Nat → List (Int × ByteArray)
  | 0 => []
  | 1 => p
  | _ => p ++ [x]

set_option maxRecDepth 100000 in
set_option maxHeartbeats 4000000 in
theorem concat_any (W : World) (b g1 : Nat) (P : Option Addr) (cp : Nat) (p : List (Int × ByteArray)) (i : Int) (s : ByteArray) (hn : p.length ≤ 100000) (_hcp : p.length ≤ cp) (_hmp : cp ≤ 9223372036854775807)
    (q0 : W.cell? ⟨b, 0, none⟩ = some (.slice P p.length cp)) (q1 : W.cell? ⟨b, 1, none⟩ = some (.slice (some ⟨g1, 0, none⟩) 1 1))
    (hp : CellsAt W P (wrCells p)) (hx : CellsAt W (some ⟨g1, 0, none⟩) [.int .i64 i, .string s]) :
    Calls Try.prog 35 #[.slice (some ⟨b, 0, none⟩) 2 2] W fun e w' => ∃ v, e = .returned v ∧ OwW w' W.heap.size v (p ++ [(i, s)]) ∧ Below W.heap.size W w' := by
  obtain ⟨i1, hi1, hy0, hy1, hy2⟩ := info_parts Try.info_wr
  have cg := grow_any W (p.length + 1) (by omega) (by omega)
  rw [show ((p.length + 1 : Nat) : Int) = (p.length : Int) + 1 by omega] at cg
  have CG := Lib.hid cg
  clear cg
  go_enter Try.func35, Try.ntmps35
  go_wp2
  go_loop [3, 11] (fun s t => (t = .int .i64 0 ∧ s = .int .i64 0) ∨ (t = .int .i64 1 ∧ s = .int .i64 p.length) ∨ (t = .int .i64 2 ∧ s = .int .i64 ((p.length : Int) + 1))) (fun _ t => 2 - (intOf t).toNat)
  case atStart => exact .inl ⟨rfl, rfl⟩
  case round =>
    rcases hrel with ⟨rfl, rfl⟩ | ⟨rfl, rfl⟩ | ⟨rfl, rfl⟩
    · go_wp2
      go_round
      case rel => exact .inr (.inl ⟨rfl, rfl⟩)
      case measure => simp [intOf]
    · go_wp2
      go_round
      case rel => exact .inr (.inr ⟨rfl, rfl⟩)
      case measure => simp [intOf]
    · go_wp2_with fail
      refine CG.out.mono ?_
      clear CG
      rintro e w1 ⟨v1, rfl, hown, hb1⟩
      have hp1 := hp.keep (Keeps.of_below hb1)
      have hx1 := hx.keep (Keeps.of_below hb1)
      have r0 := (Keeps.of_below hb1) _ _ _ q0
      have r1 := (Keeps.of_below hb1) _ _ _ q1
      clear r0 r1 hp1 hx1
      go_wp2
      go_loopw [6, 27] (fun v t wr => ∃ k : Nat, k ≤ 2 ∧ t = .int .i64 k ∧ OwW wr W.heap.size v (gath p (i, s) k) ∧ Below W.heap.size W wr) (fun _ t _ => 2 - (intOf t).toNat)
      case atStart => exact ⟨0, by omega, rfl, hown, hb1⟩
      case round =>
        clear hown hb1
        obtain ⟨k, hk, rfl, hown, hd⟩ := hrel
        have hB := hd.size
        have hp1 := hp.keep (Keeps.of_below hd)
        have hx1 := hx.keep (Keeps.of_below hd)
        have r0 := (Keeps.of_below hd) _ _ _ q0
        have r1 := (Keeps.of_below hd) _ _ _ q1
        match k, hk with
        | 0, _ =>
          have hown0 : wr.ownsRow W.heap.size 45 2 u6 0 [] := hown
          have hW1 := Lib.hid (wrCells_one p)
          go_wp2_with (at_builtin; go_must (refine wpList_append_any _ rfl (.tmp 31) (.tmp 32) _ rfl W.heap.size 45 i1 _ 2 24 Try.underlying24 hi1 hy0 hy1 hy2 rfl (by omega) _ 0 [] rfl hown0 P p.length cp (wrCells p) rfl (wrCells_length p) hp1 hW1.out (by omega) (by omega) hB ?_))
          intro v2 w2 hown2 hgr hat
          have hd2 := hd.grown hgr hB (fun g' h => (hown0.lt g' h).1)
          have hown3 : OwW w2 W.heap.size v2 (gath p (i, s) 1) := by simpa [OwW, gath] using hown2
          clear hown2 hgr hat hown hown0 hd
          go_wp2
          go_roundw
          case rel => exact ⟨1, by omega, rfl, hown3, hd2⟩
          case measure => simp [intOf]
        | 1, _ =>
          have hown0 : wr.ownsRow W.heap.size 45 2 u6 p.length (wrCells p) := hown
          go_wp2_with (at_builtin; go_must (refine wpList_append_any _ rfl (.tmp 31) (.tmp 32) _ rfl W.heap.size 45 i1 _ 2 24 Try.underlying24 hi1 hy0 hy1 hy2 rfl (by omega) _ p.length (wrCells p) rfl hown0 (some ⟨g1, 0, none⟩) 1 1 [.int .i64 i, .string s] rfl rfl hx1 (by simp [Value.oneCell']) (by omega) (by omega) hB ?_))
          intro v2 w2 hown2 hgr hat
          have hd2 := hd.grown hgr hB (fun g' h => (hown0.lt g' h).1)
          have hown3 : OwW w2 W.heap.size v2 (gath p (i, s) 2) := by
            show OwW w2 W.heap.size v2 (p ++ [(i, s)])
            unfold OwW
            rw [wrCells_append, List.length_append]
            exact hown2
          clear hown2 hgr hat hown hown0 hd
          go_wp2
          go_roundw
          case rel => exact ⟨2, by omega, rfl, hown3, hd2⟩
          case measure => simp [intOf]
        | 2, _ =>
          go_wp2
          go_ret
          exact ⟨_, rfl, hown, hd⟩
end Go.Proofs.Ytpihapkclnhklaa
