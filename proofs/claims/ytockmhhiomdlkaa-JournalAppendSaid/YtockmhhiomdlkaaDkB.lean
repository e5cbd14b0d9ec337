/- slices.Grow of nil and slices.Concat of two slices of pending writes. disk.Write. slices.Clone of strings, disk.settled with the closure of Sync. disk.Sync. disk.New. disk.settled with the closure of Cut. disk.Cut. slices.Backward over pending writes: the iterator. disk.Read. Disks in memory, where a box that holds no string is written. disk.Read of a sector of a valid disk. -/
import Derived.Test.YtockmhhiomdlkaaDkA
import Derived.Lib.AppendZerosOnto
import Derived.ArgAppend
import Derived.Test.YtockmhhiomdlkaaShelf
import Derived.Deep.RegionHeld3
import Derived.Test.YtockmhhiomdlkaaDkCut1
import Derived.RangeFuncNested
import Derived.RangeFuncBound
import Derived.RangeFuncCalls
import Derived.RangeFuncLeaves
import Derived.Shelf.Abstract
import Derived.Shelf.RegionOpen
import Derived.WalkKit
import Derived.OwnWalkIn
import Derived.TacticsInMore
import Derived.LoopNIn
import Derived.LoopIn
namespace Go.Proofs.Ytockmhhiomdlkaa
set_option linter.unusedSimpArgs false
set_option linter.unusedVariables false
open Go.RowKit

set_option maxRecDepth 100000 in
set_option maxHeartbeats 1000000 in
theorem grow_any (W : World) (n : Nat) (h1 : 1 ≤ n) (h2 : n ≤ 1000000) :
    Calls Try.prog 102 #[.slice none 0 0, .int .i64 n] W fun e w' => ∃ v, e = .returned v ∧ w'.ownsRow W.heap.size 78 2 v 0 [] ∧ Below W.heap.size W w' := by
  obtain ⟨i1, hi1, hy0, hy1, hy2⟩ := info_parts Try.info_wr
  have hr : ∀ ty, (Builtin.append_ #[23, 3] ty #[.slice none 0 0, .int .i64 (n : Int)]).run Try.prog W =
      .ok (.slice (some ⟨W.heap.size, 0, none⟩) n (grownCap W n 0 78)) (W.drew.alloc (.cells (Builtin.zeroCells (Value.agg #[.int .i64 0, .string ByteArray.empty]).cells n ++ Builtin.zeroCells (Value.agg #[.int .i64 0, .string ByteArray.empty]).cells (grownCap W n 0 78 - n)) 78)) := fun ty => by
    have h := Lib.run_append_grow_zeros W 23 3 ty 78 i1 _ .i64 .i64 Try.underlying23 Try.underlying3 hi1 hy0 none 0 0 [] (run_firstCells_none W.drew i1.size 0 0 0) n (by omega) (by omega) (by omega) (by omega) (by rw [hy2]; omega) (by rw [hy2]; exact growslice_fits (by omega) (by omega))
    simpa using h
  have hG := grownCap_ge W n 0 78
  have hG2 := grownCap_le_maxLen W n 0 78 (by unfold maxLen; omega)
  have hG3 : grownCap W n 0 78 ≤ 9223372036854775807 := by unfold maxLen at hG2; omega
  generalize grownCap W n 0 78 = G at *
  have hsz : (Builtin.zeroCells (Value.agg #[.int .i64 0, .string ByteArray.empty]).cells n ++ Builtin.zeroCells (Value.agg #[.int .i64 0, .string ByteArray.empty]).cells (G - n)).size = G * 2 := by
    rw [Array.size_append, size_zeroCells, size_zeroCells]
    have : (Value.agg #[.int .i64 0, .string ByteArray.empty]).cells.size = 2 := rfl
    rw [this]
    omega
  have hown := World.ownsRow_made (base := W.heap.size) (e := 78) (size := 2) W.drew _ G (Nat.le_refl _) hG2 hsz
  have hbl := (below_drew1 (Below.refl W.heap.size W)).alloc (Nat.le_refl _) (.cells (Builtin.zeroCells (Value.agg #[.int .i64 0, .string ByteArray.empty]).cells n ++ Builtin.zeroCells (Value.agg #[.int .i64 0, .string ByteArray.empty]).cells (G - n)) 78)
  have HR := Lib.hid hr
  clear hr hsz
  generalize W.drew.alloc (.cells (Builtin.zeroCells (Value.agg #[.int .i64 0, .string ByteArray.empty]).cells n ++ Builtin.zeroCells (Value.agg #[.int .i64 0, .string ByteArray.empty]).cells (G - n)) 78) = w1 at *
  go_enter Try.func102, Try.ntmps102
  go_wp2_with (at_builtin; go_must (refine Lib.wpList_append_run _ rfl (.tmp 20) (.tmp 21) _ _ rfl _ _ rfl rfl _ _ (HR.out _) ?_))
  go_ret
  exact ⟨_, rfl, hown, hbl⟩

/-- Where the first k of two slices have been gathered. -/
def gath (p : List (Int × ByteArray)) (x : Int × ByteArray) : Nat → List (Int × ByteArray)
  | 0 => []
  | 1 => p
  | _ => p ++ [x]

set_option maxRecDepth 100000 in
set_option maxHeartbeats 4000000 in
theorem concat_any (W : World) (b g1 : Nat) (P : Option Addr) (cp : Nat) (p : List (Int × ByteArray)) (i : Int) (s : ByteArray) (hn : p.length ≤ 100000) (_hcp : p.length ≤ cp) (_hmp : cp ≤ 9223372036854775807)
    (q0 : W.cell? ⟨b, 0, none⟩ = some (.slice P p.length cp)) (q1 : W.cell? ⟨b, 1, none⟩ = some (.slice (some ⟨g1, 0, none⟩) 1 1))
    (hp : CellsAt W P (wrCells p)) (hx : CellsAt W (some ⟨g1, 0, none⟩) [.int .i64 i, .string s]) :
    Calls Try.prog 88 #[.slice (some ⟨b, 0, none⟩) 2 2] W fun e w' => ∃ v, e = .returned v ∧ OwW w' W.heap.size v (p ++ [(i, s)]) ∧ Below W.heap.size W w' := by
  obtain ⟨i1, hi1, hy0, hy1, hy2⟩ := info_parts Try.info_wr
  have cg := grow_any W (p.length + 1) (by omega) (by omega)
  rw [show ((p.length + 1 : Nat) : Int) = (p.length : Int) + 1 by omega] at cg
  have CG := Lib.hid cg
  clear cg
  go_enter Try.func88, Try.ntmps88
  go_wp2
  go_loop [3, 11] (fun s t => (t = .int .i64 0 ∧ s = .int .i64 0) ∨ (t = .int .i64 1 ∧ s = .int .i64 p.length) ∨ (t = .int .i64 2 ∧ s = .int .i64 ((p.length : Int) + 1))) (fun _ t => 2 - (intOf t).toNat)
  case atStart => exact .inl ⟨rfl, rfl⟩
  case round =>
    rcases hrel with ⟨rfl, rfl⟩ | ⟨rfl, rfl⟩ | ⟨rfl, rfl⟩
    · go_wp2
      go_round
      case rel => exact .inr (.inl ⟨rfl, rfl⟩)
      case measure => simp [intOf]
    · go_wp2
      go_round
      case rel => exact .inr (.inr ⟨rfl, rfl⟩)
      case measure => simp [intOf]
    · go_wp2_with fail
      refine CG.out.mono ?_
      clear CG
      rintro e w1 ⟨v1, rfl, hown, hb1⟩
      have hp1 := hp.keep (Keeps.of_below hb1)
      have hx1 := hx.keep (Keeps.of_below hb1)
      have r0 := (Keeps.of_below hb1) _ _ _ q0
      have r1 := (Keeps.of_below hb1) _ _ _ q1
      clear r0 r1 hp1 hx1
      go_wp2
      go_loopw [6, 27] (fun v t wr => ∃ k : Nat, k ≤ 2 ∧ t = .int .i64 k ∧ OwW wr W.heap.size v (gath p (i, s) k) ∧ Below W.heap.size W wr) (fun _ t _ => 2 - (intOf t).toNat)
      case atStart => exact ⟨0, by omega, rfl, hown, hb1⟩
      case round =>
        clear hown hb1
        obtain ⟨k, hk, rfl, hown, hd⟩ := hrel
        have hB := hd.size
        have hp1 := hp.keep (Keeps.of_below hd)
        have hx1 := hx.keep (Keeps.of_below hd)
        have r0 := (Keeps.of_below hd) _ _ _ q0
        have r1 := (Keeps.of_below hd) _ _ _ q1
        match k, hk with
        | 0, _ =>
          have hown0 : wr.ownsRow W.heap.size 78 2 u6 0 [] := hown
          have hW1 := Lib.hid (wrCells_one p)
          go_wp2_with (at_builtin; go_must (refine wpList_append_any _ rfl (.tmp 31) (.tmp 32) _ rfl W.heap.size 78 i1 _ 2 24 Try.underlying23 hi1 hy0 hy1 hy2 rfl (by omega) _ 0 [] rfl hown0 P p.length cp (wrCells p) rfl (wrCells_length p) hp1 hW1.out (by omega) (by omega) hB ?_))
          intro v2 w2 hown2 hgr hat
          have hd2 := hd.grown hgr hB (fun g' h => (hown0.lt g' h).1)
          have hown3 : OwW w2 W.heap.size v2 (gath p (i, s) 1) := by simpa [OwW, gath] using hown2
          clear hown2 hgr hat hown hown0 hd
          go_wp2
          go_roundw
          case rel => exact ⟨1, by omega, rfl, hown3, hd2⟩
          case measure => simp [intOf]
        | 1, _ =>
          have hown0 : wr.ownsRow W.heap.size 78 2 u6 p.length (wrCells p) := hown
          go_wp2_with (at_builtin; go_must (refine wpList_append_any _ rfl (.tmp 31) (.tmp 32) _ rfl W.heap.size 78 i1 _ 2 24 Try.underlying23 hi1 hy0 hy1 hy2 rfl (by omega) _ p.length (wrCells p) rfl hown0 (some ⟨g1, 0, none⟩) 1 1 [.int .i64 i, .string s] rfl rfl hx1 (by simp [Value.oneCell']) (by omega) (by omega) hB ?_))
          intro v2 w2 hown2 hgr hat
          have hd2 := hd.grown hgr hB (fun g' h => (hown0.lt g' h).1)
          have hown3 : OwW w2 W.heap.size v2 (gath p (i, s) 2) := by
            show OwW w2 W.heap.size v2 (p ++ [(i, s)])
            unfold OwW
            rw [wrCells_append, List.length_append]
            exact hown2
          clear hown2 hgr hat hown hown0 hd
          go_wp2
          go_roundw
          case rel => exact ⟨2, by omega, rfl, hown3, hd2⟩
          case measure => simp [intOf]
        | 2, _ =>
          go_wp2
          go_ret
          exact ⟨_, rfl, hown, hd⟩
end Go.Proofs.Ytockmhhiomdlkaa

namespace Go.Proofs.Ytockmhhiomdlkaa
set_option linter.unusedSimpArgs false
set_option linter.unusedVariables false
open Go.RowKit

theorem has_out {n : Nat} {i : Int} (h : hasB n i = false) : i < 0 ∨ (n : Int) ≤ i := hasB_false h
theorem has_in {n : Nat} {i : Int} (h : hasB n i = true) : ¬ (i < 0 ∨ (n : Int) ≤ i) := by have := hasB_true h; omega

set_option maxRecDepth 100000 in
set_option maxHeartbeats 4000000 in
theorem write_any (W : World) (vs vp : Value) (d : Dk) (h : DskP W vs vp d) (hn : d.pend.length ≤ 100000) (i : Int) (hi0 : -9223372036854775808 ≤ i) (hi1 : i ≤ 9223372036854775807) (s : ByteArray) :
    Calls Try.prog 67 #[.agg #[.int .i64 d.size, vs, vp, .int .i64 d.left], .int .i64 i, .string s] W (DkPost W (wrD d i s) (wrE d i s)) := by
  obtain ⟨A, c, rfl, hc, hm⟩ := h.sec.form
  obtain ⟨P, cp, rfl, hcp, hmp⟩ := h.pen.form
  have hbk0 := Blk.new W #[.int .i64 d.size, .slice A d.secs.length c, .slice P d.pend.length cp, .int .i64 d.left] 25
  have hbk := hbk0.alloc (.cells #[.int .i64 0, .slice none 0 0, .slice none 0 0, .int .i64 0] 25)
  have hbr := Blk.new (W.alloc (.cells #[.int .i64 d.size, .slice A d.secs.length c, .slice P d.pend.length cp, .int .i64 d.left] 25)) #[.int .i64 0, .slice none 0 0, .slice none 0 0, .int .i64 0] 25
  rw [World.size_alloc] at hbr
  have hd1 := ((Below.refl W.heap.size W).alloc (Nat.le_refl _) (.cells #[.int .i64 d.size, .slice A d.secs.length c, .slice P d.pend.length cp, .int .i64 d.left] 25)).alloc (by simp) (.cells #[.int .i64 0, .slice none 0 0, .slice none 0 0, .int .i64 0] 25)
  have hD1 := h.keep (Keeps.of_below hd1)
  clear hbk0
  go_enter Try.func67, Try.ntmps67
  go_upto_region 1 with (fail)
  generalize (W.alloc (.cells #[.int .i64 d.size, .slice A d.secs.length c, .slice P d.pend.length cp, .int .i64 d.left] 25)).alloc (.cells #[.int .i64 0, .slice none 0 0, .slice none 0 0, .int .i64 0] 25) = w1 at *
  obtain ⟨q0, q1, q2, q3⟩ := box4 hbk (Below.refl _ _)
  have c1 := check_any _ _ _ d hD1
  go_wp2_with fail
  refine c1.mono ?_
  clear c1 q0 q1 q2 q3
  rintro e w2 ⟨rfl, hb2⟩
  have hd2 := hd1.trans (hb2.mono hd1.size)
  have hbk2 := hbk.keep hb2
  have hbr2 := hbr.keep hb2
  have hD2 := hD1.keep (Keeps.of_below hb2)
  clear hbk hbr hd1 hD1 hb2
  by_cases hk : chk d = 0
  · have HK := Lib.hid hk
    rw [hk]
    clear hk
    obtain ⟨q0, q1, q2, q3⟩ := box4 hbk2 (Below.refl _ _)
    have c2 := has_any d.size d.left i A d.secs.length c (.slice P d.pend.length cp) hc hm w2
    go_wp2_with fail
    refine c2.mono ?_
    clear c2 q0 q1 q2 q3
    rintro e w3 ⟨rfl, hb3⟩
    have hd3 := hd2.trans (hb3.mono hd2.size)
    have hbk3 := hbk2.keep hb3
    have hbr3 := hbr2.keep hb3
    have hD3 := hD2.keep (Keeps.of_below hb3)
    clear hbk2 hbr2 hd2 hD2 hb3
    obtain ⟨t0, t1, t2, t3, r0, r1, r2, r3⟩ := box8 hbr3 (Below.refl _ _)
    obtain ⟨q0, q1, q2, q3, s0, s1, s2, s3⟩ := box8 hbk3 (Below.refl _ _)
    have hdx := set4_below hd3 (show W.heap.size ≤ W.heap.size + 1 by omega) (.int .i64 0) (.slice none 0 0) (.slice none 0 0) (.int .i64 0)
    have hx := hbr3.set4 (.int .i64 0) (.slice none 0 0) (.slice none 0 0) (.int .i64 0)
    cases hout : hasB d.secs.length i
    · have HE := Lib.hid (wr_out (s := s) HK.out (has_out hout))
      clear hout
      go_wp2
      clear r0 r1 r2 r3 t0 t1 t2 t3 q0 q1 q2 q3 s0 s1 s2 s3
      generalize ((((w3.setCell ⟨W.heap.size + 1, 0, none⟩ (.int .i64 0)).setCell ⟨W.heap.size + 1, 1, none⟩ (.slice none 0 0)).setCell ⟨W.heap.size + 1, 2, none⟩ (.slice none 0 0)).setCell ⟨W.heap.size + 1, 3, none⟩ (.int .i64 0)) = wx at *
      obtain ⟨k0, k1, k2, k3⟩ := box4 hx (Below.refl _ _)
      exact bodyPost_ret (v := .tuple #[.agg #[.int .i64 0, .slice none 0 0, .slice none 0 0, .int .i64 0], .int .i64 2]) (by simp [results, Try.results67, go_sem, k0, k1, k2, k3]) rfl (DkPost.mk HE.out.1.symm HE.out.2.symm rfl rfl (Dsk.nodisk _) hdx)
    · have HO := Lib.hid (has_in hout)
      have hin := hasB_true hout
      clear hout
      by_cases hsz : (s.size : Int) = d.size
      · have HZ := Lib.hid hsz
        have hzb : ((s.size : Int) != d.size) = false := by simp [hsz]
        clear hsz
        by_cases hl : d.left = 0
        · have HE := Lib.hid (wr_lost HK.out HO.out HZ.out hl)
          have hb : (d.left == 0) = true := by simp [hl]
          have hx := hbr3.set4 (.int .i64 d.size) (.slice A d.secs.length c) (.slice P d.pend.length cp) (.int .i64 d.left)
          have hdx := set4_below hd3 (show W.heap.size ≤ W.heap.size + 1 by omega) (.int .i64 d.size) (.slice A d.secs.length c) (.slice P d.pend.length cp) (.int .i64 d.left)
          clear hl
          go_wp2
          clear r0 r1 r2 r3 t0 t1 t2 t3 q0 q1 q2 q3 s0 s1 s2 s3
          generalize (((w3.setCell ⟨W.heap.size + 1, 0, none⟩ (.int .i64 d.size)).setCell ⟨W.heap.size + 1, 1, none⟩ (.slice A d.secs.length c)).setCell ⟨W.heap.size + 1, 2, none⟩ (.slice P d.pend.length cp)).setCell ⟨W.heap.size + 1, 3, none⟩ (.int .i64 d.left) = wx at *
          obtain ⟨k0, k1, k2, k3⟩ := box4 hx (Below.refl _ _)
          exact bodyPost_ret (v := .tuple #[.agg #[.int .i64 d.size, .slice A d.secs.length c, .slice P d.pend.length cp, .int .i64 d.left], .int .i64 20]) (by simp [results, Try.results67, go_sem, k0, k1, k2, k3]) rfl (DkPost.mk HE.out.1.symm HE.out.2.symm rfl rfl (h.keep (Keeps.of_below hdx)) hdx)
        · have HE := Lib.hid (wr_ok HK.out HO.out HZ.out hl)
          have hb : (d.left == 0) = false := by simp [hl]
          have C3 := Lib.hid (less_any d.left h.f0 h.f1)
          have hlz := lessZ_range h.f0 h.f1
          have hlt0 := hbk3.lt
          have hlt1 := hbr3.lt
          obtain ⟨hpc, hpr⟩ := wrs_cells hD3.pen
          have HPR := Lib.hid hpr
          clear hl hx hdx hpr
          -- the two slices
          have g1 := Blk.new w3 #[.int .i64 i, .string s] 78
          have g1' := g1.alloc (.cells #[.slice P d.pend.length cp, .slice (some ⟨w3.heap.size, 0, none⟩) 1 1] 23)
          have g2 := Blk.new (w3.alloc (.cells #[.int .i64 i, .string s] 78)) #[.slice P d.pend.length cp, .slice (some ⟨w3.heap.size, 0, none⟩) 1 1] 23
          rw [World.size_alloc] at g2
          have hd4 := (hd3.alloc hd3.size (.cells #[.int .i64 i, .string s] 78)).alloc (by have := hd3.size; simp; omega) (.cells #[.slice P d.pend.length cp, .slice (some ⟨w3.heap.size, 0, none⟩) 1 1] 23)
          have hbk4 := (hbk3.alloc (.cells #[.int .i64 i, .string s] 78)).alloc (.cells #[.slice P d.pend.length cp, .slice (some ⟨w3.heap.size, 0, none⟩) 1 1] 23)
          have hbr4 := (hbr3.alloc (.cells #[.int .i64 i, .string s] 78)).alloc (.cells #[.slice P d.pend.length cp, .slice (some ⟨w3.heap.size, 0, none⟩) 1 1] 23)
          have hpc4 := (hpc.keep (Keeps.alloc w3 (.cells #[.int .i64 i, .string s] 78))).keep (Keeps.alloc _ (.cells #[.slice P d.pend.length cp, .slice (some ⟨w3.heap.size, 0, none⟩) 1 1] 23))
          have hs4 : ((w3.alloc (.cells #[.int .i64 i, .string s] 78)).alloc (.cells #[.slice P d.pend.length cp, .slice (some ⟨w3.heap.size, 0, none⟩) 1 1] 23)).heap.size = w3.heap.size + 2 := by simp
          have cc := concat_any ((w3.alloc (.cells #[.int .i64 i, .string s] 78)).alloc (.cells #[.slice P d.pend.length cp, .slice (some ⟨w3.heap.size, 0, none⟩) 1 1] 23)) (w3.heap.size + 1) w3.heap.size P cp d.pend i s hn hcp hmp (g2.cell (j := 0) rfl) (g2.cell (j := 1) rfl) hpc4 (by simpa using g1'.cellsAt)
          rw [hs4] at cc
          have CC := Lib.hid cc
          clear cc hs4 hpc hpc4 g1 g1' g2
          go_wp2_with fail
          refine CC.out.mono ?_
          clear CC q0 q1 q2 q3 s0 s1 s2 s3 r0 r1 r2 r3 t0 t1 t2 t3
          generalize (w3.alloc (.cells #[.int .i64 i, .string s] 78)).alloc (.cells #[.slice P d.pend.length cp, .slice (some ⟨w3.heap.size, 0, none⟩) 1 1] 23) = w4 at *
          rintro e w5 ⟨v5, rfl, hownW, hb5⟩
          have hd5 := hd4.trans (hb5.mono (by have := hd3.size; omega))
          have hbk5 := hbk4.below hb5 (by omega)
          have hbr5 := hbr4.below hb5 (by omega)
          clear hd4 hbk4 hbr4 hb5
          obtain ⟨t0, t1, t2, t3, r0, r1, r2, r3⟩ := box8 hbr5 (Below.refl _ _)
          obtain ⟨q0, q1, q2, q3, s0, s1, s2, s3⟩ := box8 hbk5 (Below.refl _ _)
          have hls : -9223372036854775808 ≤ d.left ∧ d.left ≤ 9223372036854775807 := ⟨h.f0, h.f1⟩
          obtain ⟨A4, c4, rfl⟩ := own_form hownW
          rw [show (d.pend ++ [(i, s)]).length = d.pend.length + 1 by simp] at hownW ⊢
          go_wp2_with (go_at_call 65; refine (C3.out _).mono ?_; rintro e w' ⟨rfl, rfl⟩)
          have hx := ((hbr5.far (p := ⟨W.heap.size, 2, none⟩) (by simp) (.slice A4 (d.pend.length + 1) c4)).far (p := ⟨W.heap.size, 3, none⟩) (by simp) (.int .i64 (lessZ d.left))).set4 (.int .i64 d.size) (.slice A d.secs.length c) (.slice A4 (d.pend.length + 1) c4) (.int .i64 (lessZ d.left))
          have hdx := set4_below ((hd5.setCell (p := ⟨W.heap.size, 2, none⟩) (Nat.le_refl _) (.slice A4 (d.pend.length + 1) c4)).setCell (p := ⟨W.heap.size, 3, none⟩) (Nat.le_refl _) (.int .i64 (lessZ d.left))) (show W.heap.size ≤ W.heap.size + 1 by omega) (.int .i64 d.size) (.slice A d.secs.length c) (.slice A4 (d.pend.length + 1) c4) (.int .i64 (lessZ d.left))
          have hvx := (((((OwW.far hownW (p := ⟨W.heap.size, 2, none⟩) (show W.heap.size < w3.heap.size + 2 by omega) (.slice A4 (d.pend.length + 1) c4)).far (p := ⟨W.heap.size, 3, none⟩) (show W.heap.size < w3.heap.size + 2 by omega) (.int .i64 (lessZ d.left))).far (p := ⟨W.heap.size + 1, 0, none⟩) (show W.heap.size + 1 < w3.heap.size + 2 by omega) (.int .i64 d.size)).far (p := ⟨W.heap.size + 1, 1, none⟩) (show W.heap.size + 1 < w3.heap.size + 2 by omega) (.slice A d.secs.length c)).far (p := ⟨W.heap.size + 1, 2, none⟩) (show W.heap.size + 1 < w3.heap.size + 2 by omega) (.slice A4 (d.pend.length + 1) c4)).far (p := ⟨W.heap.size + 1, 3, none⟩) (show W.heap.size + 1 < w3.heap.size + 2 by omega) (.int .i64 (lessZ d.left))
          clear hownW hbk5 hbr5 hd5 r0 r1 r2 r3 t0 t1 t2 t3 q0 q1 q2 q3 s0 s1 s2 s3
          generalize ((((((w5.setCell ⟨W.heap.size, 2, none⟩ (.slice A4 (d.pend.length + 1) c4)).setCell ⟨W.heap.size, 3, none⟩ (.int .i64 (lessZ d.left))).setCell ⟨W.heap.size + 1, 0, none⟩ (.int .i64 d.size)).setCell ⟨W.heap.size + 1, 1, none⟩ (.slice A d.secs.length c)).setCell ⟨W.heap.size + 1, 2, none⟩ (.slice A4 (d.pend.length + 1) c4)).setCell ⟨W.heap.size + 1, 3, none⟩ (.int .i64 (lessZ d.left))) = wx at *
          obtain ⟨k0, k1, k2, k3⟩ := box4 hx (Below.refl _ _)
          refine bodyPost_ret (v := .tuple #[.agg #[.int .i64 d.size, .slice A d.secs.length c, .slice A4 (d.pend.length + 1) c4, .int .i64 (lessZ d.left)], .int .i64 0]) (by simp [results, Try.results67, go_sem, k0, k1, k2, k3]) rfl (DkPost.mk HE.out.1.symm HE.out.2.symm rfl rfl ⟨h.sec.keep (Keeps.of_below hdx), ?_, h.z0, h.z1, hlz.1, hlz.2⟩ hdx)
          refine OwW.wrs (v := .slice A4 (d.pend.length + 1) c4) hvx fun x hx => ?_
          rcases List.mem_append.1 hx with hx | hx
          · exact HPR.out x hx
          · cases List.mem_singleton.1 hx
            exact ⟨hi0, hi1⟩
      · have HE := Lib.hid (wr_mis HK.out HO.out hsz)
        have hzb : ((s.size : Int) != d.size) = true := by simp [hsz]
        clear hsz
        go_wp2
        clear r0 r1 r2 r3 t0 t1 t2 t3 q0 q1 q2 q3 s0 s1 s2 s3
        generalize ((((w3.setCell ⟨W.heap.size + 1, 0, none⟩ (.int .i64 0)).setCell ⟨W.heap.size + 1, 1, none⟩ (.slice none 0 0)).setCell ⟨W.heap.size + 1, 2, none⟩ (.slice none 0 0)).setCell ⟨W.heap.size + 1, 3, none⟩ (.int .i64 0)) = wx at *
        obtain ⟨k0, k1, k2, k3⟩ := box4 hx (Below.refl _ _)
        exact bodyPost_ret (v := .tuple #[.agg #[.int .i64 0, .slice none 0 0, .slice none 0 0, .int .i64 0], .int .i64 11]) (by simp [results, Try.results67, go_sem, k0, k1, k2, k3]) rfl (DkPost.mk HE.out.1.symm HE.out.2.symm rfl rfl (Dsk.nodisk _) hdx)
  · have HE := Lib.hid (wr_bad (i := i) (s := s) hk)
    have hb : (chk d != 0) = true := by simp [hk]
    clear hk
    have hdx := set4_below hd2 (show W.heap.size ≤ W.heap.size + 1 by omega) (.int .i64 0) (.slice none 0 0) (.slice none 0 0) (.int .i64 0)
    have hx := hbr2.set4 (.int .i64 0) (.slice none 0 0) (.slice none 0 0) (.int .i64 0)
    obtain ⟨t0, t1, t2, t3, r0, r1, r2, r3⟩ := box8 hbr2 (Below.refl _ _)
    generalize chk d = full at *
    go_wp2
    clear r0 r1 r2 r3 t0 t1 t2 t3
    generalize ((((w2.setCell ⟨W.heap.size + 1, 0, none⟩ (.int .i64 0)).setCell ⟨W.heap.size + 1, 1, none⟩ (.slice none 0 0)).setCell ⟨W.heap.size + 1, 2, none⟩ (.slice none 0 0)).setCell ⟨W.heap.size + 1, 3, none⟩ (.int .i64 0)) = wx at *
    obtain ⟨k0, k1, k2, k3⟩ := box4 hx (Below.refl _ _)
    exact bodyPost_ret (v := .tuple #[.agg #[.int .i64 0, .slice none 0 0, .slice none 0 0, .int .i64 0], .int .i64 1]) (by simp [results, Try.results67, go_sem, k0, k1, k2, k3]) rfl (DkPost.mk HE.out.1.symm HE.out.2.symm rfl rfl (Dsk.nodisk _) hdx)
end Go.Proofs.Ytockmhhiomdlkaa

namespace Go.Proofs.Ytockmhhiomdlkaa
set_option linter.unusedSimpArgs false
set_option linter.unusedVariables false
open Go.RowKit

theorem clone_any (W : World) (A : Option Addr) (c : Nat) (xs : List ByteArray) (h : Strs W (.slice A xs.length c) xs) (h1 : 1 ≤ xs.length) (h2 : xs.length ≤ 100000) :
    Calls Try.prog 59 #[.slice A xs.length c] W fun e w' => ∃ v, e = .returned v ∧ OwS w' W.heap.size v xs ∧ Below W.heap.size W w' := by
  obtain ⟨b, off, rfl, _⟩ := h.get (show 0 < xs.length by omega)
  refine (slices_Clone_string b off xs.length c xs W (Nat.le_refl _) (by omega) (fun j hj => ?_)).mono ?_
  · obtain ⟨b', off', e, h3⟩ := h.get hj
    cases e
    rw [h3, List.getD_eq_getElem?_getD, List.getElem?_eq_getElem hj]
    rfl
  · rintro e w' ⟨v, rfl, ho, _, hb⟩
    rw [List.take_length] at ho
    exact ⟨v, rfl, ho, hb⟩

theorem sync1_any (s t : ByteArray) (w : World) : Calls Try.prog 64 #[.string s, .string t] w fun e w' => e = .returned (.string t) ∧ w = w' := by
  go_enter Try.func64, Try.ntmps64
  go_wp2
  go_ret
  exact ⟨rfl, rfl⟩

/-- What settled answers. -/
def SettPost (W : World) (z l : Int) (L : List ByteArray) (e : Ending) (w' : World) : Prop :=
  ∃ v, e = .returned (.agg #[.int .i64 z, v, .slice none 0 0, .int .i64 l]) ∧ OwS w' (W.heap.size + 2) v L ∧ Below W.heap.size W w'

set_option maxRecDepth 100000 in
set_option maxHeartbeats 4000000 in
theorem settled_sync (W : World) (vs vp : Value) (d : Dk) (h : DskP W vs vp d) (hv : Valid d) :
    Calls Try.prog 54 #[.agg #[.int .i64 d.size, vs, vp, .int .i64 d.left], .func (.func 64) #[] #[]] W (SettPost W d.size d.left (cur d)) := by
  obtain ⟨A, c, rfl, hc, hm⟩ := h.sec.form
  obtain ⟨P, cp, rfl, hcp, hmp⟩ := h.pen.form
  have V := Lib.hid hv
  have v1 := hv.s1
  have v2 := hv.s2
  have v3 := hv.n1
  have v4 := hv.n2
  clear hv
  have hbk0 := Blk.new W #[.int .i64 d.size, .slice A d.secs.length c, .slice P d.pend.length cp, .int .i64 d.left] 25
  have hbk := hbk0.alloc (.cells #[.int .i64 0, .slice none 0 0, .slice none 0 0, .int .i64 0] 25)
  have hbr := Blk.new (W.alloc (.cells #[.int .i64 d.size, .slice A d.secs.length c, .slice P d.pend.length cp, .int .i64 d.left] 25)) #[.int .i64 0, .slice none 0 0, .slice none 0 0, .int .i64 0] 25
  rw [World.size_alloc] at hbr
  have hd1 := ((Below.refl W.heap.size W).alloc (Nat.le_refl _) (.cells #[.int .i64 d.size, .slice A d.secs.length c, .slice P d.pend.length cp, .int .i64 d.left] 25)).alloc (by simp) (.cells #[.int .i64 0, .slice none 0 0, .slice none 0 0, .int .i64 0] 25)
  have hD1 := h.keep (Keeps.of_below hd1)
  have cl := clone_any _ A c d.secs hD1.sec v3 (by omega)
  have hs2 : ((W.alloc (.cells #[.int .i64 d.size, .slice A d.secs.length c, .slice P d.pend.length cp, .int .i64 d.left] 25)).alloc (.cells #[.int .i64 0, .slice none 0 0, .slice none 0 0, .int .i64 0] 25)).heap.size = W.heap.size + 2 := by simp
  rw [hs2] at cl
  clear hbk0 hs2
  go_enter Try.func54, Try.ntmps54
  go_upto_region 1 with (fail)
  generalize (W.alloc (.cells #[.int .i64 d.size, .slice A d.secs.length c, .slice P d.pend.length cp, .int .i64 d.left] 25)).alloc (.cells #[.int .i64 0, .slice none 0 0, .slice none 0 0, .int .i64 0] 25) = w1 at *
  obtain ⟨q0, q1, q2, q3⟩ := box4 hbk (Below.refl _ _)
  have CL := Lib.hid cl
  clear cl
  go_wp2_with fail
  refine CL.out.mono ?_
  clear CL q0 q1 q2 q3
  rintro e w2 ⟨vl, rfl, hown, hb2⟩
  have hd2 := hd1.trans (hb2.mono (by omega))
  have hbk2 := hbk.below hb2 (by omega)
  have hbr2 := hbr.below hb2 (by omega)
  clear hbk hbr hd1 hb2 hD1
  obtain ⟨g, cap, rfl, hg0, hg1, hg2, hg3⟩ := own_row hown (by omega)
  have hown0 : w2.ownsRow (W.heap.size + 2) 9 1 (.slice (some ⟨g, 0, none⟩) d.secs.length cap) d.secs.length (((d.pend.take 0).foldl putW d.secs).map .string) := hown
  have hg4 := hg1
  clear hown
  obtain ⟨q0, q1, q2, q3⟩ := box4 hbk2 (Below.refl _ _)
  go_wp2
  go_loopw [14] (fun t wr => ∃ k : Nat, k ≤ d.pend.length ∧ t = .int .i64 k ∧ wr.ownsRow (W.heap.size + 2) 9 1 (.slice (some ⟨g, 0, none⟩) d.secs.length cap) d.secs.length (((d.pend.take k).foldl putW d.secs).map .string) ∧ Blk wr W.heap.size 25 #[.int .i64 d.size, .slice A d.secs.length c, .slice P d.pend.length cp, .int .i64 d.left] ∧
    Blk wr (W.heap.size + 1) 25 #[.int .i64 0, .slice none 0 0, .slice none 0 0, .int .i64 0] ∧ Below W.heap.size W wr) (fun t _ => d.pend.length - (intOf t).toNat)
  case atStart => exact ⟨0, by omega, rfl, hown0, hbk2, hbr2, hd2⟩
  case round =>
    clear hown0 hbk2 hbr2 hd2 hg1 hg4 q0 q1 q2 q3
    obtain ⟨k, hk, rfl, hown, hbk, hbr, hd⟩ := hrel
    have hpk := h.pen.keep (Keeps.of_below hd)
    have hbl := hbk.lt
    have hgl := (hown.lt g rfl).2
    obtain ⟨q0, q1, q2, q3⟩ := box4 hbk (Below.refl _ _)
    by_cases hlt : k < d.pend.length
    · obtain ⟨b, off, rfl, a1, a2, a3, a4⟩ := hpk.get hlt
      obtain ⟨e1, e2, e3⟩ := V.out.ws _ (List.getElem_mem hlt)
      obtain ⟨m, hm1⟩ := Int.eq_ofNat_of_zero_le e1
      generalize hs1 : d.pend[k].2 = s at *
      have HS := Lib.hid (cur_succ d.secs hlt hm1 hs1)
      have hml : m < d.secs.length := by omega
      rw [hm1] at a1
      have hlen : ((d.pend.take k).foldl putW d.secs).length = d.secs.length := foldl_putW_length _ _
      generalize (d.pend.take k).foldl putW d.secs = L at *
      have hmL : m < L.length := by omega
      have HL := Lib.hid hlen
      clear hlen hm1 hs1 e1 e2 e3 a3 a4
      have hbw := Blk.new wr #[.int .i64 (m : Int), .string s] 78
      have hbk3 := hbk.alloc (.cells #[.int .i64 (m : Int), .string s] 78)
      have hbr3 := hbr.alloc (.cells #[.int .i64 (m : Int), .string s] 78)
      have hown3 := World.ownsRow.alloc hown (.cells #[.int .i64 (m : Int), .string s] 78)
      have hd3 := hd.alloc hd.size (.cells #[.int .i64 (m : Int), .string s] 78)
      go_upto_region 5 with (fail)
      generalize wr.alloc (.cells #[.int .i64 (m : Int), .string s] 78) = w3 at *
      generalize wr.heap.size = gw at *
      obtain ⟨o1, o2⟩ := own_at hown3 (i := m) (u := .string (L[m]'hmL)) (by simp)
      generalize (L[m]'hmL) = old at *
      clear q0 q1 q2 q3 a1 a2 hown hbk hbr hd
      have p0 := hbw.cell (j := 0) rfl
      have p1 := hbw.cell (j := 1) rfl
      go_still_tail 13, (by kernel_rfl)
      still_call ((sync1_any old s w3.drew).mono (fun e w' h => ⟨h.1, h.2.symm⟩))
      repeat still_step
      refine wpStill_nil ?_
      change wpList _ _ _ _ _ w3.drew
      have hbk4 := hbk3.drew
      have hbr4 := hbr3.drew
      have hown4 := own_drew hown3
      have hd4 := below_drew1 hd3
      have o3 : w3.drew.cell? ⟨g, m, none⟩ = some (.string old) := o1
      have o4 : w3.drew.frozen? ⟨g, m, none⟩ = false := o2
      clear hbk3 hbr3 hown3 hd3 hbw o1 o2 p0 p1
      generalize w3.drew = w4 at *
      go_wp2
      go_roundw
      case rel =>
        refine ⟨k + 1, by omega, by go_num, ?_, ?_, ?_, ?_⟩
        · rw [HS.out, List.map_set]
          exact own_set hown4 (.string s)
        · exact hbk4.far (p := ⟨g, m, none⟩) (by simp; omega) _
        · exact hbr4.far (p := ⟨g, m, none⟩) (by simp; omega) _
        · exact hd4.setCell (p := ⟨g, m, none⟩) (show W.heap.size ≤ g by omega) _
      case measure => simp [intOf] <;> omega
    · have hk' : d.pend.take k = d.pend := List.take_of_length_le (by omega)
      have hOS : OwS wr (W.heap.size + 2) (.slice (some ⟨g, 0, none⟩) d.secs.length cap) (cur d) := by
        unfold OwS
        rw [cur_length]
        unfold cur
        rw [← hk']
        exact hown
      obtain ⟨t0, t1, t2, t3, r0, r1, r2, r3⟩ := box8 hbr (Below.refl _ _)
      obtain ⟨q0', q1', q2', q3', s0, s1, s2, s3⟩ := box8 hbk (Below.refl _ _)
      have hlt1 := hbr.lt
      have hx := ((hbr.far (p := ⟨W.heap.size, 1, none⟩) (by simp) (.slice (some ⟨g, 0, none⟩) d.secs.length cap)).far (p := ⟨W.heap.size, 2, none⟩) (by simp) (.slice none 0 0)).set4 (.int .i64 d.size) (.slice (some ⟨g, 0, none⟩) d.secs.length cap) (.slice none 0 0) (.int .i64 d.left)
      have hdx := set4_below ((hd.setCell (p := ⟨W.heap.size, 1, none⟩) (Nat.le_refl _) (.slice (some ⟨g, 0, none⟩) d.secs.length cap)).setCell (p := ⟨W.heap.size, 2, none⟩) (Nat.le_refl _) (.slice none 0 0)) (show W.heap.size ≤ W.heap.size + 1 by omega) (.int .i64 d.size) (.slice (some ⟨g, 0, none⟩) d.secs.length cap) (.slice none 0 0) (.int .i64 d.left)
      have hvx := own_far4 ((hOS.far (p := ⟨W.heap.size, 1, none⟩) (by simp) (.slice (some ⟨g, 0, none⟩) d.secs.length cap)).far (p := ⟨W.heap.size, 2, none⟩) (by simp) (.slice none 0 0)) (show g ≠ W.heap.size + 1 by omega) (.int .i64 d.size) (.slice (some ⟨g, 0, none⟩) d.secs.length cap) (.slice none 0 0) (.int .i64 d.left)
      clear hk' hown hOS
      go_wp2
      clear r0 r1 r2 r3 t0 t1 t2 t3 q0 q1 q2 q3 q0' q1' q2' q3' s0 s1 s2 s3
      generalize (((((wr.setCell ⟨W.heap.size, 1, none⟩ (.slice (some ⟨g, 0, none⟩) d.secs.length cap)).setCell ⟨W.heap.size, 2, none⟩ (.slice none 0 0)).setCell ⟨W.heap.size + 1, 0, none⟩ (.int .i64 d.size)).setCell ⟨W.heap.size + 1, 1, none⟩ (.slice (some ⟨g, 0, none⟩) d.secs.length cap)).setCell ⟨W.heap.size + 1, 2, none⟩ (.slice none 0 0)).setCell ⟨W.heap.size + 1, 3, none⟩ (.int .i64 d.left) = wx at *
      obtain ⟨k0, k1, k2, k3⟩ := box4 hx (Below.refl _ _)
      exact bodyPost_ret (v := .agg #[.int .i64 d.size, .slice (some ⟨g, 0, none⟩) d.secs.length cap, .slice none 0 0, .int .i64 d.left]) (by simp [results, Try.results54, go_sem, k0, k1, k2, k3]) rfl ⟨_, rfl, hvx, hdx⟩
end Go.Proofs.Ytockmhhiomdlkaa

namespace Go.Proofs.Ytockmhhiomdlkaa
set_option linter.unusedSimpArgs false
set_option linter.unusedVariables false
open Go.RowKit

set_option maxRecDepth 100000 in
set_option maxHeartbeats 2000000 in
theorem sync_any (W : World) (vs vp : Value) (d : Dk) (h : DskP W vs vp d) :
    Calls Try.prog 39 #[.agg #[.int .i64 d.size, vs, vp, .int .i64 d.left]] W (DkPost W (syD d) (syE d)) := by
  obtain ⟨A, c, rfl, hc, hm⟩ := h.sec.form
  obtain ⟨P, cp, rfl, hcp, hmp⟩ := h.pen.form
  have hbk0 := Blk.new W #[.int .i64 d.size, .slice A d.secs.length c, .slice P d.pend.length cp, .int .i64 d.left] 25
  have hbk := hbk0.alloc (.cells #[.int .i64 0, .slice none 0 0, .slice none 0 0, .int .i64 0] 25)
  have hbr := Blk.new (W.alloc (.cells #[.int .i64 d.size, .slice A d.secs.length c, .slice P d.pend.length cp, .int .i64 d.left] 25)) #[.int .i64 0, .slice none 0 0, .slice none 0 0, .int .i64 0] 25
  rw [World.size_alloc] at hbr
  have hd1 := ((Below.refl W.heap.size W).alloc (Nat.le_refl _) (.cells #[.int .i64 d.size, .slice A d.secs.length c, .slice P d.pend.length cp, .int .i64 d.left] 25)).alloc (by simp) (.cells #[.int .i64 0, .slice none 0 0, .slice none 0 0, .int .i64 0] 25)
  have hD1 := h.keep (Keeps.of_below hd1)
  clear hbk0
  go_enter Try.func39, Try.ntmps39
  go_upto_region 1 with (fail)
  generalize (W.alloc (.cells #[.int .i64 d.size, .slice A d.secs.length c, .slice P d.pend.length cp, .int .i64 d.left] 25)).alloc (.cells #[.int .i64 0, .slice none 0 0, .slice none 0 0, .int .i64 0] 25) = w1 at *
  have q0 := hbk.cell (j := 0) rfl
  have q1 := hbk.cell (j := 1) rfl
  have q2 := hbk.cell (j := 2) rfl
  have q3 := hbk.cell (j := 3) rfl
  have c1 := check_any _ _ _ d hD1
  go_wp2_with fail
  refine c1.mono ?_
  clear c1 q0 q1 q2 q3
  rintro e w2 ⟨rfl, hb2⟩
  have hd2 := hd1.trans (hb2.mono hd1.size)
  have hbk2 := hbk.keep hb2
  have hbr2 := hbr.keep hb2
  have hD2 := hD1.keep (Keeps.of_below hb2)
  clear hbk hbr hd1 hD1 hb2
  by_cases hk : chk d = 0
  · have HK := Lib.hid hk
    rw [hk]
    clear hk
    have q0 := hbk2.cell (j := 0) rfl
    have q1 := hbk2.cell (j := 1) rfl
    have q2 := hbk2.cell (j := 2) rfl
    have q3 := hbk2.cell (j := 3) rfl
    by_cases hl : d.left = 0
    · have HE := Lib.hid (sy_lost HK.out hl)
      have hb : (d.left == 0) = true := by simp [hl]
      clear hl
      have r0 := hbr2.frozen 0
      have r1 := hbr2.frozen 1
      have r2 := hbr2.frozen 2
      have r3 := hbr2.frozen 3
      have t0 := hbr2.cell (j := 0) rfl
      have t1 := hbr2.cell (j := 1) rfl
      have t2 := hbr2.cell (j := 2) rfl
      have t3 := hbr2.cell (j := 3) rfl
      go_wp2
      have hx := hbr2.set4 (.int .i64 d.size) (.slice A d.secs.length c) (.slice P d.pend.length cp) (.int .i64 d.left)
      have hdx := set4_below hd2 (show W.heap.size ≤ W.heap.size + 1 by omega) (.int .i64 d.size) (.slice A d.secs.length c) (.slice P d.pend.length cp) (.int .i64 d.left)
      clear r0 r1 r2 r3 t0 t1 t2 t3 q0 q1 q2 q3
      generalize (((w2.setCell ⟨W.heap.size + 1, 0, none⟩ (.int .i64 d.size)).setCell ⟨W.heap.size + 1, 1, none⟩ (.slice A d.secs.length c)).setCell ⟨W.heap.size + 1, 2, none⟩ (.slice P d.pend.length cp)).setCell ⟨W.heap.size + 1, 3, none⟩ (.int .i64 d.left) = wx at *
      have k0 := hx.cell (j := 0) rfl
      have k1 := hx.cell (j := 1) rfl
      have k2 := hx.cell (j := 2) rfl
      have k3 := hx.cell (j := 3) rfl
      exact bodyPost_ret (v := .tuple #[.agg #[.int .i64 d.size, .slice A d.secs.length c, .slice P d.pend.length cp, .int .i64 d.left], .int .i64 20]) (by simp [results, Try.results39, go_sem, k0, k1, k2, k3]) rfl (DkPost.mk HE.out.1.symm HE.out.2.symm rfl rfl (h.keep (Keeps.of_below hdx)) hdx)
    · have HE := Lib.hid (sy_ok HK.out hl)
      have hb : (d.left == 0) = false := by simp [hl]
      clear hl
      have c2 := settled_sync w2 _ _ d hD2 (chk_zero.1 HK.out)
      have C3 := Lib.hid (less_any d.left h.f0 h.f1)
      have hlt := hbr2.lt
      have hlz := lessZ_range h.f0 h.f1
      go_wp2_with fail
      refine c2.mono ?_
      clear c2 q0 q1 q2 q3
      rintro e w3 ⟨v3, rfl, hv3, hb3⟩
      have hd3 := hd2.trans (hb3.mono hd2.size)
      have hbk3 := hbk2.keep hb3
      have hbr3 := hbr2.keep hb3
      clear hbk2 hbr2 hd2 hD2 hb3
      obtain ⟨A3, c3', rfl⟩ := own_form hv3
      rw [cur_length] at hv3 ⊢
      obtain ⟨q0, q1, q2, q3, s0, s1, s2, s3⟩ := box8 hbk3 (Below.refl _ _)
      obtain ⟨t0, t1, t2, t3, r0, r1, r2, r3⟩ := box8 hbr3 (Below.refl _ _)
      have hls : -9223372036854775808 ≤ d.left ∧ d.left ≤ 9223372036854775807 := ⟨h.f0, h.f1⟩
      have hlt0 := hbk3.lt
      go_wp2_with fail
      have hbk4 := hbk3.set4 (.int .i64 d.size) (.slice A3 d.secs.length c3') (.slice none 0 0) (.int .i64 d.left)
      have hbr4 := (((hbr3.far (p := ⟨W.heap.size, 0, none⟩) (by simp) (.int .i64 d.size)).far (p := ⟨W.heap.size, 1, none⟩) (by simp) (.slice A3 d.secs.length c3')).far (p := ⟨W.heap.size, 2, none⟩) (by simp) (.slice none 0 0)).far (p := ⟨W.heap.size, 3, none⟩) (by simp) (.int .i64 d.left)
      have hd4 := set4_below hd3 (Nat.le_refl W.heap.size) (.int .i64 d.size) (.slice A3 d.secs.length c3') (.slice none 0 0) (.int .i64 d.left)
      have hv3' : OwS w3 (w2.heap.size + 2) (.slice A3 d.secs.length c3') (cur d) := hv3
      have hv4 := (((hv3'.far (p := ⟨W.heap.size, 0, none⟩) (by simp; omega) (.int .i64 d.size)).far (p := ⟨W.heap.size, 1, none⟩) (by simp; omega) (.slice A3 d.secs.length c3')).far (p := ⟨W.heap.size, 2, none⟩) (by simp; omega) (.slice none 0 0)).far (p := ⟨W.heap.size, 3, none⟩) (by simp; omega) (.int .i64 d.left)
      clear q0 q1 q2 q3 s0 s1 s2 s3 r0 r1 r2 r3 t0 t1 t2 t3 hbk3 hbr3 hd3 hv3 hv3'
      generalize (((w3.setCell ⟨W.heap.size, 0, none⟩ (.int .i64 d.size)).setCell ⟨W.heap.size, 1, none⟩ (.slice A3 d.secs.length c3')).setCell ⟨W.heap.size, 2, none⟩ (.slice none 0 0)).setCell ⟨W.heap.size, 3, none⟩ (.int .i64 d.left) = w4 at *
      obtain ⟨q0, q1, q2, q3, s0, s1, s2, s3⟩ := box8 hbk4 (Below.refl _ _)
      obtain ⟨t0, t1, t2, t3, r0, r1, r2, r3⟩ := box8 hbr4 (Below.refl _ _)
      refine (C3.out w4).mono ?_
      rintro e w' ⟨rfl, rfl⟩
      have hx := (hbr4.far (p := ⟨W.heap.size, 3, none⟩) (by simp) (.int .i64 (lessZ d.left))).set4 (.int .i64 d.size) (.slice A3 d.secs.length c3') (.slice none 0 0) (.int .i64 (lessZ d.left))
      have hdx := set4_below (hd4.setCell (p := ⟨W.heap.size, 3, none⟩) (Nat.le_refl _) (.int .i64 (lessZ d.left))) (show W.heap.size ≤ W.heap.size + 1 by omega) (.int .i64 d.size) (.slice A3 d.secs.length c3') (.slice none 0 0) (.int .i64 (lessZ d.left))
      have hvx := ((((hv4.far (p := ⟨W.heap.size, 3, none⟩) (by simp; omega) (.int .i64 (lessZ d.left))).far (p := ⟨W.heap.size + 1, 0, none⟩) (by simp; omega) (.int .i64 d.size)).far (p := ⟨W.heap.size + 1, 1, none⟩) (by simp; omega) (.slice A3 d.secs.length c3')).far (p := ⟨W.heap.size + 1, 2, none⟩) (by simp; omega) (.slice none 0 0)).far (p := ⟨W.heap.size + 1, 3, none⟩) (by simp; omega) (.int .i64 (lessZ d.left))
      go_wp2
      clear r0 r1 r2 r3 t0 t1 t2 t3 q0 q1 q2 q3 s0 s1 s2 s3
      generalize ((((w4.setCell ⟨W.heap.size, 3, none⟩ (.int .i64 (lessZ d.left))).setCell ⟨W.heap.size + 1, 0, none⟩ (.int .i64 d.size)).setCell ⟨W.heap.size + 1, 1, none⟩ (.slice A3 d.secs.length c3')).setCell ⟨W.heap.size + 1, 2, none⟩ (.slice none 0 0)).setCell ⟨W.heap.size + 1, 3, none⟩ (.int .i64 (lessZ d.left)) = wx at *
      obtain ⟨k0, k1, k2, k3⟩ := box4 hx (Below.refl _ _)
      exact bodyPost_ret (v := .tuple #[.agg #[.int .i64 d.size, .slice A3 d.secs.length c3', .slice none 0 0, .int .i64 (lessZ d.left)], .int .i64 0]) (by simp [results, Try.results39, go_sem, k0, k1, k2, k3]) rfl (DkPost.mk HE.out.1.symm HE.out.2.symm rfl rfl ⟨hvx.strs, Sl.nil _ _ _, h.z0, h.z1, hlz.1, hlz.2⟩ hdx)
  · have HE := Lib.hid (sy_bad hk)
    have hb : (chk d != 0) = true := by simp [hk]
    clear hk
    generalize chk d = full at *
    have r0 := hbr2.frozen 0
    have r1 := hbr2.frozen 1
    have r2 := hbr2.frozen 2
    have r3 := hbr2.frozen 3
    have t0 := hbr2.cell (j := 0) rfl
    have t1 := hbr2.cell (j := 1) rfl
    have t2 := hbr2.cell (j := 2) rfl
    have t3 := hbr2.cell (j := 3) rfl
    go_wp2
    have hx := hbr2.set4 (.int .i64 0) (.slice none 0 0) (.slice none 0 0) (.int .i64 0)
    have hdx := set4_below hd2 (show W.heap.size ≤ W.heap.size + 1 by omega) (.int .i64 0) (.slice none 0 0) (.slice none 0 0) (.int .i64 0)
    clear r0 r1 r2 r3 t0 t1 t2 t3
    generalize (((w2.setCell ⟨W.heap.size + 1, 0, none⟩ (.int .i64 0)).setCell ⟨W.heap.size + 1, 1, none⟩ (.slice none 0 0)).setCell ⟨W.heap.size + 1, 2, none⟩ (.slice none 0 0)).setCell ⟨W.heap.size + 1, 3, none⟩ (.int .i64 0) = wx at *
    have k0 := hx.cell (j := 0) rfl
    have k1 := hx.cell (j := 1) rfl
    have k2 := hx.cell (j := 2) rfl
    have k3 := hx.cell (j := 3) rfl
    exact bodyPost_ret (v := .tuple #[.agg #[.int .i64 0, .slice none 0 0, .slice none 0 0, .int .i64 0], .int .i64 1]) (by simp [results, Try.results39, go_sem, k0, k1, k2, k3]) rfl (DkPost.mk HE.out.1.symm HE.out.2.symm rfl rfl (Dsk.nodisk _) hdx)
end Go.Proofs.Ytockmhhiomdlkaa

namespace Go.Proofs.Ytockmhhiomdlkaa
set_option linter.unusedSimpArgs false
set_option linter.unusedVariables false
open Go.RowKit

theorem repeat_nul (c : Nat) : (⟨(Lib.repeatL (⟨#[0]⟩ : ByteArray).data.toList c).toArray⟩ : ByteArray) = nulB c := by
  apply ByteArray.ext
  have : ∀ c, Lib.repeatL (⟨#[0]⟩ : ByteArray).data.toList c = List.replicate c 0 := by
    intro c
    induction c with
    | zero => rfl
    | succ c ih => rw [Lib.repeatL, ih, List.replicate_succ]; rfl
  rw [this]
  simp [nulB]

theorem repeat_any (c : Nat) (h : c ≤ 1000) (w : World) : Calls Try.prog 74 #[.string ⟨#[0]⟩, .int .i64 c] w fun e w' => e = .returned (.string (nulB c)) ∧ Below w.heap.size w w' := by
  have := strings_Repeat ⟨#[0]⟩ c w (by omega) (by rw [show (⟨#[0]⟩ : ByteArray).size = 1 from rfl]; omega)
  rw [repeat_nul] at this
  exact this

theorem fill_step {n k : Nat} (hk : k < n) (z e : Value) : (List.replicate k z ++ List.replicate (n - k) e).set k z = List.replicate (k + 1) z ++ List.replicate (n - (k + 1)) e := by
  rw [List.set_append_right _ _ (by simp)]
  rw [show n - k = (n - (k + 1)) + 1 by omega, List.replicate_succ, List.replicate_succ', List.append_assoc]
  simp

end Go.Proofs.Ytockmhhiomdlkaa

namespace Go.Proofs.Ytockmhhiomdlkaa
set_option linter.unusedSimpArgs false
set_option linter.unusedVariables false
open Go.RowKit

/-- What settled answers to Cut: below the counter's box all is as it was. -/
def SettCut (W : World) (bn : Nat) (z l : Int) (L : List ByteArray) (e : Ending) (w' : World) : Prop :=
  ∃ v, e = .returned (.agg #[.int .i64 z, v, .slice none 0 0, .int .i64 l]) ∧ OwS w' (W.heap.size + 2) v L ∧ Below bn W w'

/-- What holds between two rounds of settled for Cut. -/
def ScRel (W : World) (d : Dk) (ps : List Int) (bx : Array Value) (bn g cap k : Nat) (wr : World) : Prop :=
  ∃ L : List ByteArray, L.length = d.secs.length ∧ (∀ s ∈ L, (s.size : Int) = d.size) ∧ cutW d.size d.secs d.pend ps = cutW d.size L (d.pend.drop k) (ps.drop k) ∧
    wr.ownsRow (W.heap.size + 2) 9 1 (.slice (some ⟨g, 0, none⟩) d.secs.length cap) d.secs.length (L.map .string) ∧
    Blk wr W.heap.size 25 bx ∧ Blk wr (W.heap.size + 1) 25 #[.int .i64 0, .slice none 0 0, .slice none 0 0, .int .i64 0] ∧
    Blk wr bn 3 #[.int .i64 ((min k ps.length : Nat) : Int)] ∧ Below bn W wr

theorem Blk.agree {w w' : World} {M : Nat → Prop} {g : Nat} {t : TypeId} {cs : Array Value} (h : Blk w g t cs) (k : Agree M w w') (hM : ¬ M g) : Blk w' g t cs := (k.block g h.lt hM).trans h

set_option maxRecDepth 100000 in
set_option maxHeartbeats 8000000 in
theorem settled_cut (W0 W : World) (vs vp : Value) (d : Dk) (h0 : DskP W0 vs vp d) (hv : Valid d) (hpl : d.pend.length ≤ 100000) (bn bp bd : Nat) (I : Option Addr) (ci : Nat) (ps : List Int) (u1 u2 u3 : Value)
    (hps : Ints W0 (.slice I ps.length ci) ps) (hw0 : Below W0.heap.size W0 W) (hb0 : W0.heap.size ≤ bn)
    (hn : Blk W bn 3 #[.int .i64 0]) (hp : Blk W bp 47 #[.slice I ps.length ci]) (hb : Blk W bd 25 #[.int .i64 d.size, u1, u2, u3]) (hb1 : bp < bn) (hb2 : bd < bn) :
    Calls Try.prog 54 #[.agg #[.int .i64 d.size, vs, vp, .int .i64 d.left], .func (.func 55) #[] #[.pointer (some ⟨bn, 0, none⟩), .pointer (some ⟨bp, 0, none⟩), .pointer (some ⟨bd, 0, none⟩)]] W (SettCut W bn d.size d.left (cutW d.size d.secs d.pend ps)) := by
  have h := h0.keep (Keeps.of_below hw0)
  obtain ⟨A, c, rfl, hc, hm⟩ := h.sec.form
  obtain ⟨P, cp, rfl, hcp, hmp⟩ := h.pen.form
  have V := Lib.hid hv
  have v1 := hv.s1
  have v2 := hv.s2
  have v3 := hv.n1
  have v4 := hv.n2
  clear hv
  have hbnW := hn.lt
  have hbk0 := Blk.new W #[.int .i64 d.size, .slice A d.secs.length c, .slice P d.pend.length cp, .int .i64 d.left] 25
  have hbk := hbk0.alloc (.cells #[.int .i64 0, .slice none 0 0, .slice none 0 0, .int .i64 0] 25)
  have hbr := Blk.new (W.alloc (.cells #[.int .i64 d.size, .slice A d.secs.length c, .slice P d.pend.length cp, .int .i64 d.left] 25)) #[.int .i64 0, .slice none 0 0, .slice none 0 0, .int .i64 0] 25
  rw [World.size_alloc] at hbr
  have hd1 := ((Below.refl W.heap.size W).alloc (Nat.le_refl _) (.cells #[.int .i64 d.size, .slice A d.secs.length c, .slice P d.pend.length cp, .int .i64 d.left] 25)).alloc (by simp) (.cells #[.int .i64 0, .slice none 0 0, .slice none 0 0, .int .i64 0] 25)
  have hD1 := h.keep (Keeps.of_below hd1)
  have cl := clone_any _ A c d.secs hD1.sec v3 (by omega)
  have hs2 : ((W.alloc (.cells #[.int .i64 d.size, .slice A d.secs.length c, .slice P d.pend.length cp, .int .i64 d.left] 25)).alloc (.cells #[.int .i64 0, .slice none 0 0, .slice none 0 0, .int .i64 0] 25)).heap.size = W.heap.size + 2 := by simp
  rw [hs2] at cl
  clear hbk0 hs2
  go_enter Try.func54, Try.ntmps54
  go_upto_region 1 with (fail)
  generalize (W.alloc (.cells #[.int .i64 d.size, .slice A d.secs.length c, .slice P d.pend.length cp, .int .i64 d.left] 25)).alloc (.cells #[.int .i64 0, .slice none 0 0, .slice none 0 0, .int .i64 0] 25) = w1 at *
  obtain ⟨q0, q1, q2, q3⟩ := box4 hbk (Below.refl _ _)
  have CL := Lib.hid cl
  clear cl
  go_wp2_with fail
  refine CL.out.mono ?_
  clear CL q0 q1 q2 q3
  rintro e w2 ⟨vl, rfl, hown, hb2'⟩
  have hd2 := hd1.trans (hb2'.mono (by omega))
  have hbk2 := hbk.below hb2' (by omega)
  have hbr2 := hbr.below hb2' (by omega)
  clear hbk hbr hd1 hb2' hD1
  obtain ⟨g, cap, rfl, hg0, hg1, hg2, hg3⟩ := own_row hown (by omega)
  have hR : ScRel W d ps #[.int .i64 d.size, .slice A d.secs.length c, .slice P d.pend.length cp, .int .i64 d.left] bn g cap 0 w2 :=
    ⟨d.secs, rfl, V.out.ss, rfl, hown, hbk2, hbr2, by simpa using hn.keep hd2, hd2.mono (by omega)⟩
  obtain ⟨q0, q1, q2, q3⟩ := box4 hbk2 (Below.refl _ _)
  clear hown hbk2 hbr2 hd2 hn
  go_wp2
  go_loopw [14] (fun t wr => ∃ k : Nat, k ≤ d.pend.length ∧ t = .int .i64 k ∧ ScRel W d ps #[.int .i64 d.size, .slice A d.secs.length c, .slice P d.pend.length cp, .int .i64 d.left] bn g cap k wr) (fun t _ => d.pend.length - (intOf t).toNat)
  case atStart => exact ⟨0, by omega, rfl, hR⟩
  case round =>
    clear hR hg1 q0 q1 q2 q3
    obtain ⟨k, hk, rfl, L, hL1, hL2, hL3, hown, hbk, hbr, hn, hd⟩ := hrel
    have hw := hw0.trans (hd.mono hb0)
    have hpk := h0.pen.keep (Keeps.of_below hw)
    have hik := hps.keep (Keeps.of_below hw)
    have hpw := hp.below hd hb1
    have hbw' := hb.below hd hb2
    have hbl := hbk.lt
    obtain ⟨q0, q1, q2, q3⟩ := box4 hbk (Below.refl _ _)
    have HL1 := Lib.hid hL1
    have HL2 := Lib.hid hL2
    by_cases hlt : k < d.pend.length
    · obtain ⟨b, off, rfl, a1, a2, a3, a4⟩ := hpk.get hlt
      obtain ⟨e1, e2, e3⟩ := V.out.ws _ (List.getElem_mem hlt)
      obtain ⟨m, hm1⟩ := Int.eq_ofNat_of_zero_le e1
      generalize hs1 : d.pend[k].2 = s at *
      have hml : m < L.length := by omega
      have hms : m < d.secs.length := by omega
      have HS := Lib.hid (hL3.trans (cut_step (ps := ps) hlt hm1 hs1 hml))
      rw [hm1] at a1
      have hold : ((L[m]'hml).size : Int) = d.size := hL2 _ (List.getElem_mem hml)
      have hsz1 : (s.size : Int) = d.size := e3
      have HSZ := Lib.hid hsz1
      clear hL1 hL2 hL3 hm1 hs1 e1 e2 e3 a3 a4 hsz1 hw
      have hbw := Blk.new wr #[.int .i64 (m : Int), .string s] 78
      have hbk3 := hbk.alloc (.cells #[.int .i64 (m : Int), .string s] 78)
      have hbr3 := hbr.alloc (.cells #[.int .i64 (m : Int), .string s] 78)
      have hn3 := hn.alloc (.cells #[.int .i64 (m : Int), .string s] 78)
      have hp3 := hpw.alloc (.cells #[.int .i64 (m : Int), .string s] 78)
      have hb3 := hbw'.alloc (.cells #[.int .i64 (m : Int), .string s] 78)
      have hi3 := hik.keep (Keeps.alloc wr (.cells #[.int .i64 (m : Int), .string s] 78))
      have hown3 := World.ownsRow.alloc hown (.cells #[.int .i64 (m : Int), .string s] 78)
      have hd3 := hd.alloc (by have := hd.size; omega) (.cells #[.int .i64 (m : Int), .string s] 78)
      have hgw : bn < wr.heap.size := hn.lt
      have hgl := (hown.lt g rfl).2
      go_upto_region 5 with (fail)
      generalize wr.alloc (.cells #[.int .i64 (m : Int), .string s] 78) = w3 at *
      generalize wr.heap.size = gw at *
      obtain ⟨o1, o2⟩ := own_at hown3 (i := m) (u := .string (L[m]'hml)) (by simp)
      generalize hold' : (L[m]'hml) = old at *
      have hoL : L[m]? = some old := by rw [List.getElem?_eq_getElem hml, hold']
      clear hold' q0 q1 q2 q3 a1 a2 hown hbk hbr hd hn hpw hbw' hik hpk
      have p0 := hbw.cell (j := 0) rfl
      have p1 := hbw.cell (j := 1) rfl
      have hgn : g ≠ bn := by omega
      have cc := cut1_any w3.drew bn bp bd k I ci ps d.size u1 u2 u3 old s hn3.drew hp3.drew hb3.drew (hi3.keep (Keeps.drew _)) v1 v2 HSZ.out hold (by omega)
      have htn : ((torn (pick (ps.getD k 0) d.size) s old).size : Int) = d.size := by
        have hpk := pick_le (ps.getD k 0) d.size v1
        have hz := HSZ.out
        rw [torn_size (by omega) (by omega)]
        exact hold
      generalize torn (pick (ps.getD k 0) d.size) s old = tn at *
      have CC := Lib.hid cc
      have KEY : Hid (∀ w4, Agree (fun b => b = bn) w3.drew w4 → w4.cell? ⟨gw, 0, none⟩ = some (.int .i64 (m : Int)) ∧ w4.cell? ⟨gw, 1, none⟩ = some (.string s) ∧ w4.cell? ⟨g, m, none⟩ = some (.string old) ∧ w4.frozen? ⟨g, m, none⟩ = false) := by
        intro w4 hA4
        have hW := Blk.agree hbw.drew hA4 (by omega)
        have hO4 := (own_stab (M := fun b => b = bn) (own_drew hown3) (fun b hb e => hgn ((show g = b by injection hb).trans e))) _ hA4
        have ho := own_at hO4 (i := m) (u := .string old) (by rw [List.getElem?_map, hoL]; rfl)
        exact ⟨hW.cell (j := 0) rfl, hW.cell (j := 1) rfl, ho.1, ho.2⟩
      have REL : Hid (∀ w4, Below bn w3.drew w4 → Agree (fun b => b = bn) w3.drew w4 → Blk w4 bn 3 #[.int .i64 ((min (k + 1) ps.length : Nat) : Int)] →
          ScRel W d ps #[.int .i64 d.size, .slice A d.secs.length c, .slice (some ⟨b, off, none⟩) d.pend.length cp, .int .i64 d.left] bn g cap (k + 1) (w4.setCell ⟨g, m, none⟩ (.string tn))) := by
        intro w4 hB4 hA4 hN4
        have hO4 := (own_stab (M := fun b => b = bn) (own_drew hown3) (fun b hb e => hgn ((show g = b by injection hb).trans e))) _ hA4
        refine ⟨L.set m tn, by rw [List.length_set]; exact HL1.out, cut_sizes HL2.out htn, HS.out, ?_, ?_, ?_, ?_, ?_⟩
        · rw [List.map_set]; exact own_set hO4 (.string tn)
        · exact (Blk.agree hbk3.drew hA4 (by omega)).far (p := ⟨g, m, none⟩) (by simp; omega) _
        · exact (Blk.agree hbr3.drew hA4 (by omega)).far (p := ⟨g, m, none⟩) (by simp; omega) _
        · exact hN4.far (p := ⟨g, m, none⟩) (by simp; omega) _
        · exact ((below_drew1 hd3).trans hB4).setCell (p := ⟨g, m, none⟩) (show bn ≤ g by omega) _
      clear cc hown3 hbk3 hbr3 hd3 hn3 hp3 hb3 hi3 hbw HS HL1 HL2 hold htn hoL HSZ
      go_region_law ((go_simp; go_at_call 55; refine CC.out.mono ?_; rintro e w4 ⟨rfl, hB4, hA4, hN4⟩; obtain ⟨p0', p1', o1', o2'⟩ := KEY.out _ hA4))
      all_goals
        have R := REL.out _ hB4 hA4 hN4
        clear hB4 hA4 hN4 p0' p1' o1' o2' p0 p1 o1 o2
        go_wp2
        go_roundw
        case rel => exact ⟨k + 1, by omega, by go_num, R⟩
        case measure => simp [intOf] <;> omega
    · have hF : cutW d.size d.secs d.pend ps = L := hL3.trans (cut_end hlt)
      have HF2 := Lib.hid hF
      have HF := Lib.hid hF
      have hOS : OwS wr (W.heap.size + 2) (.slice (some ⟨g, 0, none⟩) d.secs.length cap) L := by unfold OwS; rw [HL1.out]; exact hown
      clear hF hL1 hL2 hL3
      obtain ⟨t0, t1, t2, t3, r0, r1, r2, r3⟩ := box8 hbr (Below.refl _ _)
      obtain ⟨q0', q1', q2', q3', s0, s1, s2, s3⟩ := box8 hbk (Below.refl _ _)
      have hx := ((hbr.far (p := ⟨W.heap.size, 1, none⟩) (by simp) (.slice (some ⟨g, 0, none⟩) d.secs.length cap)).far (p := ⟨W.heap.size, 2, none⟩) (by simp) (.slice none 0 0)).set4 (.int .i64 d.size) (.slice (some ⟨g, 0, none⟩) d.secs.length cap) (.slice none 0 0) (.int .i64 d.left)
      have hdx := set4_below ((hd.setCell (p := ⟨W.heap.size, 1, none⟩) (show bn ≤ W.heap.size by omega) (.slice (some ⟨g, 0, none⟩) d.secs.length cap)).setCell (p := ⟨W.heap.size, 2, none⟩) (show bn ≤ W.heap.size by omega) (.slice none 0 0)) (show bn ≤ W.heap.size + 1 by omega) (.int .i64 d.size) (.slice (some ⟨g, 0, none⟩) d.secs.length cap) (.slice none 0 0) (.int .i64 d.left)
      have hvx := own_far4 ((hOS.far (p := ⟨W.heap.size, 1, none⟩) (by simp) (.slice (some ⟨g, 0, none⟩) d.secs.length cap)).far (p := ⟨W.heap.size, 2, none⟩) (by simp) (.slice none 0 0)) (show g ≠ W.heap.size + 1 by omega) (.int .i64 d.size) (.slice (some ⟨g, 0, none⟩) d.secs.length cap) (.slice none 0 0) (.int .i64 d.left)
      clear hown hOS HF
      go_wp2
      clear r0 r1 r2 r3 t0 t1 t2 t3 q0 q1 q2 q3 q0' q1' q2' q3' s0 s1 s2 s3
      generalize (((((wr.setCell ⟨W.heap.size, 1, none⟩ (.slice (some ⟨g, 0, none⟩) d.secs.length cap)).setCell ⟨W.heap.size, 2, none⟩ (.slice none 0 0)).setCell ⟨W.heap.size + 1, 0, none⟩ (.int .i64 d.size)).setCell ⟨W.heap.size + 1, 1, none⟩ (.slice (some ⟨g, 0, none⟩) d.secs.length cap)).setCell ⟨W.heap.size + 1, 2, none⟩ (.slice none 0 0)).setCell ⟨W.heap.size + 1, 3, none⟩ (.int .i64 d.left) = wx at *
      obtain ⟨k0, k1, k2, k3⟩ := box4 hx (Below.refl _ _)
      rw [HF2.out]
      exact bodyPost_ret (v := .agg #[.int .i64 d.size, .slice (some ⟨g, 0, none⟩) d.secs.length cap, .slice none 0 0, .int .i64 d.left]) (by simp [results, Try.results54, go_sem, k0, k1, k2, k3]) rfl ⟨_, rfl, hvx, hdx⟩
end Go.Proofs.Ytockmhhiomdlkaa

namespace Go.Proofs.Ytockmhhiomdlkaa
set_option linter.unusedSimpArgs false
set_option linter.unusedVariables false
open Go.RowKit

theorem cutW_length {size : Int} : ∀ (p : List (Int × ByteArray)) (l : List ByteArray) (ps : List Int), (cutW size l p ps).length = l.length
  | [], _, _ => rfl
  | w :: p, l, ps => by rw [cutW, cutW_length p, List.length_set]

set_option maxRecDepth 100000 in
set_option maxHeartbeats 4000000 in
theorem cut_any (W : World) (vs vp vi : Value) (d : Dk) (h : DskP W vs vp d) (hpl : d.pend.length ≤ 100000) (ps : List Int) (hps : Ints W vi ps) :
    Calls Try.prog 30 #[.agg #[.int .i64 d.size, vs, vp, .int .i64 d.left], vi] W (CutPost W (cutD d ps)) := by
  obtain ⟨A, c, rfl, hc, hm⟩ := h.sec.form
  obtain ⟨P, cp, rfl, hcp, hmp⟩ := h.pen.form
  obtain ⟨I, ci, rfl, hci, hmi⟩ := hps.form
  have hbk0 := Blk.new W #[.int .i64 d.size, .slice A d.secs.length c, .slice P d.pend.length cp, .int .i64 d.left] 25
  have hbk := (hbk0.alloc (.cells #[.slice I ps.length ci] 47)).alloc (.cells #[.int .i64 0, .slice none 0 0, .slice none 0 0, .int .i64 0] 25)
  have hbp0 := Blk.new (W.alloc (.cells #[.int .i64 d.size, .slice A d.secs.length c, .slice P d.pend.length cp, .int .i64 d.left] 25)) #[.slice I ps.length ci] 47
  have hbp := hbp0.alloc (.cells #[.int .i64 0, .slice none 0 0, .slice none 0 0, .int .i64 0] 25)
  have hbr := Blk.new ((W.alloc (.cells #[.int .i64 d.size, .slice A d.secs.length c, .slice P d.pend.length cp, .int .i64 d.left] 25)).alloc (.cells #[.slice I ps.length ci] 47)) #[.int .i64 0, .slice none 0 0, .slice none 0 0, .int .i64 0] 25
  rw [World.size_alloc] at hbp
  rw [World.size_alloc, World.size_alloc, show W.heap.size + 1 + 1 = W.heap.size + 2 from rfl] at hbr
  have hd1 := (((Below.refl W.heap.size W).alloc (Nat.le_refl _) (.cells #[.int .i64 d.size, .slice A d.secs.length c, .slice P d.pend.length cp, .int .i64 d.left] 25)).alloc (by simp) (.cells #[.slice I ps.length ci] 47)).alloc (by simp; omega) (.cells #[.int .i64 0, .slice none 0 0, .slice none 0 0, .int .i64 0] 25)
  have hD1 := h.keep (Keeps.of_below hd1)
  clear hbk0 hbp0
  go_enter Try.func30, Try.ntmps30
  go_upto_region 1 with (fail)
  generalize ((W.alloc (.cells #[.int .i64 d.size, .slice A d.secs.length c, .slice P d.pend.length cp, .int .i64 d.left] 25)).alloc (.cells #[.slice I ps.length ci] 47)).alloc (.cells #[.int .i64 0, .slice none 0 0, .slice none 0 0, .int .i64 0] 25) = w1 at *
  obtain ⟨q0, q1, q2, q3⟩ := box4 hbk (Below.refl _ _)
  have c1 := check_any _ _ _ d hD1
  go_wp2_with fail
  refine c1.mono ?_
  clear c1 q0 q1 q2 q3
  rintro e w2 ⟨rfl, hb2⟩
  have hd2 := hd1.trans (hb2.mono hd1.size)
  have hbk2 := hbk.keep hb2
  have hbp2 := hbp.keep hb2
  have hbr2 := hbr.keep hb2
  clear hbk hbr hbp hd1 hD1 hb2
  by_cases hk : chk d = 0
  · have HK := Lib.hid hk
    rw [hk]
    clear hk
    have hl1 := hbr2.lt
    have hn3 := Blk.new w2 #[.int .i64 0] 3
    have hbk3 := hbk2.alloc (.cells #[.int .i64 0] 3)
    have hbp3 := hbp2.alloc (.cells #[.int .i64 0] 3)
    have hbr3 := hbr2.alloc (.cells #[.int .i64 0] 3)
    have hd3 := hd2.alloc hd2.size (.cells #[.int .i64 0] 3)
    clear hbk2 hbp2 hbr2 hd2
    go_upto_region 4 with (fail)
    generalize w2.alloc (.cells #[.int .i64 0] 3) = w3 at *
    generalize w2.heap.size = bn at *
    obtain ⟨q0, q1, q2, q3⟩ := box4 hbk3 (Below.refl _ _)
    have hl3 := hn3.lt
    have c2 := settled_cut W w3 _ _ d h (chk_zero.1 HK.out) hpl bn (W.heap.size + 1) W.heap.size I ci ps _ _ _ hps hd3 (by omega) hn3 hbp3 hbk3 (by omega) (by omega)
    go_wp2_with fail
    refine c2.mono ?_
    clear c2 q0 q1 q2 q3
    rintro e w4 ⟨v4, rfl, hv4, hb4⟩
    have hd4 := hd3.trans (hb4.mono (by omega))
    have hbk4 := hbk3.below hb4 (by omega)
    have hbr4 := hbr3.below hb4 (by omega)
    clear hbk3 hbr3 hbp3 hd3 hb4 hn3
    have HE := Lib.hid (cutD_ok (ps := ps) HK.out)
    obtain ⟨A4, c4, rfl⟩ := own_form hv4
    rw [cutW_length] at hv4 ⊢
    obtain ⟨q0, q1, q2, q3, s0, s1, s2, s3⟩ := box8 hbk4 (Below.refl _ _)
    obtain ⟨t0, t1, t2, t3, r0, r1, r2, r3⟩ := box8 hbr4 (Below.refl _ _)
    go_upto_region 5 with (fail)
    have hbk5 := hbk4.set4 (.int .i64 d.size) (.slice A4 d.secs.length c4) (.slice none 0 0) (.int .i64 d.left)
    have hbr5 := (((hbr4.far (p := ⟨W.heap.size, 0, none⟩) (by simp) (.int .i64 d.size)).far (p := ⟨W.heap.size, 1, none⟩) (by simp) (.slice A4 d.secs.length c4)).far (p := ⟨W.heap.size, 2, none⟩) (by simp) (.slice none 0 0)).far (p := ⟨W.heap.size, 3, none⟩) (by simp) (.int .i64 d.left)
    have hd5 := set4_below hd4 (Nat.le_refl W.heap.size) (.int .i64 d.size) (.slice A4 d.secs.length c4) (.slice none 0 0) (.int .i64 d.left)
    have hv4' : OwS w4 (w3.heap.size + 2) (.slice A4 d.secs.length c4) (cutW d.size d.secs d.pend ps) := hv4
    have hv5 := (((hv4'.far (p := ⟨W.heap.size, 0, none⟩) (by simp; omega) (.int .i64 d.size)).far (p := ⟨W.heap.size, 1, none⟩) (by simp; omega) (.slice A4 d.secs.length c4)).far (p := ⟨W.heap.size, 2, none⟩) (by simp; omega) (.slice none 0 0)).far (p := ⟨W.heap.size, 3, none⟩) (by simp; omega) (.int .i64 d.left)
    clear q0 q1 q2 q3 s0 s1 s2 s3 r0 r1 r2 r3 t0 t1 t2 t3 hbk4 hbr4 hd4 hv4 hv4'
    generalize (((w4.setCell ⟨W.heap.size, 0, none⟩ (.int .i64 d.size)).setCell ⟨W.heap.size, 1, none⟩ (.slice A4 d.secs.length c4)).setCell ⟨W.heap.size, 2, none⟩ (.slice none 0 0)).setCell ⟨W.heap.size, 3, none⟩ (.int .i64 d.left) = w5 at *
    obtain ⟨q0, q1, q2, q3, s0, s1, s2, s3⟩ := box8 hbk5 (Below.refl _ _)
    obtain ⟨t0, t1, t2, t3, r0, r1, r2, r3⟩ := box8 hbr5 (Below.refl _ _)
    have hx := (hbr5.far (p := ⟨W.heap.size, 3, none⟩) (by simp) (.int .i64 (-1))).set4 (.int .i64 d.size) (.slice A4 d.secs.length c4) (.slice none 0 0) (.int .i64 (-1))
    have hdx := set4_below (hd5.setCell (p := ⟨W.heap.size, 3, none⟩) (Nat.le_refl _) (.int .i64 (-1))) (show W.heap.size ≤ W.heap.size + 2 by omega) (.int .i64 d.size) (.slice A4 d.secs.length c4) (.slice none 0 0) (.int .i64 (-1))
    have hvx := ((((hv5.far (p := ⟨W.heap.size, 3, none⟩) (by simp; omega) (.int .i64 (-1))).far (p := ⟨W.heap.size + 2, 0, none⟩) (by simp; omega) (.int .i64 d.size)).far (p := ⟨W.heap.size + 2, 1, none⟩) (by simp; omega) (.slice A4 d.secs.length c4)).far (p := ⟨W.heap.size + 2, 2, none⟩) (by simp; omega) (.slice none 0 0)).far (p := ⟨W.heap.size + 2, 3, none⟩) (by simp; omega) (.int .i64 (-1))
    go_wp2
    clear r0 r1 r2 r3 t0 t1 t2 t3 q0 q1 q2 q3 s0 s1 s2 s3
    generalize ((((w5.setCell ⟨W.heap.size, 3, none⟩ (.int .i64 (-1))).setCell ⟨W.heap.size + 2, 0, none⟩ (.int .i64 d.size)).setCell ⟨W.heap.size + 2, 1, none⟩ (.slice A4 d.secs.length c4)).setCell ⟨W.heap.size + 2, 2, none⟩ (.slice none 0 0)).setCell ⟨W.heap.size + 2, 3, none⟩ (.int .i64 (-1)) = wx at *
    obtain ⟨k0, k1, k2, k3⟩ := box4 hx (Below.refl _ _)
    exact bodyPost_ret (v := .agg #[.int .i64 d.size, .slice A4 d.secs.length c4, .slice none 0 0, .int .i64 (-1)]) (by simp [results, Try.results30, go_sem, k0, k1, k2, k3]) rfl (CutPost.mk HE.out rfl rfl ⟨hvx.strs, Sl.nil _ _ _, h.z0, h.z1, by simp, by simp⟩ hdx)
  · have HE := Lib.hid (cutD_bad (ps := ps) hk)
    have hb : (chk d != 0) = true := by simp [hk]
    clear hk
    have hdx := set4_below hd2 (show W.heap.size ≤ W.heap.size + 2 by omega) (.int .i64 0) (.slice none 0 0) (.slice none 0 0) (.int .i64 0)
    have hx := hbr2.set4 (.int .i64 0) (.slice none 0 0) (.slice none 0 0) (.int .i64 0)
    obtain ⟨t0, t1, t2, t3, r0, r1, r2, r3⟩ := box8 hbr2 (Below.refl _ _)
    generalize chk d = full at *
    go_wp2
    clear r0 r1 r2 r3 t0 t1 t2 t3
    generalize (((w2.setCell ⟨W.heap.size + 2, 0, none⟩ (.int .i64 0)).setCell ⟨W.heap.size + 2, 1, none⟩ (.slice none 0 0)).setCell ⟨W.heap.size + 2, 2, none⟩ (.slice none 0 0)).setCell ⟨W.heap.size + 2, 3, none⟩ (.int .i64 0) = wx at *
    obtain ⟨k0, k1, k2, k3⟩ := box4 hx (Below.refl _ _)
    exact bodyPost_ret (v := .agg #[.int .i64 0, .slice none 0 0, .slice none 0 0, .int .i64 0]) (by simp [results, Try.results30, go_sem, k0, k1, k2, k3]) rfl (CutPost.mk HE.out rfl rfl (Dsk.nodisk _) hdx)
end Go.Proofs.Ytockmhhiomdlkaa

namespace Go.Proofs.Ytockmhhiomdlkaa
set_option linter.unusedSimpArgs false
set_option linter.unusedVariables false
open Go.RowKit
attribute [local go_sem] Oper.semAt_some

abbrev BackT := Nat × (Int × ByteArray)
def backEnc (x : BackT) : Array Value := #[.int .i64 (x.1 : Int), .agg #[.int .i64 x.2.1, .string x.2.2]]
/-- The first k that come when a list is gone through backward. -/
def backL (p : List (Int × ByteArray)) (k : Nat) : List BackT := (List.range k).map fun j => (p.length - 1 - j, p[p.length - 1 - j]?.getD (0, ⟨#[]⟩))
theorem backL_length (p : List (Int × ByteArray)) (k : Nat) : (backL p k).length = k := by simp [backL]
theorem backL_succ (p : List (Int × ByteArray)) (k : Nat) : backL p (k + 1) = backL p k ++ [(p.length - 1 - k, p[p.length - 1 - k]?.getD (0, ⟨#[]⟩))] := by simp [backL, List.range_succ]

theorem backward_any (v : Value) (A : Option Addr) (n c : Nat) (hv : v = .slice A n c) (w : World) :
    Calls Try.prog 58 #[v] w fun e w' => e = .returned (.func (.func 79) #[] #[.pointer (some ⟨w.heap.size, 0, none⟩)]) ∧ w' = w.alloc (.cells #[v] 23) := by
  subst hv
  go_enter Try.func58, Try.ntmps58
  go_wp2
  go_ret
  exact ⟨rfl, rfl⟩

set_option maxRecDepth 100000 in
set_option maxHeartbeats 2000000 in
theorem back1_in (n : Nat) (hn : 1 ≤ n) (l Bs n₀ : Nat) (A : Option Addr) (cap : Nat) (p : List (Int × ByteArray)) (J Jx : List BackT → World → Prop)
    (hY : ∀ pre x W, J pre W → pre.length < p.length → YieldAt Fence.wide (n - 1) Try.prog l (backEnc x) W fun e W' =>
      (e = .returned (.bool true) ∧ J (pre ++ [x]) W' ∧ Below n₀ W W') ∨ (e = .returned (.bool false) ∧ Jx (pre ++ [x]) W'))
    (W0 W : World) (hW0 : Wrs W0 (.slice A p.length cap) p) (hn₀ : W0.heap.size ≤ n₀) (hb0 : Below W0.heap.size W0 W) (hBs : Blk W Bs 23 #[.slice A p.length cap]) (hBn : Bs < n₀) (h0 : J [] W) :
    CallsIn Fence.wide n Try.prog 79 #[.func (.yield l) #[] #[], .pointer (some ⟨Bs, 0, none⟩)] W fun e W' => (∃ v, e = .returned v) ∧
      ((∃ ys, ys = backL p p.length ∧ J ys W') ∨ (∃ pre, (∃ k, k < p.length ∧ pre = backL p (k + 1)) ∧ Jx pre W')) := by
  obtain ⟨_, _, e0, hcp, hmp⟩ := hW0.form
  cases e0
  refine callsIn_of_wp Try.func79 rfl trivial ?_ rfl
  simp only [Try.ntmps79, List.size_toArray, List.length_cons, List.length_nil, Nat.reduceAdd, Nat.reduceSub, Array.replicate_succ, Array.replicate_zero, List.push_toArray, List.append_toArray, List.nil_append, List.cons_append]
  have hc0 := hBs.cell (j := 0) rfl
  gi_wp2
  gi_loopw [3] (fun i wr => ∃ k : Nat, k ≤ p.length ∧ i = .int .i64 ((p.length : Int) - 1 - (k : Int)) ∧ J (backL p k) wr ∧ Below n₀ W wr) (fun i _ => (intOf i + 1).toNat)
  case atStart => exact ⟨0, Nat.zero_le _, by simp, h0, Below.refl _ _⟩
  case round =>
    clear hc0
    obtain ⟨k, hk, rfl, hJs, hnx⟩ := hrel
    have hbk := hBs.below hnx hBn
    have hc1 := hbk.cell (j := 0) rfl
    have hw := hW0.keep (Keeps.of_below (hb0.trans (hnx.mono hn₀)))
    by_cases hlt : k < p.length
    · have hi : (p.length : Int) - 1 - (k : Int) = ((p.length - 1 - k : Nat) : Int) := by omega
      have hlt2 : p.length - 1 - k < p.length := by omega
      obtain ⟨b, off, rfl, a1, a2, _, _⟩ := hw.get hlt2
      obtain ⟨fn, tmps, assign, body, hy, hR⟩ := hY _ (p.length - 1 - k, p[p.length - 1 - k]?.getD (0, ⟨#[]⟩)) wr hJs (by rw [backL_length]; exact hlt)
      have hge : p[p.length - 1 - k]?.getD (0, ⟨#[]⟩) = p[p.length - 1 - k] := by rw [List.getElem?_eq_getElem hlt2]; rfl
      rw [hi]
      have hS := backL_succ p k
      rw [hge] at hy hR hS
      have HS := Lib.hid hS
      have HI := Lib.hid hi
      clear hge hS hi
      generalize hj : p.length - 1 - k = j at *
      have HJ := Lib.hid hj
      clear hj
      simp only [backEnc] at hy
      generalize p[j] = x at *
      gi_wp2
      refine hR.mono ?_
      rintro e W3 (⟨rfl, hJ3, hk3⟩ | ⟨rfl, hJx3⟩)
      · gi_wp2
        go_roundw
        case rel => exact ⟨k + 1, by omega, by have := HI.out; congr 1; omega, by rw [HS.out]; exact hJ3, hnx.trans hk3⟩
        case measure => simp [intOf]
      · gi_wp2
        refine bodyPost_ret (results_none rfl _ _ _) rfl ?_
        exact ⟨⟨_, rfl⟩, .inr ⟨_, ⟨k, hlt, HS.out.symm⟩, hJx3⟩⟩
    · obtain rfl : k = p.length := by omega
      gi_wp2
      go_end0
      exact ⟨⟨_, rfl⟩, .inl ⟨_, rfl, hJs⟩⟩
theorem back_stops (n : Nat) (hn : 1 ≤ n) (Bs n₀ : Nat) (A : Option Addr) (cap : Nat) (p : List (Int × ByteArray)) (W0 w : World) (hW0 : Wrs W0 (.slice A p.length cap) p) (hn₀ : W0.heap.size ≤ n₀) (hb0 : Below W0.heap.size W0 w)
    (hBs : Blk w Bs 23 #[.slice A p.length cap]) (hBn : Bs < n₀) (hnw : n₀ ≤ w.heap.size) :
    SeqStopsK Fence.wide n Try.prog 79 #[.pointer (some ⟨Bs, 0, none⟩)] backEnc (Below n₀) (fun ys => ys = backL p p.length) (fun pre => ∃ k, k < p.length ∧ pre = backL p (k + 1)) p.length w := fun l J Jx W hW _ _ hY h0 =>
  back1_in n hn l Bs n₀ A cap p J Jx hY W0 W hW0 hn₀ (hb0.trans (hW.mono (by omega))) (hBs.below hW hBs.lt) hBn h0
end Go.Proofs.Ytockmhhiomdlkaa

namespace Go.Proofs.Ytockmhhiomdlkaa
set_option linter.unusedSimpArgs false
set_option linter.unusedVariables false
open Go.RowKit

/-- The boxes of Read. -/
structure RdBoxes (W : World) (d : Dk) (vs vp : Value) (i : Int) (s : ByteArray) (n : Int) (w : World) : Prop where
  dk : Blk w W.heap.size 25 #[.int .i64 d.size, vs, vp, .int .i64 d.left]
  ix : Blk w (W.heap.size + 1) 3 #[.int .i64 i]
  rs : Blk w (W.heap.size + 2) 9 #[.string s]
  re : Blk w (W.heap.size + 3) 29 #[.int .i64 n]
  bl : Below W.heap.size W w
section
variable {W w w' : World} {d : Dk} {vs vp : Value} {i n : Int} {s : ByteArray}
theorem RdBoxes.keep (h : RdBoxes W d vs vp i s n w) (hb : Below w.heap.size w w') : RdBoxes W d vs vp i s n w' :=
  ⟨h.dk.keep hb, h.ix.keep hb, h.rs.keep hb, h.re.keep hb, h.bl.trans (hb.mono h.bl.size)⟩
theorem RdBoxes.set (h : RdBoxes W d vs vp i s n w) (s' : ByteArray) (n' : Int) :
    RdBoxes W d vs vp i s' n' ((w.setCell ⟨W.heap.size + 2, 0, none⟩ (.string s')).setCell ⟨W.heap.size + 3, 0, none⟩ (.int .i64 n')) :=
  ⟨(h.dk.far (p := ⟨W.heap.size + 2, 0, none⟩) (by simp) _).far (p := ⟨W.heap.size + 3, 0, none⟩) (by simp) _,
   (h.ix.far (p := ⟨W.heap.size + 2, 0, none⟩) (by simp) _).far (p := ⟨W.heap.size + 3, 0, none⟩) (by simp) _,
   (h.rs.set 0 _).far (p := ⟨W.heap.size + 3, 0, none⟩) (by simp) _,
   (h.re.far (p := ⟨W.heap.size + 2, 0, none⟩) (by simp) _).set 0 _,
   (h.bl.setCell (p := ⟨W.heap.size + 2, 0, none⟩) (show W.heap.size ≤ W.heap.size + 2 by omega) _).setCell (p := ⟨W.heap.size + 3, 0, none⟩) (show W.heap.size ≤ W.heap.size + 3 by omega) _⟩
theorem RdBoxes.facts (h : RdBoxes W d vs vp i s n w) :
    w.cell? ⟨W.heap.size, 0, none⟩ = some (.int .i64 d.size) ∧ w.cell? ⟨W.heap.size, 1, none⟩ = some vs ∧ w.cell? ⟨W.heap.size, 2, none⟩ = some vp ∧ w.cell? ⟨W.heap.size, 3, none⟩ = some (.int .i64 d.left) ∧
    w.cell? ⟨W.heap.size + 1, 0, none⟩ = some (.int .i64 i) ∧ w.cell? ⟨W.heap.size + 2, 0, none⟩ = some (.string s) ∧ w.cell? ⟨W.heap.size + 3, 0, none⟩ = some (.int .i64 n) ∧
    w.frozen? ⟨W.heap.size + 2, 0, none⟩ = false ∧ w.frozen? ⟨W.heap.size + 3, 0, none⟩ = false :=
  ⟨h.dk.cell (j := 0) rfl, h.dk.cell (j := 1) rfl, h.dk.cell (j := 2) rfl, h.dk.cell (j := 3) rfl, h.ix.cell (j := 0) rfl, h.rs.cell (j := 0) rfl, h.re.cell (j := 0) rfl, h.rs.frozen 0, h.re.frozen 0⟩
/-- They lie on where a block that is no cells is turned, and where new blocks are made. -/
theorem RdBoxes.own (h : RdBoxes W d vs vp i s n w) {row : Option Nat} (hg : w.grownBy w' row) (hr : ∀ r, row = some r → W.heap.size + 4 ≤ r) : RdBoxes W d vs vp i s n w' := by
  have e : ∀ {g t cs}, Blk w g t cs → g < W.heap.size + 4 → Blk w' g t cs := fun {g t cs} hb hl => (hg.block g hb.lt (fun e => by have := hr g e.symm; omega)).trans hb
  exact ⟨e h.dk (by omega), e h.ix (by omega), e h.rs (by omega), e h.re (by omega), h.bl.grown hg h.bl.size (fun k e => by have := hr k e; omega)⟩
end
theorem RdBoxes.new (W : World) (d : Dk) (vs vp : Value) (i : Int) :
    RdBoxes W d vs vp i ⟨#[]⟩ 0 ((((W.alloc (.cells #[.int .i64 d.size, vs, vp, .int .i64 d.left] 25)).alloc (.cells #[.int .i64 i] 3)).alloc (.cells #[.string ⟨#[]⟩] 9)).alloc (.cells #[.int .i64 0] 29)) := by
  have h0 := Blk.new W #[.int .i64 d.size, vs, vp, .int .i64 d.left] 25
  have h1 := Blk.new (W.alloc (.cells #[.int .i64 d.size, vs, vp, .int .i64 d.left] 25)) #[.int .i64 i] 3
  have h2 := Blk.new ((W.alloc (.cells #[.int .i64 d.size, vs, vp, .int .i64 d.left] 25)).alloc (.cells #[.int .i64 i] 3)) #[.string ⟨#[]⟩] 9
  have h3 := Blk.new (((W.alloc (.cells #[.int .i64 d.size, vs, vp, .int .i64 d.left] 25)).alloc (.cells #[.int .i64 i] 3)).alloc (.cells #[.string ⟨#[]⟩] 9)) #[.int .i64 0] 29
  simp only [World.size_alloc] at h1 h2 h3
  exact ⟨((h0.alloc _).alloc _).alloc _, (h1.alloc _).alloc _, h2.alloc _, h3, ((((Below.refl _ _).alloc (Nat.le_refl _) _).alloc (by simp) _).alloc (by simp; omega) _).alloc (by simp; omega) _⟩

set_option maxRecDepth 100000 in
set_option maxHeartbeats 1000000 in
theorem read_err (W : World) (vs vp : Value) (d : Dk) (h : DskP W vs vp d) (i : Int) (hi0 : -9223372036854775808 ≤ i) (hi1 : i ≤ 9223372036854775807) (hbad : rdE d i ≠ 0) :
    Calls Try.prog 32 #[.agg #[.int .i64 d.size, vs, vp, .int .i64 d.left], .int .i64 i] W (RdPost W (rdB d i) (rdE d i)) := by
  obtain ⟨A, c, rfl, hc, hm⟩ := h.sec.form
  obtain ⟨P, cp, rfl, hcp, hmp⟩ := h.pen.form
  have hB := RdBoxes.new W d (.slice A d.secs.length c) (.slice P d.pend.length cp) i
  have HB := Lib.hid hbad
  clear hbad
  go_enter Try.func32, Try.ntmps32
  go_upto_region 1 with (fail)
  generalize (((W.alloc (.cells #[.int .i64 d.size, .slice A d.secs.length c, .slice P d.pend.length cp, .int .i64 d.left] 25)).alloc (.cells #[.int .i64 i] 3)).alloc (.cells #[.string ⟨#[]⟩] 9)).alloc (.cells #[.int .i64 0] 29) = w1 at *
  obtain ⟨q0, q1, q2, q3, q4, q5, q6, f5, f6⟩ := hB.facts
  have c1 := check_any _ _ _ d (h.keep (Keeps.of_below hB.bl))
  go_wp2_with fail
  refine c1.mono ?_
  clear c1 q0 q1 q2 q3 q4 q5 q6 f5 f6
  rintro e w2 ⟨rfl, hb2⟩
  have hB2 := hB.keep hb2
  clear hB hb2
  obtain ⟨q0, q1, q2, q3, q4, q5, q6, f5, f6⟩ := hB2.facts
  by_cases hk : chk d = 0
  · have HK := Lib.hid hk
    rw [hk]
    clear hk
    have hout : i < 0 ∨ (d.secs.length : Int) ≤ i := by
      apply Classical.byContradiction
      intro hno
      obtain ⟨m, rfl⟩ := Int.eq_ofNat_of_zero_le (show 0 ≤ i by omega)
      exact HB.out (rd_in HK.out (show m < d.secs.length by omega) (by rw [cur_length]; omega)).1
    have HE := Lib.hid (rd_out HK.out hout)
    have c2 := has_any d.size d.left i A d.secs.length c (.slice P d.pend.length cp) hc hm w2
    rw [show hasB d.secs.length i = false from decide_eq_false (by omega)] at c2
    clear hout
    go_wp2_with fail
    refine c2.mono ?_
    clear c2 q0 q1 q2 q3 q4 q5 q6 f5 f6
    rintro e w3 ⟨rfl, hb3⟩
    have hB3 := hB2.keep hb3
    clear hB2 hb3
    obtain ⟨q0, q1, q2, q3, q4, q5, q6, f5, f6⟩ := hB3.facts
    have hB4 := hB3.set ⟨#[]⟩ 2
    go_wp2
    clear q0 q1 q2 q3 q4 q5 q6 f5 f6
    generalize (w3.setCell ⟨W.heap.size + 2, 0, none⟩ (.string ⟨#[]⟩)).setCell ⟨W.heap.size + 3, 0, none⟩ (.int .i64 2) = wx at *
    obtain ⟨q0, q1, q2, q3, q4, q5, q6, f5, f6⟩ := hB4.facts
    exact bodyPost_ret (v := .tuple #[.string ⟨#[]⟩, .int .i64 2]) (by simp [results, Try.results32, go_sem, q5, q6]) rfl (RdPost.mk HE.out.1.symm HE.out.2.symm hB4.bl)
  · have HE := Lib.hid (rd_bad (i := i) hk)
    have hb : (chk d != 0) = true := by simp [hk]
    clear hk
    generalize chk d = full at *
    have hB4 := hB2.set ⟨#[]⟩ 1
    go_wp2
    clear q0 q1 q2 q3 q4 q5 q6 f5 f6
    generalize (w2.setCell ⟨W.heap.size + 2, 0, none⟩ (.string ⟨#[]⟩)).setCell ⟨W.heap.size + 3, 0, none⟩ (.int .i64 1) = wx at *
    obtain ⟨q0, q1, q2, q3, q4, q5, q6, f5, f6⟩ := hB4.facts
    exact bodyPost_ret (v := .tuple #[.string ⟨#[]⟩, .int .i64 1]) (by simp [results, Try.results32, go_sem, q5, q6]) rfl (RdPost.mk HE.out.1.symm HE.out.2.symm hB4.bl)
end Go.Proofs.Ytockmhhiomdlkaa

namespace Go.Proofs.Ytockmhhiomdlkaa
set_option linter.unusedSimpArgs false
set_option linter.unusedVariables false
open Go.RowKit

def NoStr (w : World) (g : Nat) : Prop := ∀ j s, w.cell? ⟨g, j, none⟩ ≠ some (.string s)
theorem nostr4 {w : World} {g : Nat} {t : TypeId} {a b : Int} {A P : Option Addr} {n c m k : Nat} (h : Blk w g t #[.int .i64 a, .slice A n c, .slice P m k, .int .i64 b]) : NoStr w g := by
  intro j s e
  rw [cell_of_row w g j _ t (0, 0) h] at e
  match j with
  | 0 => cases e
  | 1 => cases e
  | 2 => cases e
  | 3 => cases e
  | j + 4 => simp at e
theorem cell_set_ne (w : World) {p q : Addr} (h : q.block ≠ p.block) (u : Value) : (w.setCell p u).cell? q = w.cell? q :=
  World.cell?_of_block (w := w) (Below.heap_setCell w p u q.block h)
theorem CellsAt.setNe {w : World} {A : Option Addr} {vs : List Value} (h : CellsAt w A vs) {p : Addr} (u : Value) (hne : ∀ b off, A = some ⟨b, off, none⟩ → vs ≠ [] → b ≠ p.block) : CellsAt (w.setCell p u) A vs := by
  intro k x hk
  obtain ⟨b, off, e, hc⟩ := h k x hk
  exact ⟨b, off, e, (cell_set_ne w (q := ⟨b, off + k, none⟩) (hne b off e (by intro e; subst e; simp at hk)) u).trans hc⟩
theorem Strs.setBox {w : World} {v : Value} {xs : List ByteArray} (h : Strs w v xs) {g j : Nat} (hg : NoStr w g) (u : Value) : Strs (w.setCell ⟨g, j, none⟩ u) v xs := by
  obtain ⟨A, c, vs, rfl, h1, h2, h3, h4⟩ := h
  refine ⟨A, c, vs, rfl, h1, h2, h3.setNe u ?_, h4⟩
  intro b off e hne he
  cases xs with
  | nil => exact hne h4
  | cons x xs =>
    obtain ⟨us, vs', rfl, _, rfl, _⟩ := h4
    obtain ⟨b', off', e', hc⟩ := h3 0 (.string x) rfl
    rw [e] at e'
    cases e'
    have he : b = g := he
    subst he
    exact hg _ _ hc
theorem Wrs.setBox {w : World} {v : Value} {xs : List (Int × ByteArray)} (h : Wrs w v xs) {g j : Nat} (hg : NoStr w g) (u : Value) : Wrs (w.setCell ⟨g, j, none⟩ u) v xs := by
  obtain ⟨A, c, vs, rfl, h1, h2, h3, h4⟩ := h
  refine ⟨A, c, vs, rfl, h1, h2, h3.setNe u ?_, h4⟩
  intro b off e hne he
  cases xs with
  | nil => exact hne h4
  | cons x xs =>
    obtain ⟨us, vs', rfl, _, ⟨rfl, _⟩, _⟩ := h4
    obtain ⟨b', off', e', hc⟩ := h3 1 (.string x.2) rfl
    rw [e] at e'
    cases e'
    have he : b = g := he
    subst he
    exact hg _ _ hc
theorem DskP.setBox {w : World} {vs vp : Value} {d : Dk} (h : DskP w vs vp d) {g j : Nat} (hg : NoStr w g) (u : Value) : DskP (w.setCell ⟨g, j, none⟩ u) vs vp d :=
  ⟨h.sec.setBox hg u, h.pen.setBox hg u, h.z0, h.z1, h.f0, h.f1⟩
/-- A boxed disk is overwritten. -/
theorem DskP.set4 {w : World} {vs vp : Value} {d : Dk} (h : DskP w vs vp d) {g : Nat} {t : TypeId} {a b a' b' : Int} {A P A' P' : Option Addr} {n c m k n' c' m' k' : Nat} (hg : Blk w g t #[.int .i64 a, .slice A n c, .slice P m k, .int .i64 b]) :
    DskP ((((w.setCell ⟨g, 0, none⟩ (.int .i64 a')).setCell ⟨g, 1, none⟩ (.slice A' n' c')).setCell ⟨g, 2, none⟩ (.slice P' m' k')).setCell ⟨g, 3, none⟩ (.int .i64 b')) vs vp d :=
  (((h.setBox (nostr4 hg) _).setBox (nostr4 (hg.set 0 (.int .i64 a'))) _).setBox (nostr4 ((hg.set 0 (.int .i64 a')).set 1 (.slice A' n' c'))) _).setBox (nostr4 (((hg.set 0 (.int .i64 a')).set 1 (.slice A' n' c')).set 2 (.slice P' m' k'))) _
/-- Its Left alone is written. -/
theorem DskP.set3 {w : World} {vs vp : Value} {d : Dk} (h : DskP w vs vp d) {g : Nat} {t : TypeId} {a b : Int} {A P : Option Addr} {n c m k : Nat} (hg : Blk w g t #[.int .i64 a, .slice A n c, .slice P m k, .int .i64 b]) (j : Nat) (u : Value) :
    DskP (w.setCell ⟨g, j, none⟩ u) vs vp d := h.setBox (nostr4 hg) u
theorem Ints.setBox {w : World} {v : Value} {xs : List Int} (h : Ints w v xs) {g j : Nat} (u : Value) (hne : ∀ b off n c, v = .slice (some ⟨b, off, none⟩) n c → b ≠ g) : Ints (w.setCell ⟨g, j, none⟩ u) v xs := by
  obtain ⟨A, c, vs, rfl, h1, h2, h3, h4⟩ := h
  exact ⟨A, c, vs, rfl, h1, h2, h3.setNe u (fun b off e _ => by subst e; exact hne b off _ _ rfl), h4⟩

/-- Block g is a variable that holds a disk. -/
structure Var (w : World) (g : Nat) (A : Option Addr) (c : Nat) (P : Option Addr) (cp : Nat) (d : Dk) : Prop where
  blk : Blk w g 25 #[.int .i64 d.size, .slice A d.secs.length c, .slice P d.pend.length cp, .int .i64 d.left]
  dk : DskP w (.slice A d.secs.length c) (.slice P d.pend.length cp) d
section
variable {w w' : World} {g g' : Nat} {A A' : Option Addr} {c c' : Nat} {P P' : Option Addr} {cp cp' : Nat} {d d' : Dk}
theorem Var.keep (h : Var w g A c P cp d) (hb : Below w.heap.size w w') : Var w' g A c P cp d := ⟨h.blk.keep hb, h.dk.keep (Keeps.of_below hb)⟩
theorem Var.new (h : DskP w (.slice A d.secs.length c) (.slice P d.pend.length cp) d) :
    Var (w.alloc (.cells #[.int .i64 d.size, .slice A d.secs.length c, .slice P d.pend.length cp, .int .i64 d.left] 25)) w.heap.size A c P cp d := ⟨Blk.new _ _ _, h.keep (Keeps.alloc _ _)⟩
theorem Var.alloc (h : Var w g A c P cp d) (o : Obj) : Var (w.alloc o) g A c P cp d := ⟨h.blk.alloc o, h.dk.keep (Keeps.alloc _ _)⟩
theorem Var.facts (h : Var w g A c P cp d) :
    w.cell? ⟨g, 0, none⟩ = some (.int .i64 d.size) ∧ w.cell? ⟨g, 1, none⟩ = some (.slice A d.secs.length c) ∧ w.cell? ⟨g, 2, none⟩ = some (.slice P d.pend.length cp) ∧ w.cell? ⟨g, 3, none⟩ = some (.int .i64 d.left) ∧
      w.frozen? ⟨g, 0, none⟩ = false ∧ w.frozen? ⟨g, 1, none⟩ = false ∧ w.frozen? ⟨g, 2, none⟩ = false ∧ w.frozen? ⟨g, 3, none⟩ = false :=
  ⟨h.blk.cell (j := 0) rfl, h.blk.cell (j := 1) rfl, h.blk.cell (j := 2) rfl, h.blk.cell (j := 3) rfl, h.blk.frozen 0, h.blk.frozen 1, h.blk.frozen 2, h.blk.frozen 3⟩
/-- The world where a variable has been overwritten. -/
def put4 (w : World) (g : Nat) (A : Option Addr) (c : Nat) (P : Option Addr) (cp : Nat) (d : Dk) : World :=
  (((w.setCell ⟨g, 0, none⟩ (.int .i64 d.size)).setCell ⟨g, 1, none⟩ (.slice A d.secs.length c)).setCell ⟨g, 2, none⟩ (.slice P d.pend.length cp)).setCell ⟨g, 3, none⟩ (.int .i64 d.left)
theorem Var.assign (h : Var w g A c P cp d) (h' : DskP w (.slice A' d'.secs.length c') (.slice P' d'.pend.length cp') d') : Var (put4 w g A' c' P' cp' d') g A' c' P' cp' d' :=
  ⟨(((h.blk.set 0 _).set 1 _).set 2 _).set 3 _, h'.set4 h.blk⟩
theorem Var.other (h : Var w g A c P cp d) (k : Var w g' A' c' P' cp' d') (hne : g ≠ g') {A2 P2 : Option Addr} {c2 cp2 : Nat} {d2 : Dk} : Var (put4 w g' A2 c2 P2 cp2 d2) g A c P cp d :=
  ⟨(((h.blk.far (p := ⟨g', 0, none⟩) hne _).far (p := ⟨g', 1, none⟩) hne _).far (p := ⟨g', 2, none⟩) hne _).far (p := ⟨g', 3, none⟩) hne _, h.dk.set4 k.blk⟩
theorem put4_below {B : Nat} {a : World} (h : Below B a w) (hg : B ≤ g) : Below B a (put4 w g A c P cp d) := 
  (((h.setCell (p := ⟨g, 0, none⟩) hg _).setCell (p := ⟨g, 1, none⟩) hg _).setCell (p := ⟨g, 2, none⟩) hg _).setCell (p := ⟨g, 3, none⟩) hg _
theorem Var.left (h : Var w g A c P cp d) (l : Int) (h0 : -9223372036854775808 ≤ l) (h1 : l ≤ 9223372036854775807) : Var (w.setCell ⟨g, 3, none⟩ (.int .i64 l)) g A c P cp { d with left := l } :=
  ⟨h.blk.set 3 _, by have := h.dk.set3 h.blk 3 (.int .i64 l); exact ⟨this.sec, this.pen, this.z0, this.z1, h0, h1⟩⟩
theorem Var.far3 (h : Var w g A c P cp d) (k : Var w g' A' c' P' cp' d') (hne : g ≠ g') (j : Nat) (u : Value) : Var (w.setCell ⟨g', j, none⟩ u) g A c P cp d :=
  ⟨h.blk.far (p := ⟨g', j, none⟩) hne _, h.dk.set3 k.blk j u⟩
end
theorem DskP.form {w : World} {vs vp : Value} {d : Dk} (h : DskP w vs vp d) : ∃ A c P cp, vs = .slice A d.secs.length c ∧ vp = .slice P d.pend.length cp ∧ d.secs.length ≤ c ∧ d.pend.length ≤ cp ∧ c ≤ 9223372036854775807 ∧ cp ≤ 9223372036854775807 := by
  obtain ⟨A, c, rfl, h1, h2⟩ := h.sec.form
  obtain ⟨P, cp, rfl, h3, h4⟩ := h.pen.form
  exact ⟨A, c, P, cp, rfl, rfl, h1, h3, h2, h4⟩
end Go.Proofs.Ytockmhhiomdlkaa

namespace Go.Proofs.Ytockmhhiomdlkaa
set_option linter.unusedSimpArgs false
set_option linter.unusedVariables false
open Go.RowKit
attribute [local go_sem] Oper.semAt_some

theorem mem_backL' {p : List (Int × ByteArray)} {k j : Nat} (hj : j < p.length) (hk : p.length - 1 - j < k) : (j, p[j]) ∈ backL p k := by
  unfold backL
  refine List.mem_map.2 ⟨p.length - 1 - j, List.mem_range.2 hk, ?_⟩
  have e : p.length - 1 - (p.length - 1 - j) = j := by omega
  rw [e, List.getElem?_eq_getElem hj]; rfl
theorem mem_backL {p : List (Int × ByteArray)} {j : Nat} (hj : j < p.length) : (j, p[j]) ∈ backL p p.length := mem_backL' hj (by omega)
theorem rd_val {d : Dk} {i : Nat} (hk : chk d = 0) (hi : i < d.secs.length) : rdB d i = (d.pend.foldl putW d.secs)[i]'(by rw [foldl_putW_length]; exact hi) :=
  (rd_in hk hi (show i < (cur d).length by rw [cur_length]; exact hi)).2
theorem rd_none {d : Dk} {i : Nat} (hv : Valid d) (hk : chk d = 0) (hi : i < d.secs.length) (hn : ∀ w ∈ d.pend, w.1 ≠ (i : Int)) : rdB d i = d.secs[i] := by
  rw [rd_val hk hi]
  exact back_none hi hn (fun w hw => (hv.ws w hw).1)
theorem rd_hit {d : Dk} {i j : Nat} (hv : Valid d) (hk : chk d = 0) (hi : i < d.secs.length) (hj : j < d.pend.length) (h : d.pend[j].1 = (i : Int)) (hn : ∀ m, j < m → (hm : m < d.pend.length) → d.pend[m].1 ≠ (i : Int)) : rdB d i = d.pend[j].2 := by
  rw [rd_val hk hi]
  exact back_hit hj hi h hn (fun w hw => (hv.ws w hw).1)

/-- Block B holds a pending write. -/
def Boxed2 (W : World) (B : Nat) (x : Int × ByteArray) : Prop := Blk W B 78 #[.int .i64 x.1, .string x.2]
theorem Boxed2.own {W W' : World} {B : Nat} {x : Int × ByteArray} (h : Boxed2 W B x) {row : Option Nat} (hg : W.grownBy W' row) (hr : ∀ r, row = some r → ∃ o : Obj, W.heap[r]? = some o ∧ o.isCells = false) : Boxed2 W' B x := by
  refine (hg.block B (Blk.lt h) (fun e => ?_)).trans h
  obtain ⟨o, ho, hc⟩ := hr B e.symm
  have := (show W.heap[B]? = _ from h).symm.trans ho
  injection this with this
  subst this
  cases hc

set_option maxRecDepth 100000 in
set_option maxHeartbeats 2000000 in
theorem read_in (W : World) (vs vp : Value) (d : Dk) (h : DskP W vs vp d) (i : Nat) (hk : chk d = 0) (hi : i < d.secs.length) (_hpl : d.pend.length ≤ 100000) :
    Calls Try.prog 32 #[.agg #[.int .i64 d.size, vs, vp, .int .i64 d.left], .int .i64 i] W (RdPost W (rdB d i) 0) := by
  obtain ⟨A, c, rfl, hc, hm⟩ := h.sec.form
  obtain ⟨P, cp, rfl, hcp, hmp⟩ := h.pen.form
  have hB := RdBoxes.new W d (.slice A d.secs.length c) (.slice P d.pend.length cp) i
  have V := Lib.hid (chk_zero.1 hk)
  have v4 := V.out.n2
  have c1 := check_any _ _ _ d (h.keep (Keeps.of_below hB.bl))
  rw [hk] at c1
  have c2 := fun w => has_any d.size d.left i A d.secs.length c (.slice P d.pend.length cp) hc hm w
  rw [show hasB d.secs.length i = true from decide_eq_true (by omega)] at c2
  have C1 := Lib.hid c1
  have C2 := Lib.hid c2
  have HK := Lib.hid hk
  clear c1 c2 hk
  refine (callsIn_wide (n := 4)).1 ?_
  refine callsIn_of_wp_marks Try.func32 rfl trivial ?_ rfl
  simp only [Try.ntmps32, List.size_toArray, List.length_cons, List.length_nil, Nat.reduceAdd, Nat.reduceSub, Array.replicate_succ, Array.replicate_zero, List.push_toArray, List.append_toArray, List.nil_append, List.cons_append]
  gi_wp2_with (refine ⟨trivial, ?_⟩; gi_at_call 53)
  refine (callsIn_wide.2 C1.out).mono ?_
  clear C1
  simp only [show W.heap.size + 1 + 1 = W.heap.size + 2 from rfl, show W.heap.size + 2 + 1 = W.heap.size + 3 from rfl]
  generalize (((W.alloc (.cells #[.int .i64 d.size, .slice A d.secs.length c, .slice P d.pend.length cp, .int .i64 d.left] 25)).alloc (.cells #[.int .i64 (i : Int)] 3)).alloc (.cells #[.string ⟨#[]⟩] 9)).alloc (.cells #[.int .i64 0] 29) = w1 at *
  rintro e w2 ⟨rfl, hb2⟩
  have hB2 := hB.keep hb2
  clear hB hb2
  obtain ⟨q0, q1, q2, q3, q4, q5, q6, f5, f6⟩ := hB2.facts
  gi_wp2_with (refine ⟨trivial, ?_⟩; gi_at_call 57)
  refine (callsIn_wide.2 (C2.out w2)).mono ?_
  clear C2 q0 q1 q2 q3 q4 q5 q6 f5 f6
  rintro e w3 ⟨rfl, hb3⟩
  have hB3 := hB2.keep hb3
  clear hB2 hb3
  obtain ⟨q0, q1, q2, q3, q4, q5, q6, f5, f6⟩ := hB3.facts
  gi_wp2_with (refine ⟨trivial, ?_⟩; gi_at_call 58; refine (callsIn_wide.2 (backward_any _ P d.pend.length cp rfl w3)).mono ?_; rintro e w4 ⟨rfl, rfl⟩)
  clear q0 q1 q2 q3 q4 q5 q6 f5 f6
  have hB4 := hB3.keep ((Below.refl _ w3).alloc (Nat.le_refl _) (.cells #[.slice P d.pend.length cp] 23))
  have hbx := Blk.new w3 #[.slice P d.pend.length cp] 23
  have hs4 : (w3.alloc (.cells #[.slice P d.pend.length cp] 23)).heap.size = w3.heap.size + 1 := by simp
  have hs3 := hB3.re.lt
  obtain ⟨w4, hw4⟩ : ∃ w4, w3.alloc (.cells #[.slice P d.pend.length cp] 23) = w4 := ⟨_, rfl⟩
  rw [hw4] at hB4 hbx hs4 ⊢
  clear hw4 hB3
  have hsz4 := hB4.bl.size
  refine wpIn_rangeFunc_ownH (α := BackT) rfl (by omega) (gf := 79) (lb := #[.pointer (some ⟨w3.heap.size, 0, none⟩)]) rfl trivial (enters_of Try.func79 (by kernel_rfl) rfl)
    (back_stops 3 (by omega) w3.heap.size w4.heap.size P cp d.pend W w4 h.pen hsz4 hB4.bl hbx (by omega) (Nat.le_refl _)) belowK_t (belowK_b (Nat.le_refl _)) (Below.refl _ _) (fun _ => rfl)
    (fun pre X => (∀ x ∈ pre, x.2.1 ≠ (i : Int)) ∧ RdBoxes W d (.slice A d.secs.length c) (.slice P d.pend.length cp) i ⟨#[]⟩ 0 X ∧ w4.heap.size ≤ X.heap.size)
    (fun cd pre X => cd = .ret ∧ ∃ ini last, pre = ini ++ [last] ∧ (∀ x ∈ ini, x.2.1 ≠ (i : Int)) ∧ last.2.1 = (i : Int) ∧ RdBoxes W d (.slice A d.secs.length c) (.slice P d.pend.length cp) i last.2.2 0 X)
    (fun s X Y row hs hg hr => ⟨hs.1, hs.2.1.own hg (fun r e => by have := (hr r e).1; omega), Nat.le_trans hs.2.2 hg.size⟩)
    (fun cd s X Y row hs hg hr => by obtain ⟨e0, ini, last, e1, e2, e3, e4⟩ := hs; exact ⟨e0, ini, last, e1, e2, e3, e4.own hg (fun r e => by have := (hr r e).1; omega)⟩)
    ⟨by simp, hB4, Nat.le_refl _⟩
    (fun x a' X => ∃ Bx, W.heap.size + 4 ≤ Bx ∧ Boxed2 X Bx x.2 ∧ a' = { tmps := #[.agg #[.int .i64 d.size, .slice A d.secs.length c, .slice P d.pend.length cp, .int .i64 d.left], .int .i64 (i : Int), .pointer (some ⟨W.heap.size, 0, none⟩), .pointer (some ⟨W.heap.size + 1, 0, none⟩), .pointer (some ⟨W.heap.size + 2, 0, none⟩), .pointer (some ⟨W.heap.size + 3, 0, none⟩), undef, .pointer (some ⟨Bx, 0, none⟩), .agg #[.int .i64 d.size, .slice A d.secs.length c, .slice P d.pend.length cp, .int .i64 d.left], .int .i64 0, .bool false, .agg #[.int .i64 d.size, .slice A d.secs.length c, .slice P d.pend.length cp, .int .i64 d.left], .int .i64 (i : Int), .bool true, .bool false, .pointer (some ⟨W.heap.size, 2, none⟩), .slice P d.pend.length cp, .func (.func 79) #[] #[.pointer (some ⟨w3.heap.size, 0, none⟩)], .int .i64 (x.1 : Int), .agg #[.int .i64 x.2.1, .string x.2.2], undef, undef, undef, undef, undef, undef, undef, undef, undef, undef, undef], defers := [] })
    (fun x a' _ X Y row hs hg hr => by obtain ⟨Bx, h1, h2, h3⟩ := hs; exact ⟨Bx, h1, h2.own hg (fun r e => (hr r e).2), h3⟩)
    ?assign ?body ?done ?stop
  case assign =>
    rintro l pre x X K ⟨hp, hBX, hXs⟩ hKK
    simp only [backEnc]
    gi_wp2
    exact hKK _ _ ((KeepsOthers.alloc _ _).from _) ((Below.refl _ X).alloc hXs _) ⟨hp, hBX.keep ((Below.refl _ X).alloc (Nat.le_refl _) _), by simp; omega⟩ ⟨X.heap.size, by have := hBX.re.lt; omega, Blk.new X _ _, rfl⟩
  case body =>
    rintro l pre x a' X hl ⟨r, hr⟩ ⟨hp, hBX, hXs⟩ ⟨Bx, hBx, bX, rfl⟩ hlt
    have x0 := Blk.cell bX (j := 0) rfl
    have x1 := Blk.cell bX (j := 1) rfl
    obtain ⟨q0, q1, q2, q3, q4, q5, q6, f5, f6⟩ := hBX.facts
    by_cases hx : x.2.1 = (i : Int)
    · have hb : (x.2.1 == (i : Int)) = true := by simp [hx]
      have HX := Lib.hid hx
      clear hx
      gi_wp2
      exact ⟨((KeepsOthers.setCell _ _ _).trans (KeepsOthers.setCell _ _ _)).from _, rfl, pre, x, rfl, hp, HX.out, hBX.set _ _⟩
    · have hb : (x.2.1 == (i : Int)) = false := by simp [hx]
      have HX := Lib.hid hx
      clear hx
      gi_wp2
      exact ⟨KeepsFrom.refl _ _, Below.refl _ _, fun y hy => (List.mem_append.1 hy).elim (hp y) (fun e => by cases List.mem_singleton.1 e; exact HX.out), hBX, hXs⟩
  case done =>
    rintro D ys X hD rfl ⟨hne, hBX, hXs⟩ hKd
    have HE := Lib.hid (rd_none (chk_zero.1 HK.out) HK.out hi (fun w hw => by
      obtain ⟨j, hj, rfl⟩ := List.getElem_of_mem hw
      have := hne _ (mem_backL hj)
      simpa using this))
    obtain ⟨b, off, rfl, a1⟩ := (h.sec.keep (Keeps.of_below hBX.bl)).get hi
    clear hne
    generalize d.secs[i] = s at *
    obtain ⟨q0, q1, q2, q3, q4, q5, q6, f5, f6⟩ := hBX.facts
    have hB5 := hBX.set s 0
    have hK5 := ((KeepsOthers.setCell X ⟨W.heap.size + 2, 0, none⟩ (.string s)).trans (KeepsOthers.setCell _ ⟨W.heap.size + 3, 0, none⟩ (.int .i64 0))).same D _ hKd rfl
    gi_wp2
    clear q0 q1 q2 q3 q4 q5 q6 f5 f6
    generalize (X.setCell ⟨W.heap.size + 2, 0, none⟩ (.string s)).setCell ⟨W.heap.size + 3, 0, none⟩ (.int .i64 0) = X5 at *
    have hB6 := hB5.own (grownBy_putObj' X5 D (.deferred none)) (fun r e => by cases e; omega)
    refine ⟨by simp, .inl ⟨_, _, rfl, run_takeDeferred hK5, ?_⟩⟩
    obtain ⟨q0, q1, q2, q3, q4, q5, q6, f5, f6⟩ := hB6.facts
    refine ⟨.tuple #[.string s, .int .i64 0], ?_, RdPost.mk rfl HE.out.symm hB6.bl⟩
    simp [results, Try.f32, go_sem, q5, q6]
  case stop =>
    rintro D cd pre X hD ⟨k, hk, rfl⟩ ⟨rfl, ini, last, e1, e2, e3, hBX⟩ hKd
    rw [backL_succ] at e1
    obtain ⟨rfl, e5⟩ := List.append_inj' e1 rfl
    have hlt2 : d.pend.length - 1 - k < d.pend.length := by omega
    have hlast : last = (d.pend.length - 1 - k, d.pend[d.pend.length - 1 - k]) := by
      rw [List.getElem?_eq_getElem hlt2] at e5
      simpa using e5.symm
    have HE := Lib.hid (rd_hit (chk_zero.1 HK.out) HK.out hi hlt2 (by rw [hlast] at e3; exact e3) (fun j hj hjl => by
      have := e2 _ (mem_backL' (k := k) hjl (by omega))
      simpa using this))
    rw [hlast] at hBX
    clear e1 e2 e3 e5 hlast
    generalize d.pend[d.pend.length - 1 - k] = w at *
    gi_wp2
    have hB6 := hBX.own (grownBy_putObj' X D (.deferred none)) (fun r e => by cases e; omega)
    refine ⟨by simp, .inl ⟨_, _, rfl, run_takeDeferred hKd, ?_⟩⟩
    obtain ⟨q0, q1, q2, q3, q4, q5, q6, f5, f6⟩ := hB6.facts
    refine ⟨.tuple #[.string w.2, .int .i64 0], ?_, RdPost.mk rfl HE.out.symm hB6.bl⟩
    simp [results, Try.f32, go_sem, q5, q6]
end Go.Proofs.Ytockmhhiomdlkaa
