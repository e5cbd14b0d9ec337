/- disk.Write. -/
import Derived.Test.YtpihapkclnhklaaDkConcat
namespace Go.Proofs.Ytpihapkclnhklaa
open Go.RowKit

theorem has_out {n : Nat} {i : Int} (h : hasB n i = false) : i < 0 ∨ (n : Int) ≤ i := hasB_false h
theorem has_in {n : Nat} {i : Int} (h : hasB n i = true) : ¬ (i < 0 ∨ (n : Int) ≤ i) := by have := hasB_true h; omega

set_option maxRecDepth 100000 in
set_option maxHeartbeats 4000000 in
theorem write_any (W : World) (vs vp : Value) (d : Dk) (h : DskP W vs vp d) (hn : d.pend.length ≤ 100000) (i : Int) (hi0 : -9223372036854775808 ≤ i) (hi1 : i ≤ 9223372036854775807) (s : ByteArray) :
    Calls Try.prog 18 #[.agg #[.int .i64 d.size, vs, vp, .int .i64 d.left], .int .i64 i, .string s] W (DkPost W (wrD d i s) (wrE d i s)) := by
  obtain ⟨A, c, rfl, hc, hm⟩ := h.sec.form
  obtain ⟨P, cp, rfl, hcp, hmp⟩ := h.pen.form
  have hbk0 := Blk.new W #[.int .i64 d.size, .slice A d.secs.length c, .slice P d.pend.length cp, .int .i64 d.left] 26
  have hbk := hbk0.alloc (.cells #[.int .i64 0, .slice none 0 0, .slice none 0 0, .int .i64 0] 26)
  have hbr := Blk.new (W.alloc (.cells #[.int .i64 d.size, .slice A d.secs.length c, .slice P d.pend.length cp, .int .i64 d.left] 26)) #[.int .i64 0, .slice none 0 0, .slice none 0 0, .int .i64 0] 26
  rw [World.size_alloc] at hbr
  have hd1 := ((Below.refl W.heap.size W).alloc (Nat.le_refl _) (.cells #[.int .i64 d.size, .slice A d.secs.length c, .slice P d.pend.length cp, .int .i64 d.left] 26)).alloc (by simp) (.cells #[.int .i64 0, .slice none 0 0, .slice none 0 0, .int .i64 0] 26)
  have hD1 := h.keep (Keeps.of_below hd1)
  clear hbk0
  go_enter Try.func18, Try.ntmps18
  go_upto_region 1 with (fail)
  generalize (W.alloc (.cells #[.int .i64 d.size, .slice A d.secs.length c, .slice P d.pend.length cp, .int .i64 d.left] 26)).alloc (.cells #[.int .i64 0, .slice none 0 0, .slice none 0 0, .int .i64 0] 26) = w1 at *
  obtain ⟨q0, q1, q2, q3⟩ := box4 hbk (Below.refl _ _)
  have c1 := check_any _ _ _ d hD1
  go_wp2_with fail
  refine c1.mono ?_
  clear c1 q0 q1 q2 q3
  rintro e w2 ⟨rfl, hb2⟩
  have hd2 := hd1.trans (hb2.mono hd1.size)
  have hbk2 := hbk.keep hb2
  have hbr2 := hbr.keep hb2
  have hD2 := hD1.keep (Keeps.of_below hb2)
  clear hbk hbr hd1 hD1 hb2
  by_cases hk : chk d = 0
  · have HK := Lib.hid hk
    rw [hk]
    clear hk
    obtain ⟨q0, q1, q2, q3⟩ := box4 hbk2 (Below.refl _ _)
    have c2 := has_any d.size d.left i A d.secs.length c (.slice P d.pend.length cp) hc hm w2
    go_wp2_with fail
    refine c2.mono ?_
    clear c2 q0 q1 q2 q3
    rintro e w3 ⟨rfl, hb3⟩
    have hd3 := hd2.trans (hb3.mono hd2.size)
    have hbk3 := hbk2.keep hb3
    have hbr3 := hbr2.keep hb3
    have hD3 := hD2.keep (Keeps.of_below hb3)
    clear hbk2 hbr2 hd2 hD2 hb3
    obtain ⟨t0, t1, t2, t3, r0, r1, r2, r3⟩ := box8 hbr3 (Below.refl _ _)
    obtain ⟨q0, q1, q2, q3, s0, s1, s2, s3⟩ := box8 hbk3 (Below.refl _ _)
    have hdx := set4_below hd3 (show W.heap.size ≤ W.heap.size + 1 by omega) (.int .i64 0) (.slice none 0 0) (.slice none 0 0) (.int .i64 0)
    have hx := hbr3.set4 (.int .i64 0) (.slice none 0 0) (.slice none 0 0) (.int .i64 0)
    cases hout : hasB d.secs.length i
    · have HE := Lib.hid (wr_out (s := s) HK.out (has_out hout))
      clear hout
      go_wp2
      clear r0 r1 r2 r3 t0 t1 t2 t3 q0 q1 q2 q3 s0 s1 s2 s3
      generalize ((((w3.setCell ⟨W.heap.size + 1, 0, none⟩ (.int .i64 0)).setCell ⟨W.heap.size + 1, 1, none⟩ (.slice none 0 0)).setCell ⟨W.heap.size + 1, 2, none⟩ (.slice none 0 0)).setCell ⟨W.heap.size + 1, 3, none⟩ (.int .i64 0)) = wx at *
      obtain ⟨k0, k1, k2, k3⟩ := box4 hx (Below.refl _ _)
      exact bodyPost_ret (v := .tuple #[.agg #[.int .i64 0, .slice none 0 0, .slice none 0 0, .int .i64 0], .int .i64 2]) (by simp [results, Try.results18, go_sem, k0, k1, k2, k3]) rfl (DkPost.mk HE.out.1.symm HE.out.2.symm rfl rfl (Dsk.nodisk _) hdx)
    · have HO := Lib.hid (has_in hout)
      have hin := hasB_true hout
      clear hout
      by_cases hsz : (s.size : Int) = d.size
      · have HZ := Lib.hid hsz
        have hzb : ((s.size : Int) != d.size) = false := by simp [hsz]
        clear hsz
        by_cases hl : d.left = 0
        · have HE := Lib.hid (wr_lost HK.out HO.out HZ.out hl)
          have hb : (d.left == 0) = true := by simp [hl]
          have hx := hbr3.set4 (.int .i64 d.size) (.slice A d.secs.length c) (.slice P d.pend.length cp) (.int .i64 d.left)
          have hdx := set4_below hd3 (show W.heap.size ≤ W.heap.size + 1 by omega) (.int .i64 d.size) (.slice A d.secs.length c) (.slice P d.pend.length cp) (.int .i64 d.left)
          clear hl
          go_wp2
          clear r0 r1 r2 r3 t0 t1 t2 t3 q0 q1 q2 q3 s0 s1 s2 s3
          generalize (((w3.setCell ⟨W.heap.size + 1, 0, none⟩ (.int .i64 d.size)).setCell ⟨W.heap.size + 1, 1, none⟩ (.slice A d.secs.length c)).setCell ⟨W.heap.size + 1, 2, none⟩ (.slice P d.pend.length cp)).setCell ⟨W.heap.size + 1, 3, none⟩ (.int .i64 d.left) = wx at *
          obtain ⟨k0, k1, k2, k3⟩ := box4 hx (Below.refl _ _)
          exact bodyPost_ret (v := .tuple #[.agg #[.int .i64 d.size, .slice A d.secs.length c, .slice P d.pend.length cp, .int .i64 d.left], .int .i64 20]) (by simp [results, Try.results18, go_sem, k0, k1, k2, k3]) rfl (DkPost.mk HE.out.1.symm HE.out.2.symm rfl rfl (h.keep (Keeps.of_below hdx)) hdx)
        · have HE := Lib.hid (wr_ok HK.out HO.out HZ.out hl)
          have hb : (d.left == 0) = false := by simp [hl]
          have C3 := Lib.hid (less_any d.left h.f0 h.f1)
          have hlz := lessZ_range h.f0 h.f1
          have hlt0 := hbk3.lt
          have hlt1 := hbr3.lt
          obtain ⟨hpc, hpr⟩ := wrs_cells hD3.pen
          have HPR := Lib.hid hpr
          clear hl hx hdx hpr
          -- the two slices
          have g1 := Blk.new w3 #[.int .i64 i, .string s] 45
          have g1' := g1.alloc (.cells #[.slice P d.pend.length cp, .slice (some ⟨w3.heap.size, 0, none⟩) 1 1] 24)
          have g2 := Blk.new (w3.alloc (.cells #[.int .i64 i, .string s] 45)) #[.slice P d.pend.length cp, .slice (some ⟨w3.heap.size, 0, none⟩) 1 1] 24
          rw [World.size_alloc] at g2
          have hd4 := (hd3.alloc hd3.size (.cells #[.int .i64 i, .string s] 45)).alloc (by have := hd3.size; simp; omega) (.cells #[.slice P d.pend.length cp, .slice (some ⟨w3.heap.size, 0, none⟩) 1 1] 24)
          have hbk4 := (hbk3.alloc (.cells #[.int .i64 i, .string s] 45)).alloc (.cells #[.slice P d.pend.length cp, .slice (some ⟨w3.heap.size, 0, none⟩) 1 1] 24)
          have hbr4 := (hbr3.alloc (.cells #[.int .i64 i, .string s] 45)).alloc (.cells #[.slice P d.pend.length cp, .slice (some ⟨w3.heap.size, 0, none⟩) 1 1] 24)
          have hpc4 := (hpc.keep (Keeps.alloc w3 (.cells #[.int .i64 i, .string s] 45))).keep (Keeps.alloc _ (.cells #[.slice P d.pend.length cp, .slice (some ⟨w3.heap.size, 0, none⟩) 1 1] 24))
          have hs4 : ((w3.alloc (.cells #[.int .i64 i, .string s] 45)).alloc (.cells #[.slice P d.pend.length cp, .slice (some ⟨w3.heap.size, 0, none⟩) 1 1] 24)).heap.size = w3.heap.size + 2 := by simp
          have cc := concat_any ((w3.alloc (.cells #[.int .i64 i, .string s] 45)).alloc (.cells #[.slice P d.pend.length cp, .slice (some ⟨w3.heap.size, 0, none⟩) 1 1] 24)) (w3.heap.size + 1) w3.heap.size P cp d.pend i s hn hcp hmp (g2.cell (j := 0) rfl) (g2.cell (j := 1) rfl) hpc4 (by simpa using g1'.cellsAt)
          rw [hs4] at cc
          have CC := Lib.hid cc
          clear cc hs4 hpc hpc4 g1 g1' g2
          go_wp2_with fail
          refine CC.out.mono ?_
          clear CC q0 q1 q2 q3 s0 s1 s2 s3 r0 r1 r2 r3 t0 t1 t2 t3
          generalize (w3.alloc (.cells #[.int .i64 i, .string s] 45)).alloc (.cells #[.slice P d.pend.length cp, .slice (some ⟨w3.heap.size, 0, none⟩) 1 1] 24) = w4 at *
          rintro e w5 ⟨v5, rfl, hownW, hb5⟩
          have hd5 := hd4.trans (hb5.mono (by have := hd3.size; omega))
          have hbk5 := hbk4.below hb5 (by omega)
          have hbr5 := hbr4.below hb5 (by omega)
          clear hd4 hbk4 hbr4 hb5
          obtain ⟨t0, t1, t2, t3, r0, r1, r2, r3⟩ := box8 hbr5 (Below.refl _ _)
          obtain ⟨q0, q1, q2, q3, s0, s1, s2, s3⟩ := box8 hbk5 (Below.refl _ _)
          have hls : -9223372036854775808 ≤ d.left ∧ d.left ≤ 9223372036854775807 := ⟨h.f0, h.f1⟩
          obtain ⟨A4, c4, rfl⟩ := own_form hownW
          rw [show (d.pend ++ [(i, s)]).length = d.pend.length + 1 by simp] at hownW ⊢
          go_wp2_with (go_at_call 36; refine (C3.out _).mono ?_; rintro e w' ⟨rfl, rfl⟩)
          have hx := ((hbr5.far (p := ⟨W.heap.size, 2, none⟩) (by simp) (.slice A4 (d.pend.length + 1) c4)).far (p := ⟨W.heap.size, 3, none⟩) (by simp) (.int .i64 (lessZ d.left))).set4 (.int .i64 d.size) (.slice A d.secs.length c) (.slice A4 (d.pend.length + 1) c4) (.int .i64 (lessZ d.left))
          have hdx := set4_below ((hd5.setCell (p := ⟨W.heap.size, 2, none⟩) (Nat.le_refl _) (.slice A4 (d.pend.length + 1) c4)).setCell (p := ⟨W.heap.size, 3, none⟩) (Nat.le_refl _) (.int .i64 (lessZ d.left))) (show W.heap.size ≤ W.heap.size + 1 by omega) (.int .i64 d.size) (.slice A d.secs.length c) (.slice A4 (d.pend.length + 1) c4) (.int .i64 (lessZ d.left))
          have hvx := (((((OwW.far hownW (p := ⟨W.heap.size, 2, none⟩) (show W.heap.size < w3.heap.size + 2 by omega) (.slice A4 (d.pend.length + 1) c4)).far (p := ⟨W.heap.size, 3, none⟩) (show W.heap.size < w3.heap.size + 2 by omega) (.int .i64 (lessZ d.left))).far (p := ⟨W.heap.size + 1, 0, none⟩) (show W.heap.size + 1 < w3.heap.size + 2 by omega) (.int .i64 d.size)).far (p := ⟨W.heap.size + 1, 1, none⟩) (show W.heap.size + 1 < w3.heap.size + 2 by omega) (.slice A d.secs.length c)).far (p := ⟨W.heap.size + 1, 2, none⟩) (show W.heap.size + 1 < w3.heap.size + 2 by omega) (.slice A4 (d.pend.length + 1) c4)).far (p := ⟨W.heap.size + 1, 3, none⟩) (show W.heap.size + 1 < w3.heap.size + 2 by omega) (.int .i64 (lessZ d.left))
          clear hownW hbk5 hbr5 hd5 r0 r1 r2 r3 t0 t1 t2 t3 q0 q1 q2 q3 s0 s1 s2 s3
          generalize ((((((w5.setCell ⟨W.heap.size, 2, none⟩ (.slice A4 (d.pend.length + 1) c4)).setCell ⟨W.heap.size, 3, none⟩ (.int .i64 (lessZ d.left))).setCell ⟨W.heap.size + 1, 0, none⟩ (.int .i64 d.size)).setCell ⟨W.heap.size + 1, 1, none⟩ (.slice A d.secs.length c)).setCell ⟨W.heap.size + 1, 2, none⟩ (.slice A4 (d.pend.length + 1) c4)).setCell ⟨W.heap.size + 1, 3, none⟩ (.int .i64 (lessZ d.left))) = wx at *
          obtain ⟨k0, k1, k2, k3⟩ := box4 hx (Below.refl _ _)
          refine bodyPost_ret (v := .tuple #[.agg #[.int .i64 d.size, .slice A d.secs.length c, .slice A4 (d.pend.length + 1) c4, .int .i64 (lessZ d.left)], .int .i64 0]) (by simp [results, Try.results18, go_sem, k0, k1, k2, k3]) rfl (DkPost.mk HE.out.1.symm HE.out.2.symm rfl rfl ⟨h.sec.keep (Keeps.of_below hdx), ?_, h.z0, h.z1, hlz.1, hlz.2⟩ hdx)
          refine OwW.wrs (v := .slice A4 (d.pend.length + 1) c4) hvx fun x hx => ?_
          rcases List.mem_append.1 hx with hx | hx
          · exact HPR.out x hx
          · cases List.mem_singleton.1 hx
            exact ⟨hi0, hi1⟩
      · have HE := Lib.hid (wr_mis HK.out HO.out hsz)
        have hzb : ((s.size : Int) != d.size) = true := by simp [hsz]
        clear hsz
        go_wp2
        clear r0 r1 r2 r3 t0 t1 t2 t3 q0 q1 q2 q3 s0 s1 s2 s3
        generalize ((((w3.setCell ⟨W.heap.size + 1, 0, none⟩ (.int .i64 0)).setCell ⟨W.heap.size + 1, 1, none⟩ (.slice none 0 0)).setCell ⟨W.heap.size + 1, 2, none⟩ (.slice none 0 0)).setCell ⟨W.heap.size + 1, 3, none⟩ (.int .i64 0)) = wx at *
        obtain ⟨k0, k1, k2, k3⟩ := box4 hx (Below.refl _ _)
        exact bodyPost_ret (v := .tuple #[.agg #[.int .i64 0, .slice none 0 0, .slice none 0 0, .int .i64 0], .int .i64 11]) (by simp [results, Try.results18, go_sem, k0, k1, k2, k3]) rfl (DkPost.mk HE.out.1.symm HE.out.2.symm rfl rfl (Dsk.nodisk _) hdx)
  · have HE := Lib.hid (wr_bad (i := i) (s := s) hk)
    have hb : (chk d != 0) = true := by simp [hk]
    clear hk
    have hdx := set4_below hd2 (show W.heap.size ≤ W.heap.size + 1 by omega) (.int .i64 0) (.slice none 0 0) (.slice none 0 0) (.int .i64 0)
    have hx := hbr2.set4 (.int .i64 0) (.slice none 0 0) (.slice none 0 0) (.int .i64 0)
    obtain ⟨t0, t1, t2, t3, r0, r1, r2, r3⟩ := box8 hbr2 (Below.refl _ _)
    generalize chk d = full at *
    go_wp2
    clear r0 r1 r2 r3 t0 t1 t2 t3
    generalize ((((w2.setCell ⟨W.heap.size + 1, 0, none⟩ (.int .i64 0)).setCell ⟨W.heap.size + 1, 1, none⟩ (.slice none 0 0)).setCell ⟨W.heap.size + 1, 2, none⟩ (.slice none 0 0)).setCell ⟨W.heap.size + 1, 3, none⟩ (.int .i64 0)) = wx at *
    obtain ⟨k0, k1, k2, k3⟩ := box4 hx (Below.refl _ _)
    exact bodyPost_ret (v := .tuple #[.agg #[.int .i64 0, .slice none 0 0, .slice none 0 0, .int .i64 0], .int .i64 1]) (by simp [results, Try.results18, go_sem, k0, k1, k2, k3]) rfl (DkPost.mk HE.out.1.symm HE.out.2.symm rfl rfl (Dsk.nodisk _) hdx)
end Go.Proofs.Ytpihapkclnhklaa
