/- disk.Sync. -/
import Derived.Test.YtpihapkclnhklaaDkSettle
namespace Go.Proofs.Ytpihapkclnhklaa
open Go.RowKit

set_option maxRecDepth 100000 in
set_option maxHeartbeats 2000000 in
theorem sync_any (W : World) (vs vp : Value) (d : Dk) (h : DskP W vs vp d) :
    Calls Try.prog 22 #[.agg #[.int .i64 d.size, vs, vp, .int .i64 d.left]] W (DkPost W (syD d) (syE d)) := by
  obtain ⟨A, c, rfl, hc, hm⟩ := h.sec.form
  obtain ⟨P, cp, rfl, hcp, hmp⟩ := h.pen.form
  have hbk0 := Blk.new W #[.int .i64 d.size, .slice A d.secs.length c, .slice P d.pend.length cp, .int .i64 d.left] 26
  have hbk := hbk0.alloc (.cells #[.int .i64 0, .slice none 0 0, .slice none 0 0, .int .i64 0] 26)
  have hbr := Blk.new (W.alloc (.cells #[.int .i64 d.size, .slice A d.secs.length c, .slice P d.pend.length cp, .int .i64 d.left] 26)) #[.int .i64 0, .slice none 0 0, .slice none 0 0, .int .i64 0] 26
  rw [World.size_alloc] at hbr
  have hd1 := ((Below.refl W.heap.size W).alloc (Nat.le_refl _) (.cells #[.int .i64 d.size, .slice A d.secs.length c, .slice P d.pend.length cp, .int .i64 d.left] 26)).alloc (by simp) (.cells #[.int .i64 0, .slice none 0 0, .slice none 0 0, .int .i64 0] 26)
  have hD1 := h.keep (Keeps.of_below hd1)
  clear hbk0
  go_enter Try.func22, Try.ntmps22
  go_upto_region 1 with (fail)
  generalize (W.alloc (.cells #[.int .i64 d.size, .slice A d.secs.length c, .slice P d.pend.length cp, .int .i64 d.left] 26)).alloc (.cells #[.int .i64 0, .slice none 0 0, .slice none 0 0, .int .i64 0] 26) = w1 at *
  have q0 := hbk.cell (j := 0) rfl
  have q1 := hbk.cell (j := 1) rfl
  have q2 := hbk.cell (j := 2) rfl
  have q3 := hbk.cell (j := 3) rfl
  have c1 := check_any _ _ _ d hD1
  go_wp2_with fail
  refine c1.mono ?_
  clear c1 q0 q1 q2 q3
  rintro e w2 ⟨rfl, hb2⟩
  have hd2 := hd1.trans (hb2.mono hd1.size)
  have hbk2 := hbk.keep hb2
  have hbr2 := hbr.keep hb2
  have hD2 := hD1.keep (Keeps.of_below hb2)
  clear hbk hbr hd1 hD1 hb2
  by_cases hk : chk d = 0
  · have HK := Lib.hid hk
    rw [hk]
    clear hk
    have q0 := hbk2.cell (j := 0) rfl
    have q1 := hbk2.cell (j := 1) rfl
    have q2 := hbk2.cell (j := 2) rfl
    have q3 := hbk2.cell (j := 3) rfl
    by_cases hl : d.left = 0
    · have HE := Lib.hid (sy_lost HK.out hl)
      have hb : (d.left == 0) = true := by simp [hl]
      clear hl
      have r0 := hbr2.frozen 0
      have r1 := hbr2.frozen 1
      have r2 := hbr2.frozen 2
      have r3 := hbr2.frozen 3
      have t0 := hbr2.cell (j := 0) rfl
      have t1 := hbr2.cell (j := 1) rfl
      have t2 := hbr2.cell (j := 2) rfl
      have t3 := hbr2.cell (j := 3) rfl
      go_wp2
      have hx := hbr2.set4 (.int .i64 d.size) (.slice A d.secs.length c) (.slice P d.pend.length cp) (.int .i64 d.left)
      have hdx := set4_below hd2 (show W.heap.size ≤ W.heap.size + 1 by omega) (.int .i64 d.size) (.slice A d.secs.length c) (.slice P d.pend.length cp) (.int .i64 d.left)
      clear r0 r1 r2 r3 t0 t1 t2 t3 q0 q1 q2 q3
      generalize (((w2.setCell ⟨W.heap.size + 1, 0, none⟩ (.int .i64 d.size)).setCell ⟨W.heap.size + 1, 1, none⟩ (.slice A d.secs.length c)).setCell ⟨W.heap.size + 1, 2, none⟩ (.slice P d.pend.length cp)).setCell ⟨W.heap.size + 1, 3, none⟩ (.int .i64 d.left) = wx at *
      have k0 := hx.cell (j := 0) rfl
      have k1 := hx.cell (j := 1) rfl
      have k2 := hx.cell (j := 2) rfl
      have k3 := hx.cell (j := 3) rfl
      exact bodyPost_ret (v := .tuple #[.agg #[.int .i64 d.size, .slice A d.secs.length c, .slice P d.pend.length cp, .int .i64 d.left], .int .i64 20]) (by simp [results, Try.results22, go_sem, k0, k1, k2, k3]) rfl (DkPost.mk HE.out.1.symm HE.out.2.symm rfl rfl (h.keep (Keeps.of_below hdx)) hdx)
    · have HE := Lib.hid (sy_ok HK.out hl)
      have hb : (d.left == 0) = false := by simp [hl]
      clear hl
      have c2 := settled_sync w2 _ _ d hD2 (chk_zero.1 HK.out)
      have C3 := Lib.hid (less_any d.left h.f0 h.f1)
      have hlt := hbr2.lt
      have hlz := lessZ_range h.f0 h.f1
      go_wp2_with fail
      refine c2.mono ?_
      clear c2 q0 q1 q2 q3
      rintro e w3 ⟨v3, rfl, hv3, hb3⟩
      have hd3 := hd2.trans (hb3.mono hd2.size)
      have hbk3 := hbk2.keep hb3
      have hbr3 := hbr2.keep hb3
      clear hbk2 hbr2 hd2 hD2 hb3
      obtain ⟨A3, c3', rfl⟩ := own_form hv3
      rw [cur_length] at hv3 ⊢
      obtain ⟨q0, q1, q2, q3, s0, s1, s2, s3⟩ := box8 hbk3 (Below.refl _ _)
      obtain ⟨t0, t1, t2, t3, r0, r1, r2, r3⟩ := box8 hbr3 (Below.refl _ _)
      have hls : -9223372036854775808 ≤ d.left ∧ d.left ≤ 9223372036854775807 := ⟨h.f0, h.f1⟩
      have hlt0 := hbk3.lt
      go_wp2_with fail
      have hbk4 := hbk3.set4 (.int .i64 d.size) (.slice A3 d.secs.length c3') (.slice none 0 0) (.int .i64 d.left)
      have hbr4 := (((hbr3.far (p := ⟨W.heap.size, 0, none⟩) (by simp) (.int .i64 d.size)).far (p := ⟨W.heap.size, 1, none⟩) (by simp) (.slice A3 d.secs.length c3')).far (p := ⟨W.heap.size, 2, none⟩) (by simp) (.slice none 0 0)).far (p := ⟨W.heap.size, 3, none⟩) (by simp) (.int .i64 d.left)
      have hd4 := set4_below hd3 (Nat.le_refl W.heap.size) (.int .i64 d.size) (.slice A3 d.secs.length c3') (.slice none 0 0) (.int .i64 d.left)
      have hv3' : OwS w3 (w2.heap.size + 2) (.slice A3 d.secs.length c3') (cur d) := hv3
      have hv4 := (((hv3'.far (p := ⟨W.heap.size, 0, none⟩) (by simp; omega) (.int .i64 d.size)).far (p := ⟨W.heap.size, 1, none⟩) (by simp; omega) (.slice A3 d.secs.length c3')).far (p := ⟨W.heap.size, 2, none⟩) (by simp; omega) (.slice none 0 0)).far (p := ⟨W.heap.size, 3, none⟩) (by simp; omega) (.int .i64 d.left)
      clear q0 q1 q2 q3 s0 s1 s2 s3 r0 r1 r2 r3 t0 t1 t2 t3 hbk3 hbr3 hd3 hv3 hv3'
      generalize (((w3.setCell ⟨W.heap.size, 0, none⟩ (.int .i64 d.size)).setCell ⟨W.heap.size, 1, none⟩ (.slice A3 d.secs.length c3')).setCell ⟨W.heap.size, 2, none⟩ (.slice none 0 0)).setCell ⟨W.heap.size, 3, none⟩ (.int .i64 d.left) = w4 at *
      obtain ⟨q0, q1, q2, q3, s0, s1, s2, s3⟩ := box8 hbk4 (Below.refl _ _)
      obtain ⟨t0, t1, t2, t3, r0, r1, r2, r3⟩ := box8 hbr4 (Below.refl _ _)
      refine (C3.out w4).mono ?_
      rintro e w' ⟨rfl, rfl⟩
      have hx := (hbr4.far (p := ⟨W.heap.size, 3, none⟩) (by simp) (.int .i64 (lessZ d.left))).set4 (.int .i64 d.size) (.slice A3 d.secs.length c3') (.slice none 0 0) (.int .i64 (lessZ d.left))
      have hdx := set4_below (hd4.setCell (p := ⟨W.heap.size, 3, none⟩) (Nat.le_refl _) (.int .i64 (lessZ d.left))) (show W.heap.size ≤ W.heap.size + 1 by omega) (.int .i64 d.size) (.slice A3 d.secs.length c3') (.slice none 0 0) (.int .i64 (lessZ d.left))
      have hvx := ((((hv4.far (p := ⟨W.heap.size, 3, none⟩) (by simp; omega) (.int .i64 (lessZ d.left))).far (p := ⟨W.heap.size + 1, 0, none⟩) (by simp; omega) (.int .i64 d.size)).far (p := ⟨W.heap.size + 1, 1, none⟩) (by simp; omega) (.slice A3 d.secs.length c3')).far (p := ⟨W.heap.size + 1, 2, none⟩) (by simp; omega) (.slice none 0 0)).far (p := ⟨W.heap.size + 1, 3, none⟩) (by simp; omega) (.int .i64 (lessZ d.left))
      go_wp2
      clear r0 r1 r2 r3 t0 t1 t2 t3 q0 q1 q2 q3 s0 s1 s2 s3
      generalize ((((w4.setCell ⟨W.heap.size, 3, none⟩ (.int .i64 (lessZ d.left))).setCell ⟨W.heap.size + 1, 0, none⟩ (.int .i64 d.size)).setCell ⟨W.heap.size + 1, 1, none⟩ (.slice A3 d.secs.length c3')).setCell ⟨W.heap.size + 1, 2, none⟩ (.slice none 0 0)).setCell ⟨W.heap.size + 1, 3, none⟩ (.int .i64 (lessZ d.left)) = wx at *
      obtain ⟨k0, k1, k2, k3⟩ := box4 hx (Below.refl _ _)
      exact bodyPost_ret (v := .tuple #[.agg #[.int .i64 d.size, .slice A3 d.secs.length c3', .slice none 0 0, .int .i64 (lessZ d.left)], .int .i64 0]) (by simp [results, Try.results22, go_sem, k0, k1, k2, k3]) rfl (DkPost.mk HE.out.1.symm HE.out.2.symm rfl rfl ⟨hvx.strs, Sl.nil _ _ _, h.z0, h.z1, hlz.1, hlz.2⟩ hdx)
  · have HE := Lib.hid (sy_bad hk)
    have hb : (chk d != 0) = true := by simp [hk]
    clear hk
    generalize chk d = full at *
    have r0 := hbr2.frozen 0
    have r1 := hbr2.frozen 1
    have r2 := hbr2.frozen 2
    have r3 := hbr2.frozen 3
    have t0 := hbr2.cell (j := 0) rfl
    have t1 := hbr2.cell (j := 1) rfl
    have t2 := hbr2.cell (j := 2) rfl
    have t3 := hbr2.cell (j := 3) rfl
    go_wp2
    have hx := hbr2.set4 (.int .i64 0) (.slice none 0 0) (.slice none 0 0) (.int .i64 0)
    have hdx := set4_below hd2 (show W.heap.size ≤ W.heap.size + 1 by omega) (.int .i64 0) (.slice none 0 0) (.slice none 0 0) (.int .i64 0)
    clear r0 r1 r2 r3 t0 t1 t2 t3
    generalize (((w2.setCell ⟨W.heap.size + 1, 0, none⟩ (.int .i64 0)).setCell ⟨W.heap.size + 1, 1, none⟩ (.slice none 0 0)).setCell ⟨W.heap.size + 1, 2, none⟩ (.slice none 0 0)).setCell ⟨W.heap.size + 1, 3, none⟩ (.int .i64 0) = wx at *
    have k0 := hx.cell (j := 0) rfl
    have k1 := hx.cell (j := 1) rfl
    have k2 := hx.cell (j := 2) rfl
    have k3 := hx.cell (j := 3) rfl
    exact bodyPost_ret (v := .tuple #[.agg #[.int .i64 0, .slice none 0 0, .slice none 0 0, .int .i64 0], .int .i64 1]) (by simp [results, Try.results22, go_sem, k0, k1, k2, k3]) rfl (DkPost.mk HE.out.1.symm HE.out.2.symm rfl rfl (Dsk.nodisk _) hdx)
end Go.Proofs.Ytpihapkclnhklaa
