/- disk.Cut. -/
import Derived.Test.YtpihapkclnhklaaDkSettle2
namespace Go.Proofs.Ytpihapkclnhklaa
open Go.RowKit

theorem cutW_length {size : Int} : ∀ (p : List (Int × ByteArray)) (l : List ByteArray) (ps : List Int), (cutW size l p ps).length = l.length
  | [], _, _ => rfl
  | w :: p, l, ps => by rw [cutW, cutW_length p, List.length_set]

set_option maxRecDepth 100000 in
set_option maxHeartbeats 4000000 in
theorem cut_any (W : World) (vs vp vi : Value) (d : Dk) (h : DskP W vs vp d) (hpl : d.pend.length ≤ 100000) (ps : List Int) (hps : Ints W vi ps) :
    Calls Try.prog 16 #[.agg #[.int .i64 d.size, vs, vp, .int .i64 d.left], vi] W (CutPost W (cutD d ps)) := by
  obtain ⟨A, c, rfl, hc, hm⟩ := h.sec.form
  obtain ⟨P, cp, rfl, hcp, hmp⟩ := h.pen.form
  obtain ⟨I, ci, rfl, hci, hmi⟩ := hps.form
  have hbk0 := Blk.new W #[.int .i64 d.size, .slice A d.secs.length c, .slice P d.pend.length cp, .int .i64 d.left] 26
  have hbk := (hbk0.alloc (.cells #[.slice I ps.length ci] 32)).alloc (.cells #[.int .i64 0, .slice none 0 0, .slice none 0 0, .int .i64 0] 26)
  have hbp0 := Blk.new (W.alloc (.cells #[.int .i64 d.size, .slice A d.secs.length c, .slice P d.pend.length cp, .int .i64 d.left] 26)) #[.slice I ps.length ci] 32
  have hbp := hbp0.alloc (.cells #[.int .i64 0, .slice none 0 0, .slice none 0 0, .int .i64 0] 26)
  have hbr := Blk.new ((W.alloc (.cells #[.int .i64 d.size, .slice A d.secs.length c, .slice P d.pend.length cp, .int .i64 d.left] 26)).alloc (.cells #[.slice I ps.length ci] 32)) #[.int .i64 0, .slice none 0 0, .slice none 0 0, .int .i64 0] 26
  rw [World.size_alloc] at hbp
  rw [World.size_alloc, World.size_alloc, show W.heap.size + 1 + 1 = W.heap.size + 2 from rfl] at hbr
  have hd1 := (((Below.refl W.heap.size W).alloc (Nat.le_refl _) (.cells #[.int .i64 d.size, .slice A d.secs.length c, .slice P d.pend.length cp, .int .i64 d.left] 26)).alloc (by simp) (.cells #[.slice I ps.length ci] 32)).alloc (by simp; omega) (.cells #[.int .i64 0, .slice none 0 0, .slice none 0 0, .int .i64 0] 26)
  have hD1 := h.keep (Keeps.of_below hd1)
  clear hbk0 hbp0
  go_enter Try.func16, Try.ntmps16
  go_upto_region 1 with (fail)
  generalize ((W.alloc (.cells #[.int .i64 d.size, .slice A d.secs.length c, .slice P d.pend.length cp, .int .i64 d.left] 26)).alloc (.cells #[.slice I ps.length ci] 32)).alloc (.cells #[.int .i64 0, .slice none 0 0, .slice none 0 0, .int .i64 0] 26) = w1 at *
  obtain ⟨q0, q1, q2, q3⟩ := box4 hbk (Below.refl _ _)
  have c1 := check_any _ _ _ d hD1
  go_wp2_with fail
  refine c1.mono ?_
  clear c1 q0 q1 q2 q3
  rintro e w2 ⟨rfl, hb2⟩
  have hd2 := hd1.trans (hb2.mono hd1.size)
  have hbk2 := hbk.keep hb2
  have hbp2 := hbp.keep hb2
  have hbr2 := hbr.keep hb2
  clear hbk hbr hbp hd1 hD1 hb2
  by_cases hk : chk d = 0
  · have HK := Lib.hid hk
    rw [hk]
    clear hk
    have hl1 := hbr2.lt
    have hn3 := Blk.new w2 #[.int .i64 0] 3
    have hbk3 := hbk2.alloc (.cells #[.int .i64 0] 3)
    have hbp3 := hbp2.alloc (.cells #[.int .i64 0] 3)
    have hbr3 := hbr2.alloc (.cells #[.int .i64 0] 3)
    have hd3 := hd2.alloc hd2.size (.cells #[.int .i64 0] 3)
    clear hbk2 hbp2 hbr2 hd2
    go_upto_region 4 with (fail)
    generalize w2.alloc (.cells #[.int .i64 0] 3) = w3 at *
    generalize w2.heap.size = bn at *
    obtain ⟨q0, q1, q2, q3⟩ := box4 hbk3 (Below.refl _ _)
    have hl3 := hn3.lt
    have c2 := settled_cut W w3 _ _ d h (chk_zero.1 HK.out) hpl bn (W.heap.size + 1) W.heap.size I ci ps _ _ _ hps hd3 (by omega) hn3 hbp3 hbk3 (by omega) (by omega)
    go_wp2_with fail
    refine c2.mono ?_
    clear c2 q0 q1 q2 q3
    rintro e w4 ⟨v4, rfl, hv4, hb4⟩
    have hd4 := hd3.trans (hb4.mono (by omega))
    have hbk4 := hbk3.below hb4 (by omega)
    have hbr4 := hbr3.below hb4 (by omega)
    clear hbk3 hbr3 hbp3 hd3 hb4 hn3
    have HE := Lib.hid (cutD_ok (ps := ps) HK.out)
    obtain ⟨A4, c4, rfl⟩ := own_form hv4
    rw [cutW_length] at hv4 ⊢
    obtain ⟨q0, q1, q2, q3, s0, s1, s2, s3⟩ := box8 hbk4 (Below.refl _ _)
    obtain ⟨t0, t1, t2, t3, r0, r1, r2, r3⟩ := box8 hbr4 (Below.refl _ _)
    go_upto_region 5 with (fail)
    have hbk5 := hbk4.set4 (.int .i64 d.size) (.slice A4 d.secs.length c4) (.slice none 0 0) (.int .i64 d.left)
    have hbr5 := (((hbr4.far (p := ⟨W.heap.size, 0, none⟩) (by simp) (.int .i64 d.size)).far (p := ⟨W.heap.size, 1, none⟩) (by simp) (.slice A4 d.secs.length c4)).far (p := ⟨W.heap.size, 2, none⟩) (by simp) (.slice none 0 0)).far (p := ⟨W.heap.size, 3, none⟩) (by simp) (.int .i64 d.left)
    have hd5 := set4_below hd4 (Nat.le_refl W.heap.size) (.int .i64 d.size) (.slice A4 d.secs.length c4) (.slice none 0 0) (.int .i64 d.left)
    have hv4' : OwS w4 (w3.heap.size + 2) (.slice A4 d.secs.length c4) (cutW d.size d.secs d.pend ps) := hv4
    have hv5 := (((hv4'.far (p := ⟨W.heap.size, 0, none⟩) (by simp; omega) (.int .i64 d.size)).far (p := ⟨W.heap.size, 1, none⟩) (by simp; omega) (.slice A4 d.secs.length c4)).far (p := ⟨W.heap.size, 2, none⟩) (by simp; omega) (.slice none 0 0)).far (p := ⟨W.heap.size, 3, none⟩) (by simp; omega) (.int .i64 d.left)
    clear q0 q1 q2 q3 s0 s1 s2 s3 r0 r1 r2 r3 t0 t1 t2 t3 hbk4 hbr4 hd4 hv4 hv4'
    generalize (((w4.setCell ⟨W.heap.size, 0, none⟩ (.int .i64 d.size)).setCell ⟨W.heap.size, 1, none⟩ (.slice A4 d.secs.length c4)).setCell ⟨W.heap.size, 2, none⟩ (.slice none 0 0)).setCell ⟨W.heap.size, 3, none⟩ (.int .i64 d.left) = w5 at *
    obtain ⟨q0, q1, q2, q3, s0, s1, s2, s3⟩ := box8 hbk5 (Below.refl _ _)
    obtain ⟨t0, t1, t2, t3, r0, r1, r2, r3⟩ := box8 hbr5 (Below.refl _ _)
    have hx := (hbr5.far (p := ⟨W.heap.size, 3, none⟩) (by simp) (.int .i64 (-1))).set4 (.int .i64 d.size) (.slice A4 d.secs.length c4) (.slice none 0 0) (.int .i64 (-1))
    have hdx := set4_below (hd5.setCell (p := ⟨W.heap.size, 3, none⟩) (Nat.le_refl _) (.int .i64 (-1))) (show W.heap.size ≤ W.heap.size + 2 by omega) (.int .i64 d.size) (.slice A4 d.secs.length c4) (.slice none 0 0) (.int .i64 (-1))
    have hvx := ((((hv5.far (p := ⟨W.heap.size, 3, none⟩) (by simp; omega) (.int .i64 (-1))).far (p := ⟨W.heap.size + 2, 0, none⟩) (by simp; omega) (.int .i64 d.size)).far (p := ⟨W.heap.size + 2, 1, none⟩) (by simp; omega) (.slice A4 d.secs.length c4)).far (p := ⟨W.heap.size + 2, 2, none⟩) (by simp; omega) (.slice none 0 0)).far (p := ⟨W.heap.size + 2, 3, none⟩) (by simp; omega) (.int .i64 (-1))
    go_wp2
    clear r0 r1 r2 r3 t0 t1 t2 t3 q0 q1 q2 q3 s0 s1 s2 s3
    generalize ((((w5.setCell ⟨W.heap.size, 3, none⟩ (.int .i64 (-1))).setCell ⟨W.heap.size + 2, 0, none⟩ (.int .i64 d.size)).setCell ⟨W.heap.size + 2, 1, none⟩ (.slice A4 d.secs.length c4)).setCell ⟨W.heap.size + 2, 2, none⟩ (.slice none 0 0)).setCell ⟨W.heap.size + 2, 3, none⟩ (.int .i64 (-1)) = wx at *
    obtain ⟨k0, k1, k2, k3⟩ := box4 hx (Below.refl _ _)
    exact bodyPost_ret (v := .agg #[.int .i64 d.size, .slice A4 d.secs.length c4, .slice none 0 0, .int .i64 (-1)]) (by simp [results, Try.results16, go_sem, k0, k1, k2, k3]) rfl (CutPost.mk HE.out rfl rfl ⟨hvx.strs, Sl.nil _ _ _, h.z0, h.z1, by simp, by simp⟩ hdx)
  · have HE := Lib.hid (cutD_bad (ps := ps) hk)
    have hb : (chk d != 0) = true := by simp [hk]
    clear hk
    have hdx := set4_below hd2 (show W.heap.size ≤ W.heap.size + 2 by omega) (.int .i64 0) (.slice none 0 0) (.slice none 0 0) (.int .i64 0)
    have hx := hbr2.set4 (.int .i64 0) (.slice none 0 0) (.slice none 0 0) (.int .i64 0)
    obtain ⟨t0, t1, t2, t3, r0, r1, r2, r3⟩ := box8 hbr2 (Below.refl _ _)
    generalize chk d = full at *
    go_wp2
    clear r0 r1 r2 r3 t0 t1 t2 t3
    generalize (((w2.setCell ⟨W.heap.size + 2, 0, none⟩ (.int .i64 0)).setCell ⟨W.heap.size + 2, 1, none⟩ (.slice none 0 0)).setCell ⟨W.heap.size + 2, 2, none⟩ (.slice none 0 0)).setCell ⟨W.heap.size + 2, 3, none⟩ (.int .i64 0) = wx at *
    obtain ⟨k0, k1, k2, k3⟩ := box4 hx (Below.refl _ _)
    exact bodyPost_ret (v := .agg #[.int .i64 0, .slice none 0 0, .slice none 0 0, .int .i64 0]) (by simp [results, Try.results16, go_sem, k0, k1, k2, k3]) rfl (CutPost.mk HE.out rfl rfl (Dsk.nodisk _) hdx)
end Go.Proofs.Ytpihapkclnhklaa
