/- linediff.Diff and Distance. -/
import Derived.Test.YthobbcafemkhbaaSteps
import Derived.Test.YthobbcafemkhbaaCommon
import Derived.Test.YthobbcafemkhbaaRead2
namespace Go.Proofs.Ythobbcafemkhbaa
open Go.RowKit

theorem ClSt.fin {w : World} {B bo ba bl m : Nat} {done : List Hk} {cur : Option Hk} (h : ClSt w B bo ba bl m done cur) (hm : m ≤ 1000000) :
    ∃ vl, w.cell? ⟨bl, 0, none⟩ = some vl ∧ Ow w B 92 3 (HkR w) vl (done ++ cur.toList) := by
  rcases cur with _ | ⟨n, o, e⟩
  · obtain ⟨vl, cells, h⟩ := h
    exact ⟨vl, h.h3.cell rfl, by simpa using h.fin⟩
  · obtain ⟨⟨h0, h1⟩, gl, cap, vo, vn, cells, cs, h⟩ := h
    exact ⟨_, h.h3.cell rfl, h.fin (by omega) (by omega)⟩

set_option maxRecDepth 100000 in
set_option maxHeartbeats 1000000 in
theorem diff_any (w : World) (va vb : Value) (xs ys : List ByteArray) (ha : Strs w va xs) (hb : Strs w vb ys) (hx : xs.length ≤ 1000) (hy : ys.length ≤ 1000) :
    Calls Try.prog 72 #[va, vb] w fun e w' => ∃ v, e = .returned v ∧ Ow w' w.heap.size 92 3 (HkR w') v (diffL xs ys) ∧ Below w.heap.size w w' := by
  obtain ⟨A, c, rfl, hc, hm⟩ := ha.form
  obtain ⟨B, d, rfl, hc', hm'⟩ := hb.form
  obtain ⟨i0, hi, hz0, hz1, hz2⟩ := info_parts Try.info_str
  have cc := common_any w _ _ xs ys ha hb
  have hle := csuf_le xs ys
  obtain ⟨s, hs⟩ : ∃ s, s = cpre xs ys := ⟨_, rfl⟩
  obtain ⟨t, ht⟩ : ∃ t, t = csuf xs ys := ⟨_, rfl⟩
  rw [← hs, ← ht] at cc hle
  have CC := Lib.hid cc
  have HS := Lib.hid hs
  have HT := Lib.hid ht
  obtain ⟨A1, c1, r1, s1⟩ := run_at_both' (P := Try.prog) (sz := 1) (R := Str1) 36 9 i0 Try.underlying36 hi hz1 (A := A) hc .i64 .i64 s (xs.length - t) (by omega) (by omega)
  obtain ⟨B1, d1, r2, s2⟩ := run_at_both' (P := Try.prog) (sz := 1) (R := Str1) 36 9 i0 Try.underlying36 hi hz1 (A := B) hc' .i64 .i64 s (ys.length - t) (by omega) (by omega)
  rw [show (((xs.length - t : Nat)) : Int) = (xs.length : Int) - t by omega] at r1
  rw [show (((ys.length - t : Nat)) : Int) = (ys.length : Int) - t by omega] at r2
  have z1 : IntKind.i64.wrap ((xs.length : Int) - t) = (xs.length : Int) - t := i64w (by omega) (by omega)
  have z2 : IntKind.i64.wrap ((ys.length : Int) - t) = (ys.length : Int) - t := i64w (by omega) (by omega)
  have hm1 : midL xs ys = (xs.drop s).take (xs.length - t - s) := by unfold midL; rw [← hs, ← ht]
  have hm2 : midR xs ys = (ys.drop s).take (ys.length - t - s) := by unfold midR; rw [← hs, ← ht]
  have hl1 : (midL xs ys).length = xs.length - t - s := by rw [hm1]; simp; omega
  have hl2 : (midR xs ys).length = ys.length - t - s := by rw [hm2]; simp; omega
  have S1 : StrsB w w.heap.size (.slice A1 (xs.length - t - s) c1) (midL xs ys) := fun w' h => by
    have := s1 w' xs (ha.keep (Keeps.of_below h))
    rw [← hm1] at this; exact this
  have S2 : StrsB w w.heap.size (.slice B1 (ys.length - t - s) d1) (midR xs ys) := fun w' h => by
    have := s2 w' ys (hb.keep (Keeps.of_below h))
    rw [← hm2] at this; exact this
  have HL1 := Lib.hid hl1
  have HL2 := Lib.hid hl2
  obtain ⟨N, hN⟩ : ∃ N, N = (xs.length - t - s) * (ys.length - t - s) := ⟨_, rfl⟩
  have hN1 : N ≤ 1000000 := by rw [hN]; exact Nat.mul_le_mul (show xs.length - t - s ≤ 1000 by omega) (show ys.length - t - s ≤ 1000 by omega)
  have hNi : ((xs.length - t - s : Nat) : Int) * ((ys.length - t - s : Nat) : Int) = (N : Int) := by rw [hN]; simp
  clear cc hs ht hm1 hm2 hl1 hl2 s1 s2 hN
  generalize xs.length - t - s = n1 at *
  generalize ys.length - t - s = n2 at *
  go_enter Try.func72, Try.ntmps72
  go_wp2_with (go_at_call 78; refine CC.out.mono ?_; rintro e w1 ⟨rfl, hd⟩)
  go_quiet (fail)
  have hbq : Below w.heap.size w (w1.drewN nq) := below_drewN' (hd.below _) nq
  clear r1 r2 z1 z2 hd
  generalize w1.drewN nq = wq at *
  have hsz := hbq.size
  have hst : ClSt (((wq.alloc (.cells #[.slice none 0 0] 89)).alloc (.cells #[.int .i64 s] 3)).alloc (.cells #[.bool false] 4)) w.heap.size (wq.heap.size + 2) (wq.heap.size + 1) wq.heap.size s [] none := by
    have e1 := Blk.new wq #[.slice none 0 0] 89
    have e2 := Blk.new (wq.alloc (.cells #[.slice none 0 0] 89)) #[.int .i64 s] 3
    have e3 := Blk.new ((wq.alloc (.cells #[.slice none 0 0] 89)).alloc (.cells #[.int .i64 s] 3)) #[.bool false] 4
    rw [show (wq.alloc (.cells #[.slice none 0 0] 89)).heap.size = wq.heap.size + 1 by simp] at e2
    rw [show ((wq.alloc (.cells #[.slice none 0 0] 89)).alloc (.cells #[.int .i64 s] 3)).heap.size = wq.heap.size + 2 by simp] at e3
    exact ⟨.slice none 0 0, [], e3, e2.alloc _, (e1.alloc _).alloc _, by omega, by omega, hsz, World.ownsRow_nil _ _ _ _, fun _ _ => rfl⟩
  have hbw : Below w.heap.size w (((wq.alloc (.cells #[.slice none 0 0] 89)).alloc (.cells #[.int .i64 s] 3)).alloc (.cells #[.bool false] 4)) :=
    ((hbq.alloc hsz _).alloc (by simp; omega) _).alloc (by simp; omega) _
  have hL1 : (midL xs ys).length ≤ 1000 := by have := midL_len xs ys; omega
  have hL2 : (midR xs ys).length ≤ 1000 := by have := midR_len xs ys; omega
  have ct := steps_any _ w.heap.size _ _ _ s _ _ _ _ hst (S1.below hbw) (S2.below hbw) hL1 hL2 (by omega)
  have CT := Lib.hid ct
  have HBW := Lib.hid hbw
  clear ct hst hbw hL1 hL2 S1 S2
  go_wp2_with (go_at_call 79; go_must (refine CT.out.mono ?_); rintro e w2 ⟨rfl, m, done, cur, hst2, hm2, heq, hfr⟩
               obtain ⟨vl, hcell, how⟩ := hst2.fin (by have := midL_len xs ys; omega)
               have HEQ := Lib.hid heq; clear heq)
  go_ret
  refine ⟨vl, rfl, ?_, HBW.out.trans hfr.below⟩
  unfold diffL
  rw [← HS.out, ← HEQ.out]
  exact how

end Go.Proofs.Ythobbcafemkhbaa
