/- linediff.Diff and Distance. -/
import Derived.Test.YtobiheoammhcmaaSteps
import Derived.Test.YtobiheoammhcmaaCommon
import Derived.Test.YtobiheoammhcmaaRead2
namespace Go.Proofs.Ytobiheoammhcmaa
open Go.RowKit

theorem ClSt.fin {w : World} {B bo ba bl m : Nat} {done : List Hk} {cur : Option Hk} (h : ClSt w B bo ba bl m done cur) (hm : m ≤ 1000000) :
    ∃ vl, w.cell? ⟨bl, 0, none⟩ = some vl ∧ Ow w B 32 3 (HkR w) vl (done ++ cur.toList) := by
  rcases cur with _ | ⟨n, o, e⟩
  · obtain ⟨vl, cells, h⟩ := h
    exact ⟨vl, h.h3.cell rfl, by simpa using h.fin⟩
  · obtain ⟨⟨h0, h1⟩, gl, cap, vo, vn, cells, cs, h⟩ := h
    exact ⟨_, h.h3.cell rfl, h.fin (by omega) (by omega)⟩

set_option maxRecDepth 100000 in
set_option maxHeartbeats 1000000 in
theorem diff_any (w : World) (va vb : Value) (xs ys : List ByteArray) (ha : Strs w va xs) (hb : Strs w vb ys) (hx : xs.length ≤ 1000) (hy : ys.length ≤ 1000) :
    Calls Try.prog 14 #[va, vb] w fun e w' => ∃ v, e = .returned v ∧ Ow w' w.heap.size 32 3 (HkR w') v (diffL xs ys) ∧ Below w.heap.size w w' := by
  obtain ⟨A, c, rfl, hc, hm⟩ := ha.form
  obtain ⟨B, d, rfl, hc', hm'⟩ := hb.form
  obtain ⟨i0, hi, hz0, hz1, hz2⟩ := info_parts Try.info_str
  have cc := common_any w _ _ xs ys ha hb
  have hle := csuf_le xs ys
  obtain ⟨s, hs⟩ : ∃ s, s = cpre xs ys := ⟨_, rfl⟩
  obtain ⟨t, ht⟩ : ∃ t, t = csuf xs ys := ⟨_, rfl⟩
  rw [← hs, ← ht] at cc hle
  have CC := Lib.hid cc
  have HS := Lib.hid hs
  have HT := Lib.hid ht
  obtain ⟨A1, c1, r1, s1⟩ := run_at_both' (P := Try.prog) (sz := 1) (R := Str1) 22 9 i0 Try.underlying22 hi hz1 (A := A) hc .i64 .i64 s (xs.length - t) (by omega) (by omega)
  obtain ⟨B1, d1, r2, s2⟩ := run_at_both' (P := Try.prog) (sz := 1) (R := Str1) 22 9 i0 Try.underlying22 hi hz1 (A := B) hc' .i64 .i64 s (ys.length - t) (by omega) (by omega)
  rw [show (((xs.length - t : Nat)) : Int) = (xs.length : Int) - t by omega] at r1
  rw [show (((ys.length - t : Nat)) : Int) = (ys.length : Int) - t by omega] at r2
  have z1 : IntKind.i64.wrap ((xs.length : Int) - t) = (xs.length : Int) - t := i64w (by omega) (by omega)
  have z2 : IntKind.i64.wrap ((ys.length : Int) - t) = (ys.length : Int) - t := i64w (by omega) (by omega)
  have hm1 : midL xs ys = (xs.drop s).take (xs.length - t - s) := by unfold midL; rw [← hs, ← ht]
  have hm2 : midR xs ys = (ys.drop s).take (ys.length - t - s) := by unfold midR; rw [← hs, ← ht]
  have hl1 : (midL xs ys).length = xs.length - t - s := by rw [hm1]; simp; omega
  have hl2 : (midR xs ys).length = ys.length - t - s := by rw [hm2]; simp; omega
  have S1 : StrsB w w.heap.size (.slice A1 (xs.length - t - s) c1) (midL xs ys) := fun w' h => by
    have := s1 w' xs (ha.keep (Keeps.of_below h))
    rw [← hm1] at this; exact this
  have S2 : StrsB w w.heap.size (.slice B1 (ys.length - t - s) d1) (midR xs ys) := fun w' h => by
    have := s2 w' ys (hb.keep (Keeps.of_below h))
    rw [← hm2] at this; exact this
  have HL1 := Lib.hid hl1
  have HL2 := Lib.hid hl2
  obtain ⟨N, hN⟩ : ∃ N, N = (xs.length - t - s) * (ys.length - t - s) := ⟨_, rfl⟩
  have hN1 : N ≤ 1000000 := by rw [hN]; exact Nat.mul_le_mul (show xs.length - t - s ≤ 1000 by omega) (show ys.length - t - s ≤ 1000 by omega)
  have hNi : ((xs.length - t - s : Nat) : Int) * ((ys.length - t - s : Nat) : Int) = (N : Int) := by rw [hN]; simp
  clear cc hs ht hm1 hm2 hl1 hl2 s1 s2 hN
  generalize xs.length - t - s = n1 at *
  generalize ys.length - t - s = n2 at *
  go_enter Try.func14, Try.ntmps14
  go_wp2_with (go_at_call 30; refine CC.out.mono ?_; rintro e w1 ⟨rfl, hd⟩)
  go_quiet (fail)
  have hbq : Below w.heap.size w (w1.drewN nq) := below_drewN' (hd.below _) nq
  clear r1 r2 z1 z2 hd
  generalize w1.drewN nq = wq at *
  have hsz := hbq.size
  have hst : ClSt (((wq.alloc (.cells #[.slice none 0 0] 26)).alloc (.cells #[.int .i64 s] 3)).alloc (.cells #[.bool false] 4)) w.heap.size (wq.heap.size + 2) (wq.heap.size + 1) wq.heap.size s [] none := by
    have e1 := Blk.new wq #[.slice none 0 0] 26
    have e2 := Blk.new (wq.alloc (.cells #[.slice none 0 0] 26)) #[.int .i64 s] 3
    have e3 := Blk.new ((wq.alloc (.cells #[.slice none 0 0] 26)).alloc (.cells #[.int .i64 s] 3)) #[.bool false] 4
    rw [show (wq.alloc (.cells #[.slice none 0 0] 26)).heap.size = wq.heap.size + 1 by simp] at e2
    rw [show ((wq.alloc (.cells #[.slice none 0 0] 26)).alloc (.cells #[.int .i64 s] 3)).heap.size = wq.heap.size + 2 by simp] at e3
    exact ⟨.slice none 0 0, [], e3, e2.alloc _, (e1.alloc _).alloc _, by omega, by omega, hsz, World.ownsRow_nil _ _ _ _, fun _ _ => rfl⟩
  have hbw : Below w.heap.size w (((wq.alloc (.cells #[.slice none 0 0] 26)).alloc (.cells #[.int .i64 s] 3)).alloc (.cells #[.bool false] 4)) :=
    ((hbq.alloc hsz _).alloc (by simp; omega) _).alloc (by simp; omega) _
  have hL1 : (midL xs ys).length ≤ 1000 := by have := midL_len xs ys; omega
  have hL2 : (midR xs ys).length ≤ 1000 := by have := midR_len xs ys; omega
  have ct := steps_any _ w.heap.size _ _ _ s _ _ _ _ hst (S1.below hbw) (S2.below hbw) hL1 hL2 (by omega)
  have CT := Lib.hid ct
  have HBW := Lib.hid hbw
  clear ct hst hbw hL1 hL2 S1 S2
  go_wp2_with (go_at_call 32; go_must (refine CT.out.mono ?_); rintro e w2 ⟨rfl, m, done, cur, hst2, hm2, heq, hfr⟩
               obtain ⟨vl, hcell, how⟩ := hst2.fin (by have := midL_len xs ys; omega)
               have HEQ := Lib.hid heq; clear heq)
  go_ret
  refine ⟨vl, rfl, ?_, HBW.out.trans hfr.below⟩
  unfold diffL
  rw [← HS.out, ← HEQ.out]
  exact how

set_option maxHeartbeats 1000000 in
theorem dist_any (w : World) (va vb : Value) (xs ys : List ByteArray) (ha : Strs w va xs) (hb : Strs w vb ys) (hx : xs.length ≤ 1000) (hy : ys.length ≤ 1000) :
    Calls Try.prog 16 #[va, vb] w fun e w' => e = .returned (.int .i64 (sizeH (diffL xs ys))) ∧ Below w.heap.size w w' := by
  have c1 := diff_any w va vb xs ys ha hb hx hy
  have hb2 : ∀ k, sizeH ((diffL xs ys).take k) ≤ 2000 := fun k => by
    have h1 := size_diffL_le xs ys
    have h2 : sizeH (diffL xs ys) = sizeH ((diffL xs ys).take k) + sizeH ((diffL xs ys).drop k) := by rw [← sizeH_append, List.take_append_drop]
    omega
  have hb3 : ∀ x ∈ diffL xs ys, x.2.1.length + x.2.2.length ≤ 2000 := fun x hm => by
    have h1 := sizeH_mem hm
    have h2 := size_diffL_le xs ys
    omega
  have hb4 := length_diffL xs ys
  generalize diffL xs ys = L at *
  have C1 := Lib.hid c1
  have H2 := Lib.hid hb2
  have H3 := Lib.hid hb3
  clear c1 hb2 hb3
  go_enter Try.func16, Try.ntmps16
  go_wp2_with (go_at_call 14; refine C1.out.mono ?_; rintro e w1 ⟨v, rfl, hv, hb1⟩; have hH : Hks w1 v L := hv.sl; obtain ⟨A, c, rfl, hc1, hc2⟩ := hH.form)
  clear C1
  go_loopw [5, 12] (fun s i wr => ∃ k : Nat, k ≤ L.length ∧ i = .int .i64 k ∧ s = .int .i64 (sizeH (L.take k)) ∧ Below w1.heap.size w1 wr) (fun _ i _ => L.length - (intOf i).toNat)
  case atStart => exact ⟨0, by omega, rfl, rfl, Below.refl _ _⟩
  case round =>
    obtain ⟨k, hk, rfl, rfl, hd⟩ := hrel
    have hL := hH.keep (Keeps.of_below hd)
    by_cases hlt : k < L.length
    · obtain ⟨b, off, vo, vn, rfl, a1, a2, a3, a4, a5, a6, a7⟩ := hL.get hlt
      obtain ⟨A1, c1, rfl, e1, e2⟩ := a4.form
      obtain ⟨A2, c2, rfl, e3, e4⟩ := a5.form
      have s1 := H2.out k
      have s2 := H3.out _ (List.getElem_mem hlt)
      have S := Lib.hid (sizeH_succ hlt)
      have hsz := hd.size
      go_wp2
      go_roundw
      case rel => exact ⟨k + 1, by omega, by go_num, by rw [S.out]; go_num, hd.alloc hsz _⟩
      case measure => simp [intOf]; omega
    · go_wp2
      go_ret
      exact ⟨ret_int (by rw [List.take_of_length_le (by omega)]), hb1.trans (hd.mono hb1.size)⟩
end Go.Proofs.Ytobiheoammhcmaa
