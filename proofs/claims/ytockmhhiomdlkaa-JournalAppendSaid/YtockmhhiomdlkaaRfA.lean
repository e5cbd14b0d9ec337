/- The reference of the journal: zeros, head, ended, half, check. -/
import Derived.Test.YtockmhhiomdlkaaJoC
namespace Go.Proofs.Ytockmhhiomdlkaa
set_option linter.unusedVariables false
set_option linter.unusedSimpArgs false
open Go.RowKit

theorem Try.info_u8 : (Try.prog.info? 5).map (fun i => (i.zero, i.size, i.bytes)) = some (some (.int .u8 0), 1, 1) := by kernel_rfl
theorem conv_zeros {P : Program} (W : World) (src e dst : TypeId) (hs : P.underlying src = some (.slice e)) (he : P.underlying e = some (.int .u8)) (hd : P.underlying dst = some .string) (g n cap : Nat)
    (hb : Blk W g e (Array.replicate n (.int .u8 0))) : (convert src dst (.slice (some ⟨g, 0, none⟩) n cap)).run P W = .ok (.string (zeroS n)) W := by
  have := run_convert_bytes_back (P := P) W src dst e ⟨g, 0, none⟩ cap (List.replicate n 0) hs he hd fun j hj => by
    have hj' : j < n := by simpa using hj
    have h1 := hb.cell (j := j) (u := .int .u8 0) (by simp [hj'])
    rw [show ((⟨g, 0, none⟩ : Addr).add j) = ⟨g, j, none⟩ by simp [Addr.add]; omega, h1]
    simp
  rw [List.length_replicate] at this
  exact this
set_option maxHeartbeats 1000000 in
theorem rzeros_any (n : Nat) (hn : n ≤ 100000) (w : World) : Calls Try.prog 51 #[.int .i64 n] w fun e w' => e = .returned (.string (zeroS n)) ∧ Below w.heap.size w w' := by
  obtain ⟨i0, hi, hy0, hy1, hy2⟩ := info_parts Try.info_u8
  go_enter Try.func51, Try.ntmps51
  go_wp2_with (at_make; refine wpList_make_blk _ rfl _ _ _ rfl 5 i0 (.int .u8 0) Try.underlying100 hi hy0 hy1 rfl .i64 .i64 _ _ n rfl rfl (by omega) (by omega) (by rw [hy2]; omega) (by omega) ?_; intro g w2 hg hblk hbel; have hcv := conv_zeros (P := Try.prog) w2 100 5 9 Try.underlying100 Try.underlying5 Try.underlying9 g n n hblk)
  go_ret
  exact ⟨rfl, hbel⟩
theorem rhalf_any (W : World) (vs vp : Value) (d : Dk) (h : DskP W vs vp d) : Calls Try.prog 43 #[.agg #[.int .i64 d.size, vs, vp, .int .i64 d.left]] W (ErrPost W (halfN d.secs.length)) := by
  obtain ⟨A, c, rfl, hc, hm⟩ := h.sec.form
  obtain ⟨P, cp, rfl, hcp, hmp⟩ := h.pen.form
  have hn : d.secs.length ≤ 9223372036854775807 := by omega
  have HH := Lib.hid (half_int d.secs.length hn)
  go_enter Try.func43, Try.ntmps43
  go_wp2
  go_ret
  exact ⟨by have := HH.out; simp_all, (Below.refl _ _).alloc (Nat.le_refl _) _⟩
theorem rjcheck_any (W : World) (vs vp : Value) (d : Dk) (h : DskP W vs vp d) : Calls Try.prog 49 #[.agg #[.int .i64 d.size, vs, vp, .int .i64 d.left]] W (ErrPost W (chkJ d)) := by
  have hb0 := h.form
  obtain ⟨A, c, P, cp, rfl, rfl, hc, hcp, hm, hmp⟩ := hb0
  have K1 := (Below.refl W.heap.size W).alloc (Nat.le_refl _) (.cells #[.int .i64 d.size, .slice A d.secs.length c, .slice P d.pend.length cp, .int .i64 d.left] 25)
  have CH := Lib.hid (rcheck_any (W.alloc (.cells #[.int .i64 d.size, .slice A d.secs.length c, .slice P d.pend.length cp, .int .i64 d.left] 25)) _ _ d (h.keep (Keeps.of_below K1)))
  have HK := Lib.hid K1
  have hbk := Blk.new W #[.int .i64 d.size, .slice A d.secs.length c, .slice P d.pend.length cp, .int .i64 d.left] 25
  have HD : Hid (chkJ d = if chk d ≠ 0 then chk d else if d.secs.length < 3 then 2 else 0) := rfl
  generalize chkJ d = R at *
  generalize chk d = Q at *
  clear K1
  go_enter Try.func49, Try.ntmps49
  go_wp2_with fail
  refine CH.out.mono ?_
  rintro e w1 ⟨rfl, hb⟩
  have HB := Lib.hid (HK.out.trans (hb.mono (by simp)))
  have hbk1 := hbk.keep hb
  have q1 := hbk1.cell (j := 1) rfl
  have hlt := hbk1.lt
  clear hb CH HK hbk hbk1
  by_cases hq : Q = 0
  · subst hq
    by_cases h3 : d.secs.length < 3
    · have HR : Hid (R = 2) := by show _ = _; rw [HD.out, if_neg (by simp), if_pos h3]
      have h4 : ((d.secs.length : Nat) : Int) < 3 := by omega
      clear HD
      go_wp2
      go_ret
      exact ⟨ret_int HR.out.symm, HB.out⟩
    · have HR : Hid (R = 0) := by show _ = _; rw [HD.out, if_neg (by simp), if_neg h3]
      have h4 : ¬ ((d.secs.length : Nat) : Int) < 3 := by omega
      clear HD
      go_wp2
      go_ret
      exact ⟨ret_int HR.out.symm, HB.out⟩
  · have HR : Hid (R = Q) := by show _ = _; rw [HD.out, if_pos hq]
    have hb : (Q != 0) = true := by simp [hq]
    clear HD
    go_wp2
    go_ret
    exact ⟨ret_int HR.out.symm, HB.out⟩

/-- The bytes of a frame, with a zero sector if there is room. -/
def endB (s : ByteArray) (sz room : Nat) : ByteArray := if s.size / sz < room then s ++ zeroS sz else s
set_option maxHeartbeats 1000000 in
theorem rended_any (s : ByteArray) (sz : Nat) (room : Int) (hr : room ≤ 1000) (hs1 : 1 ≤ sz) (hs2 : sz ≤ 1000) (hs : s.size ≤ 1000000000) (w : World) : Calls Try.prog 46 #[.string s, .int .i64 sz, .int .i64 room] w fun e w' => e = .returned (.string (if ((s.size / sz : Nat) : Int) < room then s ++ zeroS sz else s)) ∧ Below w.heap.size w w' := by
  have CZ := Lib.hid (rzeros_any sz (by omega) w)
  have hq : (s.size : Int) / (sz : Int) = ((s.size / sz : Nat) : Int) := by rfl
  have hz0 : ¬ (sz : Int) = 0 := by omega
  have hzs : (zeroS sz).size ≤ 1000 := by rw [zeroS_size]; exact hs2
  generalize zeroS sz = Z at *
  have hqb : s.size / sz ≤ 1000000000 := Nat.le_trans (Nat.div_le_self _ _) hs
  generalize s.size / sz = q at *
  by_cases h : (q : Int) < room
  · rw [if_pos h]
    go_enter Try.func46, Try.ntmps46
    go_wp2_with fail
    refine CZ.out.mono ?_
    rintro e w1 ⟨rfl, hb⟩
    go_wp2
    go_ret
    exact ⟨rfl, hb⟩
  · rw [if_neg h]
    go_enter Try.func46, Try.ntmps46
    go_wp2
    go_ret
    exact ⟨rfl, Below.refl _ _⟩
end Go.Proofs.Ytockmhhiomdlkaa
