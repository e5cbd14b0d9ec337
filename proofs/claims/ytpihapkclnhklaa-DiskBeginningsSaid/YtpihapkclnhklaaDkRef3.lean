/- cordwoodref05.Read, Sync. -/
import Derived.Test.YtpihapkclnhklaaDkRef2
namespace Go.Proofs.Ytpihapkclnhklaa
open Go.RowKit

theorem rd_bad {d : Dk} {i : Int} (h : chk d ≠ 0) : rdE d i = 1 ∧ rdB d i = ⟨#[]⟩ := by
  have e : rdE d i = 1 := by unfold rdE; rw [if_pos h]
  exact ⟨e, by unfold rdB; rw [e, if_neg (by decide)]⟩
theorem rd_out {d : Dk} {i : Int} (h : chk d = 0) (h2 : i < 0 ∨ (d.secs.length : Int) ≤ i) : rdE d i = 2 ∧ rdB d i = ⟨#[]⟩ := by
  have e : rdE d i = 2 := by unfold rdE; rw [if_neg (by simp [h]), if_pos h2]
  exact ⟨e, by unfold rdB; rw [e, if_neg (by decide)]⟩
theorem rd_in {d : Dk} {m : Nat} (h : chk d = 0) (hm : m < d.secs.length) (h' : m < (cur d).length) : rdE d m = 0 ∧ rdB d m = (cur d)[m] := by
  have e : rdE d m = 0 := by unfold rdE; rw [if_neg (by simp [h]), if_neg (by omega)]
  refine ⟨e, ?_⟩
  unfold rdB
  rw [e, if_pos rfl, Int.toNat_natCast, List.getD_eq_getElem?_getD, List.getElem?_eq_getElem h']; rfl

def RdPost (W : World) (s : ByteArray) (n : Int) (e : Ending) (w' : World) : Prop := e = .returned (.tuple #[.string s, .int .i64 n]) ∧ Below W.heap.size W w'
theorem RdPost.mk {W w' : World} {s t : ByteArray} {n m : Int} (h1 : n = m) (h2 : s = t) (hb : Below W.heap.size W w') : RdPost W t m (.returned (.tuple #[.string s, .int .i64 n])) w' := by
  subst h1 h2; exact ⟨rfl, hb⟩

set_option maxRecDepth 100000 in
set_option maxHeartbeats 1000000 in
theorem rread_any (W : World) (vs vp : Value) (d : Dk) (h : DskP W vs vp d) (i : Int) (hi0 : -9223372036854775808 ≤ i) (hi1 : i ≤ 9223372036854775807) :
    Calls Try.prog 20 #[.agg #[.int .i64 d.size, vs, vp, .int .i64 d.left], .int .i64 i] W (RdPost W (rdB d i) (rdE d i)) := by
  obtain ⟨A, c, rfl, hc, hm⟩ := h.sec.form
  obtain ⟨P, cp, rfl, hcp, hmp⟩ := h.pen.form
  have hbk := Blk.new W #[.int .i64 d.size, .slice A d.secs.length c, .slice P d.pend.length cp, .int .i64 d.left] 26
  have hd1 := (Below.refl W.heap.size W).alloc (Nat.le_refl _) (.cells #[.int .i64 d.size, .slice A d.secs.length c, .slice P d.pend.length cp, .int .i64 d.left] 26)
  have hD1 := h.keep (Keeps.of_below hd1)
  have c1 := rcheck_any _ _ _ d hD1
  go_enter Try.func20, Try.ntmps20
  go_wp2_with fail
  refine c1.mono ?_
  clear c1
  generalize W.alloc (.cells #[.int .i64 d.size, .slice A d.secs.length c, .slice P d.pend.length cp, .int .i64 d.left] 26) = w1 at *
  rintro e w2 ⟨rfl, hb2⟩
  have hd2 := hd1.trans (hb2.mono hd1.size)
  have hbk2 := hbk.keep hb2
  have hD2 := hD1.keep (Keeps.of_below hb2)
  clear hbk hd1 hD1 hb2
  by_cases hk : chk d = 0
  · have HK := Lib.hid hk
    rw [hk]
    clear hk
    have q0 := hbk2.cell (j := 0) rfl
    have q1 := hbk2.cell (j := 1) rfl
    have q2 := hbk2.cell (j := 2) rfl
    have q3 := hbk2.cell (j := 3) rfl
    by_cases hout : i < 0 ∨ (d.secs.length : Int) ≤ i
    · have hE := rd_out HK.out hout
      have HE := Lib.hid hE
      clear hE
      have hcase : i < 0 ∨ (¬ i < 0 ∧ (d.secs.length : Int) ≤ i) := by omega
      clear hout
      rcases hcase with h1 | ⟨h1, h2⟩
      all_goals
        go_wp2
        go_ret2
        exact RdPost.mk HE.out.1.symm HE.out.2.symm hd2
    · obtain ⟨m, rfl⟩ := Int.eq_ofNat_of_zero_le (show 0 ≤ i by omega)
      have hml : m < d.secs.length := by omega
      have hmc : m < (cur d).length := by rw [cur_length]; exact hml
      have HE := Lib.hid (rd_in HK.out hml hmc)
      have c2 := rcur_any _ _ _ d hD2 (chk_zero.1 HK.out)
      have h1 : ¬ (m : Int) < 0 := by omega
      have h2 : ¬ (d.secs.length : Int) ≤ (m : Int) := by omega
      clear hout
      go_wp2_with fail
      refine c2.mono ?_
      clear c2 q0 q1 q2 q3 hbk2
      rintro e w3 ⟨v3, rfl, hv3', hb3⟩
      have hv3 := hv3'.strs
      clear hv3'
      obtain ⟨A3, c3, rfl, hc3, hm3⟩ := hv3.form
      obtain ⟨b3, off3, rfl, a3⟩ := hv3.get hmc
      have hd3 := hd2.trans (hb3.mono hd2.size)
      have hl3 : (m : Int) < ((cur d).length : Int) := by omega
      have hH := Lib.hid hmc
      generalize hL : (cur d)[m] = s at *
      have HL := Lib.hid hL
      clear hL
      go_wp2
      go_ret2
      exact RdPost.mk HE.out.1.symm HE.out.2.symm hd3
  · have HE := Lib.hid (rd_bad (i := i) hk)
    have hb : (chk d != 0) = true := by simp [hk]
    clear hk
    generalize chk d = full at *
    go_wp2
    go_ret2
    exact RdPost.mk HE.out.1.symm HE.out.2.symm hd2
end Go.Proofs.Ytpihapkclnhklaa
