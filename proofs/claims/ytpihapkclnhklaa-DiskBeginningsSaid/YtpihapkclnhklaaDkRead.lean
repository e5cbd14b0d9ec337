/- disk.Read. -/
import Derived.Test.YtpihapkclnhklaaDkBack
namespace Go.Proofs.Ytpihapkclnhklaa
open Go.RowKit

/-- The boxes of Read. -/
structure RdBoxes (W : World) (d : Dk) (vs vp : Value) (i : Int) (s : ByteArray) (n : Int) (w : World) : Prop where
  dk : Blk w W.heap.size 26 #[.int .i64 d.size, vs, vp, .int .i64 d.left]
  ix : Blk w (W.heap.size + 1) 3 #[.int .i64 i]
  rs : Blk w (W.heap.size + 2) 9 #[.string s]
  re : Blk w (W.heap.size + 3) 27 #[.int .i64 n]
  bl : Below W.heap.size W w
section
variable {W w w' : World} {d : Dk} {vs vp : Value} {i n : Int} {s : ByteArray}
theorem RdBoxes.keep (h : RdBoxes W d vs vp i s n w) (hb : Below w.heap.size w w') : RdBoxes W d vs vp i s n w' :=
  ⟨h.dk.keep hb, h.ix.keep hb, h.rs.keep hb, h.re.keep hb, h.bl.trans (hb.mono h.bl.size)⟩
theorem RdBoxes.set (h : RdBoxes W d vs vp i s n w) (s' : ByteArray) (n' : Int) :
    RdBoxes W d vs vp i s' n' ((w.setCell ⟨W.heap.size + 2, 0, none⟩ (.string s')).setCell ⟨W.heap.size + 3, 0, none⟩ (.int .i64 n')) :=
  ⟨(h.dk.far (p := ⟨W.heap.size + 2, 0, none⟩) (by simp) _).far (p := ⟨W.heap.size + 3, 0, none⟩) (by simp) _,
   (h.ix.far (p := ⟨W.heap.size + 2, 0, none⟩) (by simp) _).far (p := ⟨W.heap.size + 3, 0, none⟩) (by simp) _,
   (h.rs.set 0 _).far (p := ⟨W.heap.size + 3, 0, none⟩) (by simp) _,
   (h.re.far (p := ⟨W.heap.size + 2, 0, none⟩) (by simp) _).set 0 _,
   (h.bl.setCell (p := ⟨W.heap.size + 2, 0, none⟩) (show W.heap.size ≤ W.heap.size + 2 by omega) _).setCell (p := ⟨W.heap.size + 3, 0, none⟩) (show W.heap.size ≤ W.heap.size + 3 by omega) _⟩
theorem RdBoxes.facts (h : RdBoxes W d vs vp i s n w) :
    w.cell? ⟨W.heap.size, 0, none⟩ = some (.int .i64 d.size) ∧ w.cell? ⟨W.heap.size, 1, none⟩ = some vs ∧ w.cell? ⟨W.heap.size, 2, none⟩ = some vp ∧ w.cell? ⟨W.heap.size, 3, none⟩ = some (.int .i64 d.left) ∧
    w.cell? ⟨W.heap.size + 1, 0, none⟩ = some (.int .i64 i) ∧ w.cell? ⟨W.heap.size + 2, 0, none⟩ = some (.string s) ∧ w.cell? ⟨W.heap.size + 3, 0, none⟩ = some (.int .i64 n) ∧
    w.frozen? ⟨W.heap.size + 2, 0, none⟩ = false ∧ w.frozen? ⟨W.heap.size + 3, 0, none⟩ = false :=
  ⟨h.dk.cell (j := 0) rfl, h.dk.cell (j := 1) rfl, h.dk.cell (j := 2) rfl, h.dk.cell (j := 3) rfl, h.ix.cell (j := 0) rfl, h.rs.cell (j := 0) rfl, h.re.cell (j := 0) rfl, h.rs.frozen 0, h.re.frozen 0⟩
/-- They lie on where a block that is no cells is turned, and where new blocks are made. -/
theorem RdBoxes.own (h : RdBoxes W d vs vp i s n w) {row : Option Nat} (hg : w.grownBy w' row) (hr : ∀ r, row = some r → W.heap.size + 4 ≤ r) : RdBoxes W d vs vp i s n w' := by
  have e : ∀ {g t cs}, Blk w g t cs → g < W.heap.size + 4 → Blk w' g t cs := fun {g t cs} hb hl => (hg.block g hb.lt (fun e => by have := hr g e.symm; omega)).trans hb
  exact ⟨e h.dk (by omega), e h.ix (by omega), e h.rs (by omega), e h.re (by omega), h.bl.grown hg h.bl.size (fun k e => by have := hr k e; omega)⟩
end
theorem RdBoxes.new (W : World) (d : Dk) (vs vp : Value) (i : Int) :
    RdBoxes W d vs vp i ⟨#[]⟩ 0 ((((W.alloc (.cells #[.int .i64 d.size, vs, vp, .int .i64 d.left] 26)).alloc (.cells #[.int .i64 i] 3)).alloc (.cells #[.string ⟨#[]⟩] 9)).alloc (.cells #[.int .i64 0] 27)) := by
  have h0 := Blk.new W #[.int .i64 d.size, vs, vp, .int .i64 d.left] 26
  have h1 := Blk.new (W.alloc (.cells #[.int .i64 d.size, vs, vp, .int .i64 d.left] 26)) #[.int .i64 i] 3
  have h2 := Blk.new ((W.alloc (.cells #[.int .i64 d.size, vs, vp, .int .i64 d.left] 26)).alloc (.cells #[.int .i64 i] 3)) #[.string ⟨#[]⟩] 9
  have h3 := Blk.new (((W.alloc (.cells #[.int .i64 d.size, vs, vp, .int .i64 d.left] 26)).alloc (.cells #[.int .i64 i] 3)).alloc (.cells #[.string ⟨#[]⟩] 9)) #[.int .i64 0] 27
  simp only [World.size_alloc] at h1 h2 h3
  exact ⟨((h0.alloc _).alloc _).alloc _, (h1.alloc _).alloc _, h2.alloc _, h3, ((((Below.refl _ _).alloc (Nat.le_refl _) _).alloc (by simp) _).alloc (by simp; omega) _).alloc (by simp; omega) _⟩

set_option maxRecDepth 100000 in
set_option maxHeartbeats 1000000 in
theorem read_err (W : World) (vs vp : Value) (d : Dk) (h : DskP W vs vp d) (i : Int) (hi0 : -9223372036854775808 ≤ i) (hi1 : i ≤ 9223372036854775807) (hbad : rdE d i ≠ 0) :
    Calls Try.prog 19 #[.agg #[.int .i64 d.size, vs, vp, .int .i64 d.left], .int .i64 i] W (RdPost W (rdB d i) (rdE d i)) := by
  obtain ⟨A, c, rfl, hc, hm⟩ := h.sec.form
  obtain ⟨P, cp, rfl, hcp, hmp⟩ := h.pen.form
  have hB := RdBoxes.new W d (.slice A d.secs.length c) (.slice P d.pend.length cp) i
  have HB := Lib.hid hbad
  clear hbad
  go_enter Try.func19, Try.ntmps19
  go_upto_region 1 with (fail)
  generalize (((W.alloc (.cells #[.int .i64 d.size, .slice A d.secs.length c, .slice P d.pend.length cp, .int .i64 d.left] 26)).alloc (.cells #[.int .i64 i] 3)).alloc (.cells #[.string ⟨#[]⟩] 9)).alloc (.cells #[.int .i64 0] 27) = w1 at *
  obtain ⟨q0, q1, q2, q3, q4, q5, q6, f5, f6⟩ := hB.facts
  have c1 := check_any _ _ _ d (h.keep (Keeps.of_below hB.bl))
  go_wp2_with fail
  refine c1.mono ?_
  clear c1 q0 q1 q2 q3 q4 q5 q6 f5 f6
  rintro e w2 ⟨rfl, hb2⟩
  have hB2 := hB.keep hb2
  clear hB hb2
  obtain ⟨q0, q1, q2, q3, q4, q5, q6, f5, f6⟩ := hB2.facts
  by_cases hk : chk d = 0
  · have HK := Lib.hid hk
    rw [hk]
    clear hk
    have hout : i < 0 ∨ (d.secs.length : Int) ≤ i := by
      apply Classical.byContradiction
      intro hno
      obtain ⟨m, rfl⟩ := Int.eq_ofNat_of_zero_le (show 0 ≤ i by omega)
      exact HB.out (rd_in HK.out (show m < d.secs.length by omega) (by rw [cur_length]; omega)).1
    have HE := Lib.hid (rd_out HK.out hout)
    have c2 := has_any d.size d.left i A d.secs.length c (.slice P d.pend.length cp) hc hm w2
    rw [show hasB d.secs.length i = false from decide_eq_false (by omega)] at c2
    clear hout
    go_wp2_with fail
    refine c2.mono ?_
    clear c2 q0 q1 q2 q3 q4 q5 q6 f5 f6
    rintro e w3 ⟨rfl, hb3⟩
    have hB3 := hB2.keep hb3
    clear hB2 hb3
    obtain ⟨q0, q1, q2, q3, q4, q5, q6, f5, f6⟩ := hB3.facts
    have hB4 := hB3.set ⟨#[]⟩ 2
    go_wp2
    clear q0 q1 q2 q3 q4 q5 q6 f5 f6
    generalize (w3.setCell ⟨W.heap.size + 2, 0, none⟩ (.string ⟨#[]⟩)).setCell ⟨W.heap.size + 3, 0, none⟩ (.int .i64 2) = wx at *
    obtain ⟨q0, q1, q2, q3, q4, q5, q6, f5, f6⟩ := hB4.facts
    exact bodyPost_ret (v := .tuple #[.string ⟨#[]⟩, .int .i64 2]) (by simp [results, Try.results19, go_sem, q5, q6]) rfl (RdPost.mk HE.out.1.symm HE.out.2.symm hB4.bl)
  · have HE := Lib.hid (rd_bad (i := i) hk)
    have hb : (chk d != 0) = true := by simp [hk]
    clear hk
    generalize chk d = full at *
    have hB4 := hB2.set ⟨#[]⟩ 1
    go_wp2
    clear q0 q1 q2 q3 q4 q5 q6 f5 f6
    generalize (w2.setCell ⟨W.heap.size + 2, 0, none⟩ (.string ⟨#[]⟩)).setCell ⟨W.heap.size + 3, 0, none⟩ (.int .i64 1) = wx at *
    obtain ⟨q0, q1, q2, q3, q4, q5, q6, f5, f6⟩ := hB4.facts
    exact bodyPost_ret (v := .tuple #[.string ⟨#[]⟩, .int .i64 1]) (by simp [results, Try.results19, go_sem, q5, q6]) rfl (RdPost.mk HE.out.1.symm HE.out.2.symm hB4.bl)
end Go.Proofs.Ytpihapkclnhklaa
