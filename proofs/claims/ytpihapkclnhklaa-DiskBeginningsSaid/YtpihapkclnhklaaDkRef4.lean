/- cordwoodref05.Sync. -/
import Derived.Test.YtpihapkclnhklaaDkRef3
import Derived.Deep.RegionHeld3
namespace Go.Proofs.Ytpihapkclnhklaa
open Go.RowKit

theorem box4 {w w' : World} {g : Nat} {t : TypeId} {a b c d : Value} (h : Blk w g t #[a, b, c, d]) (hb : Below w.heap.size w w') :
    w'.cell? ⟨g, 0, none⟩ = some a ∧ w'.cell? ⟨g, 1, none⟩ = some b ∧ w'.cell? ⟨g, 2, none⟩ = some c ∧ w'.cell? ⟨g, 3, none⟩ = some d :=
  have k := h.keep hb
  ⟨k.cell (j := 0) rfl, k.cell (j := 1) rfl, k.cell (j := 2) rfl, k.cell (j := 3) rfl⟩

theorem Blk.set4 {w : World} {g : Nat} {t : TypeId} {a0 a1 a2 a3 : Value} (h : Blk w g t #[a0, a1, a2, a3]) (b0 b1 b2 b3 : Value) :
    Blk ((((w.setCell ⟨g, 0, none⟩ b0).setCell ⟨g, 1, none⟩ b1).setCell ⟨g, 2, none⟩ b2).setCell ⟨g, 3, none⟩ b3) g t #[b0, b1, b2, b3] :=
  (((h.set 0 b0).set 1 b1).set 2 b2).set 3 b3
theorem set4_below {B g : Nat} {a w : World} (h : Below B a w) (hg : B ≤ g) (b0 b1 b2 b3 : Value) :
    Below B a ((((w.setCell ⟨g, 0, none⟩ b0).setCell ⟨g, 1, none⟩ b1).setCell ⟨g, 2, none⟩ b2).setCell ⟨g, 3, none⟩ b3) :=
  (((h.setCell (p := ⟨g, 0, none⟩) hg _).setCell (p := ⟨g, 1, none⟩) hg _).setCell (p := ⟨g, 2, none⟩) hg _).setCell (p := ⟨g, 3, none⟩) hg _

theorem box8 {w w' : World} {g : Nat} {t : TypeId} {a b c d : Value} (h : Blk w g t #[a, b, c, d]) (hb : Below w.heap.size w w') :
    w'.cell? ⟨g, 0, none⟩ = some a ∧ w'.cell? ⟨g, 1, none⟩ = some b ∧ w'.cell? ⟨g, 2, none⟩ = some c ∧ w'.cell? ⟨g, 3, none⟩ = some d ∧
      w'.frozen? ⟨g, 0, none⟩ = false ∧ w'.frozen? ⟨g, 1, none⟩ = false ∧ w'.frozen? ⟨g, 2, none⟩ = false ∧ w'.frozen? ⟨g, 3, none⟩ = false :=
  have k := h.keep hb
  ⟨k.cell (j := 0) rfl, k.cell (j := 1) rfl, k.cell (j := 2) rfl, k.cell (j := 3) rfl, k.frozen 0, k.frozen 1, k.frozen 2, k.frozen 3⟩

/-- What a function answers that returns a disk and an error. -/
def DkPost (W : World) (d : Dk) (n : Int) (e : Ending) (w' : World) : Prop :=
  ∃ vs vp, e = .returned (.tuple #[.agg #[.int .i64 d.size, vs, vp, .int .i64 d.left], .int .i64 n]) ∧ DskP w' vs vp d ∧ Below W.heap.size W w'
theorem DkPost.mk {W w' : World} {vs vp : Value} {d d' : Dk} {n m z l : Int} (h1 : n = m) (h2 : d' = d) (hz : z = d'.size) (hl : l = d'.left) (hd : DskP w' vs vp d') (hb : Below W.heap.size W w') :
    DkPost W d m (.returned (.tuple #[.agg #[.int .i64 z, vs, vp, .int .i64 l], .int .i64 n])) w' := by
  subst h1 h2 hz hl; exact ⟨_, _, rfl, hd, hb⟩
theorem lessZ_range {n : Int} (h0 : -9223372036854775808 ≤ n) (h1 : n ≤ 9223372036854775807) : -9223372036854775808 ≤ lessZ n ∧ lessZ n ≤ 9223372036854775807 := by
  unfold lessZ; split <;> omega

theorem sy_bad {d : Dk} (h : chk d ≠ 0) : syE d = 1 ∧ syD d = noDisk := by
  have e : syE d = 1 := by unfold syE; rw [if_pos h]
  exact ⟨e, by unfold syD; rw [e, if_neg (by decide), if_neg (by decide)]⟩
theorem sy_lost {d : Dk} (h : chk d = 0) (h2 : d.left = 0) : syE d = 20 ∧ syD d = d := by
  have e : syE d = 20 := by unfold syE; rw [if_neg (by simp [h]), if_pos h2]
  exact ⟨e, by unfold syD; rw [e, if_neg (by decide), if_pos rfl]⟩
theorem sy_ok {d : Dk} (h : chk d = 0) (h2 : ¬ d.left = 0) : syE d = 0 ∧ syD d = ⟨d.size, cur d, [], lessZ d.left⟩ := by
  have e : syE d = 0 := by unfold syE; rw [if_neg (by simp [h]), if_neg h2]
  exact ⟨e, by unfold syD; rw [e, if_pos rfl]⟩

set_option maxRecDepth 100000 in
set_option maxHeartbeats 2000000 in
theorem rsync_any (W : World) (vs vp : Value) (d : Dk) (h : DskP W vs vp d) :
    Calls Try.prog 23 #[.agg #[.int .i64 d.size, vs, vp, .int .i64 d.left]] W (DkPost W (syD d) (syE d)) := by
  obtain ⟨A, c, rfl, hc, hm⟩ := h.sec.form
  obtain ⟨P, cp, rfl, hcp, hmp⟩ := h.pen.form
  have hbk0 := Blk.new W #[.int .i64 d.size, .slice A d.secs.length c, .slice P d.pend.length cp, .int .i64 d.left] 26
  have hbk := hbk0.alloc (.cells #[.int .i64 0, .slice none 0 0, .slice none 0 0, .int .i64 0] 26)
  have hbr := Blk.new (W.alloc (.cells #[.int .i64 d.size, .slice A d.secs.length c, .slice P d.pend.length cp, .int .i64 d.left] 26)) #[.int .i64 0, .slice none 0 0, .slice none 0 0, .int .i64 0] 26
  rw [World.size_alloc] at hbr
  have hd1 := ((Below.refl W.heap.size W).alloc (Nat.le_refl _) (.cells #[.int .i64 d.size, .slice A d.secs.length c, .slice P d.pend.length cp, .int .i64 d.left] 26)).alloc (by simp) (.cells #[.int .i64 0, .slice none 0 0, .slice none 0 0, .int .i64 0] 26)
  have hD1 := h.keep (Keeps.of_below hd1)
  clear hbk0
  go_enter Try.func23, Try.ntmps23
  go_upto_region 1 with (fail)
  generalize (W.alloc (.cells #[.int .i64 d.size, .slice A d.secs.length c, .slice P d.pend.length cp, .int .i64 d.left] 26)).alloc (.cells #[.int .i64 0, .slice none 0 0, .slice none 0 0, .int .i64 0] 26) = w1 at *
  have q0 := hbk.cell (j := 0) rfl
  have q1 := hbk.cell (j := 1) rfl
  have q2 := hbk.cell (j := 2) rfl
  have q3 := hbk.cell (j := 3) rfl
  have c1 := rcheck_any _ _ _ d hD1
  go_wp2_with fail
  refine c1.mono ?_
  clear c1 q0 q1 q2 q3
  rintro e w2 ⟨rfl, hb2⟩
  have hd2 := hd1.trans (hb2.mono hd1.size)
  have hbk2 := hbk.keep hb2
  have hbr2 := hbr.keep hb2
  have hD2 := hD1.keep (Keeps.of_below hb2)
  clear hbk hbr hd1 hD1 hb2
  by_cases hk : chk d = 0
  · have HK := Lib.hid hk
    rw [hk]
    clear hk
    have q0 := hbk2.cell (j := 0) rfl
    have q1 := hbk2.cell (j := 1) rfl
    have q2 := hbk2.cell (j := 2) rfl
    have q3 := hbk2.cell (j := 3) rfl
    by_cases hl : d.left = 0
    · have HE := Lib.hid (sy_lost HK.out hl)
      have hb : (d.left == 0) = true := by simp [hl]
      clear hl
      have r0 := hbr2.frozen 0
      have r1 := hbr2.frozen 1
      have r2 := hbr2.frozen 2
      have r3 := hbr2.frozen 3
      have t0 := hbr2.cell (j := 0) rfl
      have t1 := hbr2.cell (j := 1) rfl
      have t2 := hbr2.cell (j := 2) rfl
      have t3 := hbr2.cell (j := 3) rfl
      go_wp2
      have hx := hbr2.set4 (.int .i64 d.size) (.slice A d.secs.length c) (.slice P d.pend.length cp) (.int .i64 d.left)
      have hdx := set4_below hd2 (show W.heap.size ≤ W.heap.size + 1 by omega) (.int .i64 d.size) (.slice A d.secs.length c) (.slice P d.pend.length cp) (.int .i64 d.left)
      clear r0 r1 r2 r3 t0 t1 t2 t3 q0 q1 q2 q3
      generalize (((w2.setCell ⟨W.heap.size + 1, 0, none⟩ (.int .i64 d.size)).setCell ⟨W.heap.size + 1, 1, none⟩ (.slice A d.secs.length c)).setCell ⟨W.heap.size + 1, 2, none⟩ (.slice P d.pend.length cp)).setCell ⟨W.heap.size + 1, 3, none⟩ (.int .i64 d.left) = wx at *
      have k0 := hx.cell (j := 0) rfl
      have k1 := hx.cell (j := 1) rfl
      have k2 := hx.cell (j := 2) rfl
      have k3 := hx.cell (j := 3) rfl
      exact bodyPost_ret (v := .tuple #[.agg #[.int .i64 d.size, .slice A d.secs.length c, .slice P d.pend.length cp, .int .i64 d.left], .int .i64 20]) (by simp [results, Try.results23, go_sem, k0, k1, k2, k3]) rfl (DkPost.mk HE.out.1.symm HE.out.2.symm rfl rfl (h.keep (Keeps.of_below hdx)) hdx)
    · have HE := Lib.hid (sy_ok HK.out hl)
      have hb : (d.left == 0) = false := by simp [hl]
      clear hl
      have c2 := rcur_any w2.drew _ _ d (hD2.keep (Keeps.drew _)) (chk_zero.1 HK.out)
      have c3 := rless_any d.left h.f0 h.f1
      have C3 := Lib.hid c3
      clear c3
      go_wp2
      go_region_held3 (fun w' => w'.cell? ⟨W.heap.size, 0, none⟩ = some (.int .i64 d.size) ∧ w'.cell? ⟨W.heap.size, 1, none⟩ = some (.slice A d.secs.length c) ∧ w'.cell? ⟨W.heap.size, 2, none⟩ = some (.slice P d.pend.length cp) ∧ w'.cell? ⟨W.heap.size, 3, none⟩ = some (.int .i64 d.left)) (first | exact box4 hbk2 (Below.refl _ _) | exact box4 hbk2.drew (Below.refl _ _) | exact box4 hbk2.drew (by assumption) | go_keep)
        (first
          | (go_at_call 38; refine c2.mono ?_; rintro e w3 ⟨v3, rfl, hv3, hb3⟩; obtain ⟨A3, c3', rfl⟩ := own_form hv3; obtain ⟨t0, t1, t2, t3, r0, r1, r2, r3⟩ := box8 hbr2.drew hb3)
          | (go_at_call 39; refine (C3.out _).mono ?_; rintro e w' ⟨rfl, rfl⟩))
      have hS : (w2.drew).heap.size = w2.heap.size := rfl
      have hlt := hbr2.lt
      have hbr3 := hbr2.drew.keep hb3
      have hd3 := (below_drew1 hd2).trans (hb3.mono hd2.size)
      have hx := hbr3.set4 (.int .i64 d.size) (.slice A3 (cur d).length c3') (.slice none 0 0) (.int .i64 (lessZ d.left))
      have hdx := set4_below hd3 (show W.heap.size ≤ W.heap.size + 1 by omega) (.int .i64 d.size) (.slice A3 (cur d).length c3') (.slice none 0 0) (.int .i64 (lessZ d.left))
      have hvx : OwS _ w2.drew.heap.size (.slice A3 (cur d).length c3') (cur d) := (((hv3.far (p := ⟨W.heap.size + 1, 0, none⟩) hlt (.int .i64 d.size)).far (p := ⟨W.heap.size + 1, 1, none⟩) hlt (.slice A3 (cur d).length c3')).far (p := ⟨W.heap.size + 1, 2, none⟩) hlt (.slice none 0 0)).far (p := ⟨W.heap.size + 1, 3, none⟩) hlt (.int .i64 (lessZ d.left))
      have hlz := lessZ_range h.f0 h.f1
      clear r0 r1 r2 r3 t0 t1 t2 t3 q0 q1 q2 q3 hS
      go_wp2
      generalize (((w3.setCell ⟨W.heap.size + 1, 0, none⟩ (.int .i64 d.size)).setCell ⟨W.heap.size + 1, 1, none⟩ (.slice A3 (cur d).length c3')).setCell ⟨W.heap.size + 1, 2, none⟩ (.slice none 0 0)).setCell ⟨W.heap.size + 1, 3, none⟩ (.int .i64 (lessZ d.left)) = wx at *
      have k0 := hx.cell (j := 0) rfl
      have k1 := hx.cell (j := 1) rfl
      have k2 := hx.cell (j := 2) rfl
      have k3 := hx.cell (j := 3) rfl
      exact bodyPost_ret (v := .tuple #[.agg #[.int .i64 d.size, .slice A3 (cur d).length c3', .slice none 0 0, .int .i64 (lessZ d.left)], .int .i64 0]) (by simp [results, Try.results23, go_sem, k0, k1, k2, k3]) rfl (DkPost.mk HE.out.1.symm HE.out.2.symm rfl rfl ⟨hvx.strs, Sl.nil _ _ _, h.z0, h.z1, hlz.1, hlz.2⟩ hdx)
  · have HE := Lib.hid (sy_bad hk)
    have hb : (chk d != 0) = true := by simp [hk]
    clear hk
    generalize chk d = full at *
    have r0 := hbr2.frozen 0
    have r1 := hbr2.frozen 1
    have r2 := hbr2.frozen 2
    have r3 := hbr2.frozen 3
    have t0 := hbr2.cell (j := 0) rfl
    have t1 := hbr2.cell (j := 1) rfl
    have t2 := hbr2.cell (j := 2) rfl
    have t3 := hbr2.cell (j := 3) rfl
    go_wp2
    have hx := hbr2.set4 (.int .i64 0) (.slice none 0 0) (.slice none 0 0) (.int .i64 0)
    have hdx := set4_below hd2 (show W.heap.size ≤ W.heap.size + 1 by omega) (.int .i64 0) (.slice none 0 0) (.slice none 0 0) (.int .i64 0)
    clear r0 r1 r2 r3 t0 t1 t2 t3
    generalize (((w2.setCell ⟨W.heap.size + 1, 0, none⟩ (.int .i64 0)).setCell ⟨W.heap.size + 1, 1, none⟩ (.slice none 0 0)).setCell ⟨W.heap.size + 1, 2, none⟩ (.slice none 0 0)).setCell ⟨W.heap.size + 1, 3, none⟩ (.int .i64 0) = wx at *
    have k0 := hx.cell (j := 0) rfl
    have k1 := hx.cell (j := 1) rfl
    have k2 := hx.cell (j := 2) rfl
    have k3 := hx.cell (j := 3) rfl
    exact bodyPost_ret (v := .tuple #[.agg #[.int .i64 0, .slice none 0 0, .slice none 0 0, .int .i64 0], .int .i64 1]) (by simp [results, Try.results23, go_sem, k0, k1, k2, k3]) rfl (DkPost.mk HE.out.1.symm HE.out.2.symm rfl rfl (Dsk.nodisk _) hdx)
end Go.Proofs.Ytpihapkclnhklaa
