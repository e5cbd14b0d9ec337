/- cordwoodref19.gap. -/
import Derived.Test.YthobbcafemkhbaaTmAgreed
namespace Go.Proofs.Ythobbcafemkhbaa
open Go.RowKit

theorem Far.drewN {w : World} {B : Nat} {φ : World → Prop} (h : Far w B φ) (n : Nat) : Far (w.drewN n) B φ := fun w' k => h w' ⟨k.size, k.block⟩

set_option maxRecDepth 100000 in
set_option maxHeartbeats 2000000 in
theorem gap_any (w : World) (B : Nat) (v vb vl vr : Value) (L : List Rg) (b l r : List ByteArray) (h : Row w B v L) (hB : B ≤ w.heap.size) (hb : Far w B fun w' => Strs w' vb b) (hl : Far w B fun w' => Strs w' vl l) (hr : Far w B fun w' => Strs w' vr r)
    {N : Nat} (hN : RgB N L) (hN1 : N ≤ 1000000) (hll : l.length ≤ 1000000) (hlr : r.length ≤ 1000000) :
    Calls Try.prog 40 #[v, vb, vl, vr] w (RowPost w B v (addG L b l r)) := by
  obtain ⟨i1, hi1, hy0, hy1, hy2⟩ := info_parts Try.info_reg
  obtain ⟨A, c, rfl, hc1, hc2⟩ := h.form
  obtain ⟨Ab, cb, rfl, hb1, hb2⟩ := hb.now.form
  obtain ⟨Al, cl, rfl, hl1, hl2⟩ := hl.now.form
  obtain ⟨Ar, cr, rfl, hr1, hr2⟩ := hr.now.form
  have c1 := same_any w _ _ _ _ hl.now hr.now
  have c2 := fun n => same_any (w.drewN n) _ _ _ _ (hb.drewN n).now (hr.drewN n).now
  have c3 := fun n => same_any (w.drewN n) _ _ _ _ (hb.drewN n).now (hl.drewN n).now
  have k1 := fun n => agreed_any (w.drewN n) B _ _ L l (h.below (below_drewN' (Below.refl _ _) n)) hB (hl.drewN n).now hN hN1 hll
  have k2 := fun n => agreed_any (w.drewN n) B _ _ L r (h.below (below_drewN' (Below.refl _ _) n)) hB (hr.drewN n).now hN hN1 hlr
  have hlen : L.length ≤ 1000000 := by have := hN.1; omega
  have C1 := Lib.hid c1
  have C2 := Lib.hid c2
  have C3 := Lib.hid c3
  have K1 := Lib.hid k1
  have K2 := Lib.hid k2
  clear c1 c2 c3 k1 k2
  by_cases h1 : l = r
  · have HE : Hid (addG L b l r = addL L l) := by show _ = _; subst h1; exact addG_same _ _ _
    rw [eqB_true h1] at C1
    clear h1 hb hl hr h
    go_enter Try.func40, Try.ntmps40
    go_wp2_with fail
    refine C1.out.mono ?_
    rintro e w1 ⟨rfl, n, rfl⟩
    go_wp2_with fail
    refine (K1.out n).mono ?_
    rintro e w2 ⟨v2, rfl, hp⟩
    go_wp2
    go_ret
    rw [HE.out]
    exact RowPost.drawn ⟨n, rfl⟩ ⟨v2, rfl, hp⟩
  · rw [eqB_false h1] at C1
    by_cases h2 : b = r
    · have HE : Hid (addG L b l r = addL L l) := by show _ = _; subst h2; exact addG_right _ _ _
      rw [eqB_true h2] at C2
      clear h1 h2 hb hl hr h
      go_enter Try.func40, Try.ntmps40
      go_wp2_with fail
      refine C1.out.mono ?_
      rintro e w1 ⟨rfl, n, rfl⟩
      go_wp2_with fail
      refine (C2.out n).mono ?_
      rintro e w1 ⟨rfl, m, rfl⟩
      go_wp2_with fail
      refine (K1.out (n + m)).mono ?_
      rintro e w2 ⟨v2, rfl, hp⟩
      go_wp2
      go_ret
      rw [HE.out]
      exact RowPost.drawn ⟨n + m, rfl⟩ ⟨v2, rfl, hp⟩
    · rw [eqB_false h2] at C2
      by_cases h3 : b = l
      · have HE : Hid (addG L b l r = addL L r) := by show _ = _; subst h3; exact addG_left _ _ _
        rw [eqB_true h3] at C3
        clear h1 h2 h3 hb hl hr h
        go_enter Try.func40, Try.ntmps40
        go_wp2_with fail
        refine C1.out.mono ?_
        rintro e w1 ⟨rfl, n, rfl⟩
        go_wp2_with fail
        refine (C2.out n).mono ?_
        rintro e w1 ⟨rfl, m, rfl⟩
        go_wp2_with fail
        refine (C3.out (n + m)).mono ?_
        rintro e w1 ⟨rfl, o, rfl⟩
        go_wp2_with fail
        refine (K2.out (n + m + o)).mono ?_
        rintro e w2 ⟨v2, rfl, hp⟩
        go_wp2
        go_ret
        rw [HE.out]
        exact RowPost.drawn ⟨n + m + o, rfl⟩ ⟨v2, rfl, hp⟩
      · have HE : Hid (addG L b l r = L ++ [(true, b, l, r)]) := by show _ = _; unfold addG; rw [if_neg h1, if_neg h3, if_neg h2]
        rw [eqB_false h3] at C3
        have how := h.lt
        obtain ⟨cells, hown, hst⟩ := h
        have hreg := fun n => reg_stab (c := true) ((hb.drewN n).own fun g hg => (how g hg).1) ((hl.drewN n).own fun g hg => (how g hg).1) ((hr.drewN n).own fun g hg => (how g hg).1)
        have hst' : ∀ n, Stab (w.drewN n) (OwnOf (.slice A L.length c)) fun w' => Elems 4 (RgR w') L cells := fun n w' k => hst w' ⟨k.size, k.block⟩
        have hown' : ∀ n, (w.drewN n).ownsRow B 58 4 (.slice A L.length c) L.length cells := fun n => own_below hown (below_drewN' (Below.refl _ _) n)
        have HR := Lib.hid hreg
        have HST := Lib.hid hst'
        have HOW := Lib.hid hown'
        clear h1 h2 h3 hb hl hr hreg hst' hown' hst hown how
        go_enter Try.func40, Try.ntmps40
        go_wp2_with fail
        refine C1.out.mono ?_
        rintro e w1 ⟨rfl, n, rfl⟩
        go_wp2_with fail
        refine (C2.out n).mono ?_
        rintro e w1 ⟨rfl, m, rfl⟩
        go_wp2_with fail
        refine (C3.out (n + m)).mono ?_
        rintro e w1 ⟨rfl, o, rfl⟩
        rw [World.drewN_drewN]
        have hown := HOW.out (n + m + o)
        have hst := HST.out (n + m + o)
        have hreg := HR.out (n + m + o)
        have hd : Drawn w (w.drewN (n + m + o)) := ⟨_, rfl⟩
        have hBq : B ≤ (w.drewN (n + m + o)).heap.size := hB
        clear HOW HST HR C1 C2 C3 K1 K2 hB
        generalize w.drewN (n + m + o) = wq at *
        go_wp2_with (at_builtin; go_must (refine wpList_append_any _ rfl (.tmp 26) (.tmp 31) _ rfl B 58 i1 _ 4 80 Try.underlying24 hi1 hy0 hy1 hy2 rfl (by omega) (.slice A L.length c) L.length cells rfl (hown.alloc _) _ 1 1 [.bool true, .slice Ab b.length cb, .slice Al l.length cl, .slice Ar r.length cr] rfl rfl (CellsAt.of_new _ _ _ _) (by simp [Value.oneCell']) (by omega) (by omega) (by simp; omega) ?_)
                     intro v2 w2 ho2 hg2 ha2)
        go_ret
        rw [HE.out]
        exact RowPost.drawn hd ⟨v2, rfl, row_end hst hown hBq (Below.refl _ _) hreg hg2 ho2 ha2⟩
end Go.Proofs.Ythobbcafemkhbaa
