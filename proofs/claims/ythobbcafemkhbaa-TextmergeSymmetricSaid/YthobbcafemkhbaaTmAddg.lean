/- textmerge.addGap. -/
import Derived.Test.YthobbcafemkhbaaTmAddl
import Derived.Test.YthobbcafemkhbaaTmGap
namespace Go.Proofs.Ythobbcafemkhbaa
open Go.RowKit

section
variable {w w1 w2 : World} {B : Nat} {v v2 vb vl vr : Value} {L : List Rg} {b l r : List ByteArray} {cells : List Value} {ob : Obj}
theorem crow_conf (hst : Stab w (OwnOf v) fun w' => Elems 4 (RgR w') L cells) (hown : w.ownsRow B 58 4 v L.length cells) (hB : B ≤ w.heap.size) (hb1 : Below w.heap.size w w1)
    {B1 B2 B3 : Nat} (hb : Ow w1 B1 9 1 Str1 vb b) (hl : Ow w1 B2 9 1 Str1 vl l) (hr : Ow w1 B3 9 1 Str1 vr r)
    (hg2 : (w1.alloc ob).grownBy w2 v.ownBlock) (ho2 : w2.ownsRow B 58 4 v2 (L.length + 1) (cells ++ [.bool true, vb, vl, vr])) (ha2 : v2.ownBlock = v.ownBlock ∨ v2.ownBlock = some (w1.alloc ob).heap.size) :
    CRow w2 B v2 (L ++ [(true, b, l, r)]) ∧ Below B w w2 ∧ FrX w w2 := by
  have hown1 := own_below hown hb1
  have key : ∀ {B' : Nat} {u : Value} {xs : List ByteArray}, Ow w1 B' 9 1 Str1 u xs → Stab w1 (OwnOf v) fun w' => Strs w' u xs := fun h => by
    obtain ⟨vs, o1, o2⟩ := id h
    exact (h.stab (M := OwnOf v) (own_own_ne o1 hown1 (by decide))).imp fun _ h => h.sl
  obtain ⟨⟨cs, r1, r2⟩, r3, _, _⟩ := row_end hst hown hB hb1 (reg_stab (c := true) (key hb) (key hl) (key hr)) hg2 ho2 ha2
  exact ⟨⟨cs, r1, .inl ⟨.inr ⟨L, _, rfl⟩, r2⟩⟩, r3, (FrX.of_below hb1).trans ((FrX.of_below ((Below.refl _ _).alloc (Nat.le_refl _) ob)).trans (FrX.grown (hown1.alloc ob) (.inl rfl) hg2))⟩
end

set_option maxRecDepth 100000 in
set_option maxHeartbeats 2000000 in
theorem addGap_any (w : World) (B : Nat) (v vb vl vr : Value) (L : List Rg) (b l r : List ByteArray) (h : CRow w B v L) (hB : B ≤ w.heap.size) (hb : Strs w vb b) (hl : Strs w vl l) (hr : Strs w vr r)
    {N : Nat} (hN : RgB N L) (hN1 : N ≤ 1000000) (hlb : b.length ≤ 1000000) (hll : l.length ≤ 1000000) (hlr : r.length ≤ 1000000) :
    Calls Try.prog 37 #[v, vb, vl, vr] w (CRowPost w B (addG L b l r)) := by
  obtain ⟨i1, hi1, hy0, hy1, hy2⟩ := info_parts Try.info_reg
  obtain ⟨A, c, rfl, hc1, hc2⟩ := h.form
  have bd : ∀ n, Below w.heap.size w (w.drewN n) := fun n => below_drewN' (Below.refl _ _) n
  have c1 := equal_any w _ _ _ _ hl hr
  have c2 := fun n => equal_any (w.drewN n) _ _ _ _ (hb.keep (Keeps.drewN w n)) (hl.keep (Keeps.drewN w n))
  have c3 := fun n => equal_any (w.drewN n) _ _ _ _ (hb.keep (Keeps.drewN w n)) (hr.keep (Keeps.drewN w n))
  have k1 := fun n => addLines_any (w.drewN n) B _ _ L l (h.below (bd n)) hB (hl.keep (Keeps.drewN w n)) hN hN1 hll
  have k2 := fun n => addLines_any (w.drewN n) B _ _ L r (h.below (bd n)) hB (hr.keep (Keeps.drewN w n)) hN hN1 hlr
  have d1 := fun w' (h : Strs w' vb b) => clone_any w' _ b h hlb
  have d2 := fun w' (h : Strs w' vl l) => clone_any w' _ l h hll
  have d3 := fun w' (h : Strs w' vr r) => clone_any w' _ r h hlr
  have hlen : L.length ≤ 1000000 := by have := hN.1; omega
  have C1 := Lib.hid c1
  have C2 := Lib.hid c2
  have C3 := Lib.hid c3
  have K1 := Lib.hid k1
  have K2 := Lib.hid k2
  have D1 := Lib.hid d1
  have D2 := Lib.hid d2
  have D3 := Lib.hid d3
  have SB := Lib.hid hb
  have SL := Lib.hid hl
  have SR := Lib.hid hr
  obtain ⟨Ab, cb, rfl, hb1, hb2⟩ := hb.form
  obtain ⟨Al, cl, rfl, hl1, hl2⟩ := hl.form
  obtain ⟨Ar, cr, rfl, hr1, hr2⟩ := hr.form
  clear c1 c2 c3 k1 k2 d1 d2 d3 hb hl hr
  by_cases h1 : l = r
  · have HE : Hid (addG L b l r = addL L l) := by show _ = _; subst h1; exact addG_same _ _ _
    rw [eqB_true h1] at C1
    clear h1 h
    go_enter Try.func37, Try.ntmps37
    go_wp2_with fail
    refine C1.out.mono ?_
    rintro e w1 ⟨rfl, n, rfl⟩
    go_wp2_with fail
    refine (K1.out n).mono ?_
    rintro e w2 ⟨v2, rfl, hp⟩
    go_wp2
    go_ret
    rw [HE.out]
    exact CRowPost.after (bd n) hB ⟨v2, rfl, hp⟩
  · rw [eqB_false h1] at C1
    by_cases h2 : b = l
    · have HE : Hid (addG L b l r = addL L r) := by show _ = _; subst h2; exact addG_left _ _ _
      rw [eqB_true h2] at C2
      clear h1 h2 h
      go_enter Try.func37, Try.ntmps37
      go_wp2_with fail
      refine C1.out.mono ?_
      rintro e w1 ⟨rfl, n, rfl⟩
      go_wp2_with fail
      refine (C2.out n).mono ?_
      rintro e w1 ⟨rfl, m, rfl⟩
      go_wp2_with fail
      refine (K2.out (n + m)).mono ?_
      rintro e w2 ⟨v2, rfl, hp⟩
      go_wp2
      go_ret
      rw [HE.out]
      exact CRowPost.after (bd (n + m)) hB ⟨v2, rfl, hp⟩
    · rw [eqB_false h2] at C2
      by_cases h3 : b = r
      · have HE : Hid (addG L b l r = addL L l) := by show _ = _; subst h3; exact addG_right _ _ _
        rw [eqB_true h3] at C3
        clear h1 h2 h3 h
        go_enter Try.func37, Try.ntmps37
        go_wp2_with fail
        refine C1.out.mono ?_
        rintro e w1 ⟨rfl, n, rfl⟩
        go_wp2_with fail
        refine (C2.out n).mono ?_
        rintro e w1 ⟨rfl, m, rfl⟩
        go_wp2_with fail
        refine (C3.out (n + m)).mono ?_
        rintro e w1 ⟨rfl, o, rfl⟩
        go_wp2_with fail
        refine (K1.out (n + m + o)).mono ?_
        rintro e w2 ⟨v2, rfl, hp⟩
        go_wp2
        go_ret
        rw [HE.out]
        exact CRowPost.after (bd (n + m + o)) hB ⟨v2, rfl, hp⟩
      · have HE : Hid (addG L b l r = L ++ [(true, b, l, r)]) := by show _ = _; unfold addG; rw [if_neg h1, if_neg h2, if_neg h3]
        rw [eqB_false h3] at C3
        have HH := Lib.hid fun n => (h.below (bd n)).row
        clear h1 h2 h3 h
        go_enter Try.func37, Try.ntmps37
        go_wp2_with fail
        refine C1.out.mono ?_
        rintro e w1 ⟨rfl, n, rfl⟩
        go_wp2_with fail
        refine (C2.out n).mono ?_
        rintro e w1 ⟨rfl, m, rfl⟩
        go_wp2_with fail
        refine (C3.out (n + m)).mono ?_
        rintro e w1 ⟨rfl, o, rfl⟩
        rw [World.drewN_drewN]
        obtain ⟨cells, hown, hst⟩ := HH.out (n + m + o)
        have hbd := bd (n + m + o)
        have sb := SB.out.keep (Keeps.drewN w (n + m + o))
        have sl := SL.out.keep (Keeps.drewN w (n + m + o))
        have sr := SR.out.keep (Keeps.drewN w (n + m + o))
        have hBq : B ≤ (w.drewN (n + m + o)).heap.size := hB
        clear HH C1 C2 C3 K1 K2 SB SL SR bd
        generalize w.drewN (n + m + o) = wq at *
        go_wp2_with fail
        refine (D1.out wq sb).mono ?_
        rintro e w1 ⟨v1, rfl, o1, g1⟩
        go_wp2_with fail
        refine (D2.out w1 (sl.keep (Keeps.of_below g1))).mono ?_
        rintro e w2 ⟨v2, rfl, o2, g2⟩
        go_wp2_with fail
        refine (D3.out w2 ((sr.keep (Keeps.of_below g1)).keep (Keeps.of_below g2))).mono ?_
        rintro e w3 ⟨v3, rfl, o3, g3⟩
        have q1 := (o1.stab (M := fun _ => False) (fun _ _ h => h)) _ (Agree.of_below g2 _)
        have q1 := (q1.stab (M := fun _ => False) (fun _ _ h => h)) _ (Agree.of_below g3 _)
        have q2 := (o2.stab (M := fun _ => False) (fun _ _ h => h)) _ (Agree.of_below g3 _)
        have g13 : Below wq.heap.size wq w3 := g1.trans ((g2.mono g1.size).trans (g3.mono (by have := g1.size; have := g2.size; omega)))
        have hown1 := own_below hown g13
        have hs3 := g13.size
        obtain ⟨A1, d1, rfl, _, _⟩ := Strs.form q1.sl
        obtain ⟨A2, d2, rfl, _, _⟩ := Strs.form q2.sl
        obtain ⟨A3, d3, rfl, _, _⟩ := Strs.form o3.sl
        clear D1 D2 D3 sb sl sr g1 g2 g3 o1 o2
        go_wp2_with (at_builtin; go_must (refine wpList_append_any _ rfl (.tmp 30) (.tmp 38) _ rfl B 58 i1 _ 4 80 Try.underlying24 hi1 hy0 hy1 hy2 rfl (by omega) (.slice A L.length c) L.length cells rfl (hown1.alloc _) _ 1 1 [.bool true, .slice A1 b.length d1, .slice A2 l.length d2, .slice A3 r.length d3] rfl rfl (CellsAt.of_new _ _ _ _) (by simp [Value.oneCell']) (by omega) (by omega) (by simp; omega) ?_)
                     intro v2 w4 ho2 hg2 ha2)
        go_ret
        rw [HE.out]
        exact CRowPost.after hbd hB ⟨v2, rfl, crow_conf hst hown hBq g13 q1 q2 o3 hg2 ho2 ha2⟩
end Go.Proofs.Ythobbcafemkhbaa
