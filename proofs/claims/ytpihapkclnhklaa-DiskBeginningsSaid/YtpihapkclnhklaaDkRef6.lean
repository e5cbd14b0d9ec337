/- cordwoodref05.Cut. -/
import Derived.Test.YtpihapkclnhklaaDkRef5
namespace Go.Proofs.Ytpihapkclnhklaa
open Go.RowKit

theorem cut_step {size : Int} {L : List ByteArray} {p : List (Int × ByteArray)} {ps : List Int} {k m : Nat} {s : ByteArray} (hk : k < p.length) (h1 : p[k].1 = (m : Int)) (h2 : p[k].2 = s) (hm : m < L.length) :
    cutW size L (p.drop k) (ps.drop k) = cutW size (L.set m (torn (pick (ps.getD k 0) size) s L[m])) (p.drop (k + 1)) (ps.drop (k + 1)) := by
  rw [List.drop_eq_getElem_cons hk, cutW, h1, h2, Int.toNat_natCast]
  have e1 : (ps.drop k).headD 0 = ps.getD k 0 := by
    rw [List.headD_eq_head?_getD, List.head?_drop, List.getD_eq_getElem?_getD]
  have e2 : (ps.drop k).tail = ps.drop (k + 1) := by rw [List.tail_drop]
  have e3 : L.getD m ⟨#[]⟩ = L[m] := by rw [List.getD_eq_getElem?_getD, List.getElem?_eq_getElem hm]; rfl
  rw [e1, e2, e3]
theorem cut_end {size : Int} {L : List ByteArray} {p : List (Int × ByteArray)} {ps : List Int} {k : Nat} (hk : ¬ k < p.length) : cutW size L (p.drop k) (ps.drop k) = L := by
  rw [List.drop_of_length_le (by omega)]; cases (ps.drop k) <;> rfl
theorem pick_zero (z : Int) : pick 0 z = 0 := by simp [pick]
theorem torn_zero (s t : ByteArray) : torn 0 s t = t := by
  apply ByteArray.ext
  simp [torn]

theorem cut_sizes {size : Int} {L : List ByteArray} (h : ∀ s ∈ L, (s.size : Int) = size) {m : Nat} {t : ByteArray} (ht : (t.size : Int) = size) : ∀ s ∈ L.set m t, (s.size : Int) = size := fun s hs => by
  rcases List.mem_or_eq_of_mem_set hs with h' | rfl
  · exact h s h'
  · exact ht

theorem own_far4 {w : World} {base n cap g : Nat} {l : List ByteArray} (h : OwS w base (.slice (some ⟨g, 0, none⟩) n cap) l) {r : Nat} (hr : g ≠ r) (b0 b1 b2 b3 : Value) :
    OwS ((((w.setCell ⟨r, 0, none⟩ b0).setCell ⟨r, 1, none⟩ b1).setCell ⟨r, 2, none⟩ b2).setCell ⟨r, 3, none⟩ b3) base (.slice (some ⟨g, 0, none⟩) n cap) l :=
  (own_stab (M := fun b => b = r) h (fun b hb e => by cases hb; exact hr e)) _
    ((((Agree.set1 w r 0 b0).trans (Agree.set1 _ r 1 b1)).trans (Agree.set1 _ r 2 b2)).trans (Agree.set1 _ r 3 b3))

/-- What Cut answers. -/
def CutPost (W : World) (d : Dk) (e : Ending) (w' : World) : Prop :=
  ∃ vs vp, e = .returned (.agg #[.int .i64 d.size, vs, vp, .int .i64 d.left]) ∧ DskP w' vs vp d ∧ Below W.heap.size W w'
theorem CutPost.mk {W w' : World} {vs vp : Value} {d d' : Dk} {z l : Int} (h2 : d' = d) (hz : z = d'.size) (hl : l = d'.left) (hd : DskP w' vs vp d') (hb : Below W.heap.size W w') :
    CutPost W d (.returned (.agg #[.int .i64 z, vs, vp, .int .i64 l])) w' := by
  subst h2 hz hl; exact ⟨_, _, rfl, hd, hb⟩
theorem cutD_bad {d : Dk} {ps : List Int} (h : chk d ≠ 0) : noDisk = cutD d ps := by unfold cutD; rw [if_pos h]
theorem cutD_ok {d : Dk} {ps : List Int} (h : chk d = 0) : (⟨d.size, cutW d.size d.secs d.pend ps, [], -1⟩ : Dk) = cutD d ps := by unfold cutD; rw [if_neg (by simp [h])]

/-- What holds between two rounds of Cut. -/
def CutRel (W : World) (d : Dk) (ps : List Int) (bx : Array Value) (g cap : Nat) (k : Nat) (wr : World) : Prop :=
  ∃ L : List ByteArray, L.length = d.secs.length ∧ (∀ s ∈ L, (s.size : Int) = d.size) ∧ cutW d.size d.secs d.pend ps = cutW d.size L (d.pend.drop k) (ps.drop k) ∧
    wr.ownsRow (W.heap.size + 1) 9 1 (.slice (some ⟨g, 0, none⟩) d.secs.length cap) d.secs.length (L.map .string) ∧
    Blk wr W.heap.size 26 bx ∧ Blk wr (W.heap.size + 1) 26 #[.int .i64 0, .slice none 0 0, .slice none 0 0, .int .i64 0] ∧ Below W.heap.size W wr

set_option maxRecDepth 100000 in
set_option maxHeartbeats 4000000 in
theorem rcut_any (W : World) (vs vp vi : Value) (d : Dk) (h : DskP W vs vp d) (ps : List Int) (hps : Ints W vi ps) :
    Calls Try.prog 17 #[.agg #[.int .i64 d.size, vs, vp, .int .i64 d.left], vi] W (CutPost W (cutD d ps)) := by
  obtain ⟨i0, hi, hz0, hz1, hz2⟩ := info_parts Try.info_str
  obtain ⟨A, c, rfl, hc, hm⟩ := h.sec.form
  obtain ⟨P, cp, rfl, hcp, hmp⟩ := h.pen.form
  obtain ⟨I, ci, rfl, hci, hmi⟩ := hps.form
  have hbk0 := Blk.new W #[.int .i64 d.size, .slice A d.secs.length c, .slice P d.pend.length cp, .int .i64 d.left] 26
  have hbk := hbk0.alloc (.cells #[.int .i64 0, .slice none 0 0, .slice none 0 0, .int .i64 0] 26)
  have hbr := Blk.new (W.alloc (.cells #[.int .i64 d.size, .slice A d.secs.length c, .slice P d.pend.length cp, .int .i64 d.left] 26)) #[.int .i64 0, .slice none 0 0, .slice none 0 0, .int .i64 0] 26
  rw [World.size_alloc] at hbr
  have hd1 := ((Below.refl W.heap.size W).alloc (Nat.le_refl _) (.cells #[.int .i64 d.size, .slice A d.secs.length c, .slice P d.pend.length cp, .int .i64 d.left] 26)).alloc (by simp) (.cells #[.int .i64 0, .slice none 0 0, .slice none 0 0, .int .i64 0] 26)
  have hD1 := h.keep (Keeps.of_below hd1)
  clear hbk0
  go_enter Try.func17, Try.ntmps17
  go_upto_region 1 with (fail)
  generalize (W.alloc (.cells #[.int .i64 d.size, .slice A d.secs.length c, .slice P d.pend.length cp, .int .i64 d.left] 26)).alloc (.cells #[.int .i64 0, .slice none 0 0, .slice none 0 0, .int .i64 0] 26) = w1 at *
  have q0 := hbk.cell (j := 0) rfl
  have q1 := hbk.cell (j := 1) rfl
  have q2 := hbk.cell (j := 2) rfl
  have q3 := hbk.cell (j := 3) rfl
  have c1 := rcheck_any _ _ _ d hD1
  go_wp2_with fail
  refine c1.mono ?_
  clear c1 q0 q1 q2 q3
  rintro e w2 ⟨rfl, hb2⟩
  have hd2 := hd1.trans (hb2.mono hd1.size)
  have hbk2 := hbk.keep hb2
  have hbr2 := hbr.keep hb2
  have hD2 := hD1.keep (Keeps.of_below hb2)
  clear hbk hbr hd1 hD1 hb2
  by_cases hk : chk d = 0
  · have HK := Lib.hid hk
    have V := Lib.hid (chk_zero.1 hk)
    have v1 := V.out.s1
    have v2 := V.out.s2
    have v3 := V.out.n1
    have v4 := V.out.n2
    rw [hk]
    clear hk
    obtain ⟨q0, q1, q2, q3, s0, s1, s2, s3⟩ := box8 hbk2 (Below.refl _ _)
    have hs1 := (hD2.sec).keep (Keeps.alloc w2 (.cells #[] 9))
    have ho0 := (Blk.new w2 #[] 9).own (base := W.heap.size + 1) (cap := 0) (sz := 1) (n := 0) (by have := hbr2.lt; omega) rfl (by unfold maxLen; omega) (by omega)
    have hd3 := hd2.alloc hd2.size (.cells #[] 9)
    have hbk3 := hbk2.alloc (.cells #[] 9)
    have hbr3 := hbr2.alloc (.cells #[] 9)
    have hB := hbr2.lt
    have hB0 := hbk2.lt
    go_wp2_with (at_builtin; go_must (refine wpList_append_any _ rfl (.tmp 13) (.tmp 15) _ rfl (W.heap.size + 1) 9 i0 _ 1 16 Try.underlying23 hi hz0 hz1 hz2 rfl (by omega) _ 0 [] rfl ho0 A d.secs.length c (d.secs.map .string) rfl (by simp) (strs_cells' hs1) (by simp [Value.oneCell']) (by omega) (by omega) (by simp; omega) ?_))
    intro v2' w3 hown hgr hat
    have hown : w3.ownsRow (W.heap.size + 1) 9 1 v2' d.secs.length (d.secs.map .string) := by simpa using hown
    obtain ⟨g, cap, rfl, hg0, hg1, hg2, hg3⟩ := own_row hown (by omega)
    have hd4 := hd3.grown hgr hd3.size (fun g' h => by have := (ho0.lt g' h); omega)
    have hbk4 := hbk3.grown hgr (own_ne_type ho0 hbk3 (by decide)).symm
    have hbr4 := hbr3.grown hgr (own_ne_type ho0 hbr3 (by decide)).symm
    have hgW : g ≠ W.heap.size := own_ne_type' hown hbk4 (by decide)
    have hgW1 : g ≠ W.heap.size + 1 := own_ne_type' hown hbr4 (by decide)
    have hR : CutRel W d ps #[.int .i64 d.size, .slice A d.secs.length c, .slice P d.pend.length cp, .int .i64 d.left] g cap 0 w3 := ⟨d.secs, rfl, V.out.ss, rfl, hown, hbk4, hbr4, hd4⟩
    clear ho0 hgr hat hd3 hbk3 hbr3 hs1 hown hbk4 hbr4 q0 q1 q2 q3 s0 s1 s2 s3
    go_wp2
    go_loopw [6] (fun t wr => ∃ k : Nat, k ≤ d.pend.length ∧ t = .int .i64 k ∧ CutRel W d ps #[.int .i64 d.size, .slice A d.secs.length c, .slice P d.pend.length cp, .int .i64 d.left] g cap k wr) (fun t _ => d.pend.length - (intOf t).toNat)
    case atStart => exact ⟨0, by omega, rfl, hR⟩
    case round =>
      clear hR hd4 hg1
      obtain ⟨k, hk, rfl, L, hL1, hL2, hL3, hown, hbk, hbr, hd⟩ := hrel
      have hpk := h.pen.keep (Keeps.of_below hd)
      have hik := hps.keep (Keeps.of_below hd)
      have hbl := hbk.lt
      have HL1 := Lib.hid hL1
      have HL2 := Lib.hid hL2
      have HL3 := Lib.hid hL3
      have q0 := hbk.cell (j := 0) rfl
      have q2 := hbk.cell (j := 2) rfl
      by_cases hlt : k < d.pend.length
      · obtain ⟨b, off, rfl, a1, a2, a3, a4⟩ := hpk.get hlt
        obtain ⟨e1, e2, e3⟩ := V.out.ws _ (List.getElem_mem hlt)
        obtain ⟨m, hm1⟩ := Int.eq_ofNat_of_zero_le e1
        generalize hs1 : d.pend[k].2 = s at *
        have hml : m < L.length := by omega
        have hms : m < d.secs.length := by omega
        have HS := Lib.hid (hL3.trans (cut_step (ps := ps) hlt hm1 hs1 hml))
        rw [hm1] at a1
        obtain ⟨o1, o2⟩ := own_at hown (i := m) (u := .string (L[m]'hml)) (by simp)
        have hold : ((L[m]'hml).size : Int) = d.size := hL2 _ (List.getElem_mem hml)
        have hsz1 : (s.size : Int) ≤ d.size ∧ d.size ≤ s.size := by omega
        clear hL1 hL2 hL3 hm1 hs1 e1 e2 e3 a3 a4 HL3
        have hbw := Blk.new wr #[.int .i64 (m : Int), .string s] 45
        have hbk5 := hbk.alloc (.cells #[.int .i64 (m : Int), .string s] 45)
        have hbr5 := hbr.alloc (.cells #[.int .i64 (m : Int), .string s] 45)
        have hown5 := World.ownsRow.alloc hown (.cells #[.int .i64 (m : Int), .string s] 45)
        have hd5 := hd.alloc hd.size (.cells #[.int .i64 (m : Int), .string s] 45)
        go_upto_region 8 with (fail)
        generalize wr.alloc (.cells #[.int .i64 (m : Int), .string s] 45) = w5 at *
        generalize wr.heap.size = gw at *
        clear hbk hbr hown hd q0 q2 a1 a2 o1 o2
        have q0 := hbk5.cell (j := 0) rfl
        have y0 := hbw.cell (j := 0) rfl
        have y1 := hbw.cell (j := 1) rfl
        obtain ⟨o1, o2⟩ := own_at hown5 (i := m) (u := .string (L[m]'hml)) (by simp)
        generalize hold' : (L[m]'hml) = old at *
        by_cases hki : k < ps.length
        · obtain ⟨b2, off2, rfl, x1, x2, x3⟩ := (hps.keep (Keeps.of_below hd5)).get hki
          have hg : ps.getD k 0 = ps[k] := by rw [List.getD_eq_getElem?_getD, List.getElem?_eq_getElem hki]; rfl
          have HG := Lib.hid hg
          rw [hg] at HS
          clear hg
          have cp1 := pick_any ps[k] d.size v1 v2 x2 x3
          have hpl := pick_le ps[k] d.size v1
          generalize ps[k] = pk at *
          generalize pick pk d.size = q at *
          have CP := Lib.hid cp1
          clear cp1
          go_wp2
          go_quiet ((go_at_call 33; exact quiet_drawn ((CP.out _).mono (fun e w' h => ⟨h.1, h.2 ▸ Drawn.refl _⟩))))
          rename Nat => nq
          have hq1 : q ≤ s.size := by omega
          have hq2 : q ≤ old.size := by omega
          go_wp2
          go_region
          all_goals
            go_wp2
            go_roundw
            case rel =>
              refine ⟨k + 1, by omega, by go_num, L.set m (torn q s old), by rw [List.length_set]; exact HL1.out, cut_sizes HL2.out (by rw [torn_size (by omega) (by omega)]; exact hold), HS.out, ?_, ?_, ?_, ?_⟩
              · rw [List.map_set]
                exact own_drew (own_set hown5 (.string (torn q s old)))
              · exact (hbk5.far (p := ⟨g, m, none⟩) hgW.symm _).drew
              · exact (hbr5.far (p := ⟨g, m, none⟩) hgW1.symm _).drew
              · first
                | exact below_drew1 (hd5.setCell (p := ⟨g, m, none⟩) (show W.heap.size ≤ g by omega) _)
                | exact (below_drewN' hd5 _).setCell (p := ⟨g, m, none⟩) (show W.heap.size ≤ g by omega) _
            case measure => simp [intOf] <;> omega
        · have hg : ps.getD k 0 = 0 := by rw [List.getD_eq_getElem?_getD, List.getElem?_eq_none (by omega)]; rfl
          rw [hg, pick_zero, torn_zero] at HS
          clear hg
          go_wp2
          go_region
          all_goals
            go_wp2
            go_roundw
            case rel =>
              refine ⟨k + 1, by omega, by go_num, L.set m old, by rw [List.length_set]; exact HL1.out, cut_sizes HL2.out hold, HS.out, ?_, ?_, ?_, ?_⟩
              · rw [List.map_set]
                exact own_drew (own_set hown5 (.string old))
              · exact (hbk5.far (p := ⟨g, m, none⟩) hgW.symm _).drew
              · exact (hbr5.far (p := ⟨g, m, none⟩) hgW1.symm _).drew
              · first
                | exact below_drew1 (hd5.setCell (p := ⟨g, m, none⟩) (show W.heap.size ≤ g by omega) _)
                | exact (below_drewN' hd5 _).setCell (p := ⟨g, m, none⟩) (show W.heap.size ≤ g by omega) _
            case measure => simp [intOf] <;> omega
      · have HE := Lib.hid (show (⟨d.size, L, [], -1⟩ : Dk) = cutD d ps by rw [← cutD_ok HK.out, hL3, cut_end hlt])
        have hlt1 := hbr.lt
        have hOS : OwS wr (W.heap.size + 1) (.slice (some ⟨g, 0, none⟩) d.secs.length cap) L := by unfold OwS; rw [HL1.out]; exact hown
        have hx := hbr.set4 (.int .i64 d.size) (.slice (some ⟨g, 0, none⟩) d.secs.length cap) (.slice none 0 0) (.int .i64 (-1))
        have hdx := set4_below hd (show W.heap.size ≤ W.heap.size + 1 by omega) (.int .i64 d.size) (.slice (some ⟨g, 0, none⟩) d.secs.length cap) (.slice none 0 0) (.int .i64 (-1))
        have hvx := own_far4 hOS hgW1 (.int .i64 d.size) (.slice (some ⟨g, 0, none⟩) d.secs.length cap) (.slice none 0 0) (.int .i64 (-1))
        obtain ⟨t0, t1, t2, t3, r0, r1, r2, r3⟩ := box8 hbr (Below.refl _ _)
        clear hL1 hL2 hL3
        go_wp2
        clear r0 r1 r2 r3 t0 t1 t2 t3 q0 q2
        generalize (((wr.setCell ⟨W.heap.size + 1, 0, none⟩ (.int .i64 d.size)).setCell ⟨W.heap.size + 1, 1, none⟩ (.slice (some ⟨g, 0, none⟩) d.secs.length cap)).setCell ⟨W.heap.size + 1, 2, none⟩ (.slice none 0 0)).setCell ⟨W.heap.size + 1, 3, none⟩ (.int .i64 (-1)) = wx at *
        obtain ⟨k0, k1, k2, k3⟩ := box4 hx (Below.refl _ _)
        exact bodyPost_ret (v := .agg #[.int .i64 d.size, .slice (some ⟨g, 0, none⟩) d.secs.length cap, .slice none 0 0, .int .i64 (-1)]) (by simp [results, Try.results17, go_sem, k0, k1, k2, k3]) rfl (CutPost.mk HE.out rfl rfl ⟨hvx.strs, Sl.nil _ _ _, h.z0, h.z1, by simp, by simp⟩ hdx)
  · have HE := Lib.hid (cutD_bad (ps := ps) hk)
    have hb : (chk d != 0) = true := by simp [hk]
    clear hk
    have hdx := set4_below hd2 (show W.heap.size ≤ W.heap.size + 1 by omega) (.int .i64 0) (.slice none 0 0) (.slice none 0 0) (.int .i64 0)
    have hx := hbr2.set4 (.int .i64 0) (.slice none 0 0) (.slice none 0 0) (.int .i64 0)
    obtain ⟨t0, t1, t2, t3, r0, r1, r2, r3⟩ := box8 hbr2 (Below.refl _ _)
    generalize chk d = full at *
    go_wp2
    clear r0 r1 r2 r3 t0 t1 t2 t3
    generalize (((w2.setCell ⟨W.heap.size + 1, 0, none⟩ (.int .i64 0)).setCell ⟨W.heap.size + 1, 1, none⟩ (.slice none 0 0)).setCell ⟨W.heap.size + 1, 2, none⟩ (.slice none 0 0)).setCell ⟨W.heap.size + 1, 3, none⟩ (.int .i64 0) = wx at *
    obtain ⟨k0, k1, k2, k3⟩ := box4 hx (Below.refl _ _)
    exact bodyPost_ret (v := .agg #[.int .i64 0, .slice none 0 0, .slice none 0 0, .int .i64 0]) (by simp [results, Try.results17, go_sem, k0, k1, k2, k3]) rfl (CutPost.mk HE.out rfl rfl (Dsk.nodisk _) hdx)
end Go.Proofs.Ytpihapkclnhklaa
