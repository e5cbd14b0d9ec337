/- Law: JournalAtomic. -/
import Derived.Test.YtockmhhiomdlkaaLawDur
namespace Go.Proofs.Ytockmhhiomdlkaa
set_option linter.unusedVariables false
set_option linter.unusedSimpArgs false
open Go.RowKit

def put3 (w : World) (g : Nat) (u0 u1 u2 : Value) : World := ((w.setCell ⟨g, 0, none⟩ u0).setCell ⟨g, 1, none⟩ u1).setCell ⟨g, 2, none⟩ u2
def putQ (w : World) (g : Nat) (u0 u1 u2 u3 : Value) : World := (((w.setCell ⟨g, 0, none⟩ u0).setCell ⟨g, 1, none⟩ u1).setCell ⟨g, 2, none⟩ u2).setCell ⟨g, 3, none⟩ u3
section
variable {w a : World} {g b B : Nat} {t t' : TypeId} {cs : Array Value} {v0 v1 v2 v3 u0 u1 u2 u3 : Value}
theorem put3_self (h : Blk w g t #[v0, v1, v2]) : Blk (put3 w g u0 u1 u2) g t #[u0, u1, u2] := ((h.set 0 u0).set 1 u1).set 2 u2
theorem put3_far (h : Blk w b t cs) (hne : b ≠ g) : Blk (put3 w g u0 u1 u2) b t cs := ((h.far (p := ⟨g, 0, none⟩) hne u0).far (p := ⟨g, 1, none⟩) hne u1).far (p := ⟨g, 2, none⟩) hne u2
theorem put3_bel (h : Below B a w) (hg : B ≤ g) : Below B a (put3 w g u0 u1 u2) := ((h.setCell (p := ⟨g, 0, none⟩) hg u0).setCell (p := ⟨g, 1, none⟩) hg u1).setCell (p := ⟨g, 2, none⟩) hg u2
theorem putQ_self (h : Blk w g t #[v0, v1, v2, v3]) : Blk (putQ w g u0 u1 u2 u3) g t #[u0, u1, u2, u3] := (((h.set 0 u0).set 1 u1).set 2 u2).set 3 u3
theorem putQ_far (h : Blk w b t cs) (hne : b ≠ g) : Blk (putQ w g u0 u1 u2 u3) b t cs := (((h.far (p := ⟨g, 0, none⟩) hne u0).far (p := ⟨g, 1, none⟩) hne u1).far (p := ⟨g, 2, none⟩) hne u2).far (p := ⟨g, 3, none⟩) hne u3
theorem putQ_bel (h : Below B a w) (hg : B ≤ g) : Below B a (putQ w g u0 u1 u2 u3) := (((h.setCell (p := ⟨g, 0, none⟩) hg u0).setCell (p := ⟨g, 1, none⟩) hg u1).setCell (p := ⟨g, 2, none⟩) hg u2).setCell (p := ⟨g, 3, none⟩) hg u3
end
set_option maxRecDepth 100000 in
set_option maxHeartbeats 4000000 in
theorem law_atomic (W : World) (n z : Int) (hz0 : -9223372036854775808 ≤ z) (B : Option Addr) (lc : Nat) (acts : List ActJ) (h : Acts W (.slice B acts.length lc) acts) (rA : Option Addr) (rc : Nat) (iA : Option Addr) (ic : Nat) (a : ActJ) (ha : ActP W rA rc iA ic a) (lf : Int) (hlf : 0 ≤ lf ∧ lf ≤ 255) (pA : Option Addr) (pc : Nat) (ps : List Int) (hps : Ints W (.slice pA ps.length pc) ps) :
    Calls Try.prog 9 #[.agg #[.int .i64 n, .int .i64 z, .slice B acts.length lc, .int .i64 a.kind, .slice rA a.recs.length rc, .int .i64 a.left, .slice iA a.ps.length ic, .int .u8 lf, .slice pA ps.length pc]] W fun e w' => e = .returned (.bool true) ∧ Below W.heap.size W w' := by
  have K := Lib.hid (Below.refl W.heap.size W)
  obtain ⟨_, _, el, hlc, hlm⟩ := h.form
  cases el
  have HA := Lib.hid h
  have HP := Lib.hid ha
  obtain ⟨_, _, el, _, _⟩ := hps.form
  cases el
  have HQ := Lib.hid hps
  go_enter Try.func9, Try.ntmps9
  have al1 : Below W.heap.size W (W.alloc (.cells #[.int .i64 n, .int .i64 z, .slice B acts.length lc, .int .i64 a.kind, .slice rA a.recs.length rc, .int .i64 a.left, .slice iA a.ps.length ic, .int .u8 lf, .slice pA ps.length pc] 55)) := (Below.refl _ _).alloc (Nat.le_refl _) _
  have HB := Lib.hid (Blk.new W #[.int .i64 n, .int .i64 z, .slice B acts.length lc, .int .i64 a.kind, .slice rA a.recs.length rc, .int .i64 a.left, .slice iA a.ps.length ic, .int .u8 lf, .slice pA ps.length pc] 55)
  have gl1 := K.out.size
  replace HA := Lib.hid (HA.out.keep (Keeps.of_below al1))
  replace HP := Lib.hid (HP.out.keep (Keeps.of_below al1))
  replace HQ := Lib.hid (HQ.out.keep (Keeps.of_below al1))
  replace K := Lib.hid (K.out.trans (al1.mono K.out.size))
  clear al1
  go_upto_region 1 with (fail)
  generalize W.alloc (.cells #[.int .i64 n, .int .i64 z, .slice B acts.length lc, .int .i64 a.kind, .slice rA a.recs.length rc, .int .i64 a.left, .slice iA a.ps.length ic, .int .u8 lf, .slice pA ps.length pc] 55) = w1 at *
  have HSS0 : ∀ w, Below w1.heap.size w1 w → w.cell? ⟨W.heap.size, 0, none⟩ = some (.int .i64 n) ∧ w.cell? ⟨W.heap.size, 1, none⟩ = some (.int .i64 z) ∧ w.cell? ⟨W.heap.size, 2, none⟩ = some (.slice B acts.length lc) ∧ w.cell? ⟨W.heap.size, 3, none⟩ = some (.int .i64 a.kind) ∧ w.cell? ⟨W.heap.size, 4, none⟩ = some (.slice rA a.recs.length rc) ∧ w.cell? ⟨W.heap.size, 5, none⟩ = some (.int .i64 a.left) ∧ w.cell? ⟨W.heap.size, 6, none⟩ = some (.slice iA a.ps.length ic) ∧ w.cell? ⟨W.heap.size, 7, none⟩ = some (.int .u8 lf) ∧ w.cell? ⟨W.heap.size, 8, none⟩ = some (.slice pA ps.length pc) := fun w hb => ⟨(HB.out.keep hb).cell (j := 0) rfl, (HB.out.keep hb).cell (j := 1) rfl, (HB.out.keep hb).cell (j := 2) rfl, (HB.out.keep hb).cell (j := 3) rfl, (HB.out.keep hb).cell (j := 4) rfl, (HB.out.keep hb).cell (j := 5) rfl, (HB.out.keep hb).cell (j := 6) rfl, (HB.out.keep hb).cell (j := 7) rfl, (HB.out.keep hb).cell (j := 8) rfl⟩
  have HSS := Lib.hid HSS0
  clear HSS0
  have HDR := Lib.hid (below_drew1 (Below.refl w1.heap.size w1))
  refine AtS.start (S := fun w => w.cell? ⟨W.heap.size, 0, none⟩ = some (.int .i64 n) ∧ w.cell? ⟨W.heap.size, 1, none⟩ = some (.int .i64 z) ∧ w.cell? ⟨W.heap.size, 2, none⟩ = some (.slice B acts.length lc) ∧ w.cell? ⟨W.heap.size, 3, none⟩ = some (.int .i64 a.kind) ∧ w.cell? ⟨W.heap.size, 4, none⟩ = some (.slice rA a.recs.length rc) ∧ w.cell? ⟨W.heap.size, 5, none⟩ = some (.int .i64 a.left) ∧ w.cell? ⟨W.heap.size, 6, none⟩ = some (.slice iA a.ps.length ic) ∧ w.cell? ⟨W.heap.size, 7, none⟩ = some (.int .u8 lf) ∧ w.cell? ⟨W.heap.size, 8, none⟩ = some (.slice pA ps.length pc)) (by kernel_rfl) (HSS.out _ HDR.out) 13 ?_
  simp only [List.size_toArray, List.length_cons, List.length_nil]
  generalize hwd : w1.drew = wd at *
  clear hwd
  (refine AtS.free (i := 0) (v := ?_) (by simp only [List.getElem?_toArray, List.getElem?_cons_succ, List.getElem?_cons_zero]; rfl) (by kernel_rfl) (by kernel_rfl) (by kernel_rfl) (fun _ _ _ h => h) (by kernel_rfl) (Or.inl ⟨by rfl, fun w _ => ?_⟩) ?_; rotate_left; (go_simp; try with_reducible rfl); simp only [Act.put, List.setIfInBounds_toArray, List.set_cons_zero, List.set_cons_succ])
  (refine AtS.free (i := 2) (v := ?_) (by simp only [List.getElem?_toArray, List.getElem?_cons_succ, List.getElem?_cons_zero]; rfl) (by kernel_rfl) (by kernel_rfl) (by kernel_rfl) (fun _ _ _ h => h) (by kernel_rfl) (Or.inl ⟨by rfl, fun w _ => ?_⟩) ?_; rotate_left; (go_simp; try with_reducible rfl); simp only [Act.put, List.setIfInBounds_toArray, List.set_cons_zero, List.set_cons_succ])
  (refine AtS.free (i := 4) (v := ?_) (by simp only [List.getElem?_toArray, List.getElem?_cons_succ, List.getElem?_cons_zero]; rfl) (by kernel_rfl) (by kernel_rfl) (by kernel_rfl) (fun _ _ _ h => h) (by kernel_rfl) (Or.inl ⟨by rfl, fun w _ => ?_⟩) ?_; rotate_left; (go_simp; try with_reducible rfl); simp only [Act.put, List.setIfInBounds_toArray, List.set_cons_zero, List.set_cons_succ])
  (refine AtS.free (i := 6) (v := ?_) (by simp only [List.getElem?_toArray, List.getElem?_cons_succ, List.getElem?_cons_zero]; rfl) (by kernel_rfl) (by kernel_rfl) (by kernel_rfl) (fun _ _ _ h => h) (by kernel_rfl) (Or.inl ⟨by rfl, fun w _ => ?_⟩) ?_; rotate_left; (go_simp; try with_reducible rfl); simp only [Act.put, List.setIfInBounds_toArray, List.set_cons_zero, List.set_cons_succ])
  (refine AtS.load (i := 1) (v := ?_) (by simp only [List.getElem?_toArray, List.getElem?_cons_succ, List.getElem?_cons_zero]; rfl) (by kernel_rfl) (by kernel_rfl) (by kernel_rfl) (fun _ _ _ h => h) [] (by kernel_rfl) (Or.inl ⟨by rfl, fun w hSw => ?_⟩) ?_; rotate_left; ((try dsimp only at hSw); go_split_ands; go_simp; try with_reducible rfl); simp only [Act.put, List.setIfInBounds_toArray, List.set_cons_zero, List.set_cons_succ])
  (refine AtS.load (i := 3) (v := ?_) (by simp only [List.getElem?_toArray, List.getElem?_cons_succ, List.getElem?_cons_zero]; rfl) (by kernel_rfl) (by kernel_rfl) (by kernel_rfl) (fun _ _ _ h => h) [] (by kernel_rfl) (Or.inl ⟨by rfl, fun w hSw => ?_⟩) ?_; rotate_left; ((try dsimp only at hSw); go_split_ands; go_simp; try with_reducible rfl); simp only [Act.put, List.setIfInBounds_toArray, List.set_cons_zero, List.set_cons_succ])
  (refine AtS.load (i := 5) (v := ?_) (by simp only [List.getElem?_toArray, List.getElem?_cons_succ, List.getElem?_cons_zero]; rfl) (by kernel_rfl) (by kernel_rfl) (by kernel_rfl) (fun _ _ _ h => h) [] (by kernel_rfl) (Or.inl ⟨by rfl, fun w hSw => ?_⟩) ?_; rotate_left; ((try dsimp only at hSw); go_split_ands; go_simp; try with_reducible rfl); simp only [Act.put, List.setIfInBounds_toArray, List.set_cons_zero, List.set_cons_succ])
  (refine AtS.load (i := 7) (v := ?_) (by simp only [List.getElem?_toArray, List.getElem?_cons_succ, List.getElem?_cons_zero]; rfl) (by kernel_rfl) (by kernel_rfl) (by kernel_rfl) (fun _ _ _ h => h) [] (by kernel_rfl) (Or.inl ⟨by rfl, fun w hSw => ?_⟩) ?_; rotate_left; ((try dsimp only at hSw); go_split_ands; go_simp; try with_reducible rfl); simp only [Act.put, List.setIfInBounds_toArray, List.set_cons_zero, List.set_cons_succ])
  refine AtS.two (i := 8) (j := 9) (by simp only [List.getElem?_toArray, List.getElem?_cons_succ, List.getElem?_cons_zero]; rfl) (by simp only [List.getElem?_toArray, List.getElem?_cons_succ, List.getElem?_cons_zero]; rfl) (by kernel_rfl) (by rfl) (by rfl) ?_ ?_
  · intro K0 hK0
    go_simp
    have al1 : Below wd.heap.size wd (wd.alloc (.cells #[.int .i64 0, .int .i64 0, .slice none 0 0] 42)) := (Below.refl _ _).alloc (Nat.le_refl _) _
    have KD := Lib.hid (HDR.out.trans (al1.mono HDR.out.size))
    refine hK0 _ _ (HSS.out _ KD.out) ?_
    clear hK0 K0
    try simp only [Act.put, List.setIfInBounds_toArray, List.set_cons_zero, List.set_cons_succ]
    have BA := Blk.new wd #[.int .i64 0, .int .i64 0, .slice none 0 0] 42
    have hga := HDR.out.size
    have hgl := BA.lt
    generalize wd.alloc (.cells #[.int .i64 0, .int .i64 0, .slice none 0 0] 42) = we at *
    generalize wd.heap.size = ga at *
    clear al1
    refine AtS.only (i := 9) (by simp only [List.getElem?_toArray, List.getElem?_cons_succ, List.getElem?_cons_zero]; rfl) (by kernel_rfl) (by rfl) ?_
    intro K0 hK0
    go_simp
    have al1 : Below we.heap.size we (we.alloc (.cells #[.int .i64 0, .slice none 0 0, .int .i64 0, .slice none 0 0] 49)) := (Below.refl _ _).alloc (Nat.le_refl _) _
    have KE := Lib.hid (KD.out.trans (al1.mono KD.out.size))
    refine hK0 _ _ (HSS.out _ KE.out) ?_
    clear hK0 K0
    try simp only [Act.put, List.setIfInBounds_toArray, List.set_cons_zero, List.set_cons_succ]
    have BA' := BA.keep al1
    have BB := Blk.new we #[.int .i64 0, .slice none 0 0, .int .i64 0, .slice none 0 0] 49
    generalize we.alloc (.cells #[.int .i64 0, .slice none 0 0, .int .i64 0, .slice none 0 0] 49) = wf at *
    generalize we.heap.size = gb at *
    clear al1 BA KD
    obtain ⟨t0, t1, t2, r0, r1, r2⟩ := blk3 BA'
    have C3 := put3_self (u0 := .int .i64 n) (u1 := .int .i64 z) (u2 := .slice B acts.length lc) BA'
    have C4 := put3_far (g := ga) (u0 := .int .i64 n) (u1 := .int .i64 z) (u2 := .slice B acts.length lc) BB (by omega)
    have KF := put3_bel (g := ga) (u0 := .int .i64 n) (u1 := .int .i64 z) (u2 := .slice B acts.length lc) KE.out (by omega)
    refine AtS.only (i := 10) (by simp only [List.getElem?_toArray, List.getElem?_cons_succ, List.getElem?_cons_zero]; rfl) (by kernel_rfl) (by rfl) ?_
    intro K0 hK0
    go_simp
    refine hK0 _ _ (HSS.out _ KF) ?_
    clear hK0 K0
    change AtS _ _ _ _ _ _ _ _ _ (put3 wf ga (.int .i64 n) (.int .i64 z) (.slice B acts.length lc))
    clear t0 t1 t2 r0 r1 r2 BA' BB KE
    generalize put3 wf ga (.int .i64 n) (.int .i64 z) (.slice B acts.length lc) = wg at *
    try simp only [Act.put, List.setIfInBounds_toArray, List.set_cons_zero, List.set_cons_succ]
    obtain ⟨t0, t1, t2, t3, r0, r1, r2, r3⟩ := box8 C4 (Below.refl _ _)
    have D4 := putQ_self (u0 := .int .i64 a.kind) (u1 := .slice rA a.recs.length rc) (u2 := .int .i64 a.left) (u3 := .slice iA a.ps.length ic) C4
    have D3 := putQ_far (g := gb) (u0 := .int .i64 a.kind) (u1 := .slice rA a.recs.length rc) (u2 := .int .i64 a.left) (u3 := .slice iA a.ps.length ic) C3 (by omega)
    have KG := putQ_bel (g := gb) (u0 := .int .i64 a.kind) (u1 := .slice rA a.recs.length rc) (u2 := .int .i64 a.left) (u3 := .slice iA a.ps.length ic) KF (by omega)
    refine AtS.only (i := 11) (by simp only [List.getElem?_toArray, List.getElem?_cons_succ, List.getElem?_cons_zero]; rfl) (by kernel_rfl) (by rfl) ?_
    intro K0 hK0
    go_simp
    refine hK0 _ _ (HSS.out _ KG) ?_
    clear hK0 K0
    change AtS _ _ _ _ _ _ _ _ _ (putQ wg gb (.int .i64 a.kind) (.slice rA a.recs.length rc) (.int .i64 a.left) (.slice iA a.ps.length ic))
    clear t0 t1 t2 t3 r0 r1 r2 r3 C3 C4 KF
    generalize putQ wg gb (.int .i64 a.kind) (.slice rA a.recs.length rc) (.int .i64 a.left) (.slice iA a.ps.length ic) = wh at *
    try simp only [Act.put, List.setIfInBounds_toArray, List.set_cons_zero, List.set_cons_succ]
    refine AtS.only (i := 12) (by simp only [List.getElem?_toArray, List.getElem?_cons_succ, List.getElem?_cons_zero]; rfl) (by kernel_rfl) (by rfl) ?_
    intro K0 hK0
    go_simp
    refine hK0 _ _ (HSS.out _ KG) ?_
    clear hK0 K0
    try simp only [Act.put, List.setIfInBounds_toArray, List.set_cons_zero, List.set_cons_succ]
    refine AtS.late (i := 13) (by simp only [List.getElem?_toArray, List.getElem?_cons_succ, List.getElem?_cons_zero]; rfl) (by kernel_rfl) (by rfl) (by rfl) ?_
    intro K0 hK0
    go_simp
    refine hK0 _ _ (AtS.done (by kernel_rfl) (NoPanic.normal ?_))
    clear hK0 K0
    clear HB HSS
    have HB := Lib.hid D3
    have HX := Lib.hid D4
    clear D3 D4
    replace HA := Lib.hid (HA.out.keep (Keeps.of_below KG))
    replace HP := Lib.hid (HP.out.keep (Keeps.of_below KG))
    replace HQ := Lib.hid (HQ.out.keep (Keeps.of_below KG))
    replace K := Lib.hid (K.out.trans (KG.mono K.out.size))
    clear KG
    have C2 := Lib.hid (reached_any wh n z hz0 B lc acts HA.out)
    obtain ⟨o00, o01, o02, _, _, _⟩ := blk3 HB.out
    go_wp2_with fail
    refine C2.out.mono ?_
    rintro e w2 ⟨vs, vp, rfl, hD, hb2⟩
    clear C2 o00 o01 o02
    have HD0 := Lib.hid hD
    clear hD
    have HJ : Hid (fineB n z acts = true → ∃ s un, Jst (rchD n z acts) s un ∧ (rchD n z acts).size = z ∧ ((rchD n z acts).secs.length : Int) = n ∧ 1 ≤ z ∧ z ≤ 16) := rch_true
    generalize rchD n z acts = D at *
    obtain ⟨A, c, P, cp, rfl, rfl, _, _, _, _⟩ := HD0.out.form
    replace HA := Lib.hid (HA.out.keep (Keeps.of_below hb2))
    replace HP := Lib.hid (HP.out.keep (Keeps.of_below hb2))
    replace HQ := Lib.hid (HQ.out.keep (Keeps.of_below hb2))
    replace HB := Lib.hid (HB.out.keep hb2)
    replace HX := Lib.hid (HX.out.keep hb2)
    replace K := Lib.hid (K.out.trans (hb2.mono K.out.size))
    clear hb2
    have hx3 := HX.out.lt
    have al3 : Below w2.heap.size w2 (w2.alloc (.cells #[.int .i64 D.size, .slice A D.secs.length c, .slice P D.pend.length cp, .int .i64 D.left] 25)) := (Below.refl _ _).alloc (Nat.le_refl _) _
    have VD := Lib.hid (Var.new HD0.out)
    have gl3 := K.out.size
    replace HA := Lib.hid (HA.out.keep (Keeps.of_below al3))
    replace HP := Lib.hid (HP.out.keep (Keeps.of_below al3))
    replace HQ := Lib.hid (HQ.out.keep (Keeps.of_below al3))
    replace HB := Lib.hid (HB.out.keep al3)
    replace HX := Lib.hid (HX.out.keep al3)
    replace K := Lib.hid (K.out.trans (al3.mono K.out.size))
    clear al3
    go_upto_region 3 with (fail)
    generalize w2.alloc (.cells #[.int .i64 D.size, .slice A D.secs.length c, .slice P D.pend.length cp, .int .i64 D.left] 25) = w3 at *
    generalize w2.heap.size = g3 at *
    clear HD0
    cases hf : fineB n z acts with
    | false =>
      clear hf
      have C4 := Lib.hid (awake_any w3)
      go_wp2_with fail
      refine C4.out.mono ?_
      rintro e w4 ⟨rfl, hb4⟩
      clear C4
      replace HA := Lib.hid (HA.out.keep (Keeps.of_below hb4))
      replace HP := Lib.hid (HP.out.keep (Keeps.of_below hb4))
      replace HQ := Lib.hid (HQ.out.keep (Keeps.of_below hb4))
      replace HX := Lib.hid (HX.out.keep hb4)
      replace VD := Lib.hid (VD.out.keep hb4)
      replace K := Lib.hid (K.out.trans (hb4.mono K.out.size))
      clear hb4
      go_wp2
      go_ret
      exact ⟨rfl, K.out⟩
    | true =>
      obtain ⟨s0, un, hJ, -, -, -, -⟩ := HJ.out hf
      replace HJ := Lib.hid hJ
      clear hJ hf
      have C5 := Lib.hid (fine_any (w3.alloc (.cells #[.int .i64 a.kind, .slice rA a.recs.length rc, .int .i64 a.left, .slice iA a.ps.length ic] 49)) 3 1 (by omega) (some ⟨w3.heap.size, 0, none⟩) 1 [a] (acts_one w3 HP.out))
      have al5 : Below w3.heap.size w3 (w3.alloc (.cells #[.int .i64 a.kind, .slice rA a.recs.length rc, .int .i64 a.left, .slice iA a.ps.length ic] 49)) := (Below.refl _ _).alloc (Nat.le_refl _) _
      obtain ⟨o00, o01, o02, o03⟩ := box4 HX.out (Below.refl _ _)
      go_wp2_with fail
      refine C5.out.mono ?_
      rintro e w5 ⟨rfl, hbx⟩
      have hb5 := al5.trans (hbx.mono al5.size)
      clear C5 hbx al5 o00 o01 o02 o03
      replace HA := Lib.hid (HA.out.keep (Keeps.of_below hb5))
      replace HP := Lib.hid (HP.out.keep (Keeps.of_below hb5))
      replace HQ := Lib.hid (HQ.out.keep (Keeps.of_below hb5))
      replace HX := Lib.hid (HX.out.keep hb5)
      replace VD := Lib.hid (VD.out.keep hb5)
      replace K := Lib.hid (K.out.trans (hb5.mono K.out.size))
      clear hb5
      cases hg : fineB 3 1 [a] with
      | false =>
        clear hg
        have C6 := Lib.hid (awake_any w5)
        go_wp2_with fail
        refine C6.out.mono ?_
        rintro e w6 ⟨rfl, hb6⟩
        clear C6
        replace HA := Lib.hid (HA.out.keep (Keeps.of_below hb6))
        replace HP := Lib.hid (HP.out.keep (Keeps.of_below hb6))
        replace HQ := Lib.hid (HQ.out.keep (Keeps.of_below hb6))
        replace HX := Lib.hid (HX.out.keep hb6)
        replace VD := Lib.hid (VD.out.keep hb6)
        replace K := Lib.hid (K.out.trans (hb6.mono K.out.size))
        clear hb6
        go_wp2
        go_ret
        exact ⟨rfl, K.out⟩
      | true =>
        clear hg
        obtain ⟨pl, hpl⟩ : ∃ pl : Nat, pl = D.pend.length := ⟨_, rfl⟩
        have HPL := Lib.hid hpl
        clear hpl
        obtain ⟨dl, hdl⟩ : ∃ dl : Int, dl = D.left := ⟨_, rfl⟩
        have HDL := Lib.hid hdl
        clear hdl
        by_cases hc1 : 30 < (ps.length : Int)
        · obtain ⟨o00, o01, o02, o03, _⟩ := VD.out.facts
          obtain ⟨o10, o11, o12, o13⟩ := box4 HX.out (Below.refl _ _)
          rw [← HPL.out] at o02
          rw [← HDL.out] at o03
          have C7 := Lib.hid (awake_any w5)
          go_wp2_with fail
          refine C7.out.mono ?_
          rintro e w7 ⟨rfl, hb7⟩
          clear C7
          replace HA := Lib.hid (HA.out.keep (Keeps.of_below hb7))
          replace HP := Lib.hid (HP.out.keep (Keeps.of_below hb7))
          replace HQ := Lib.hid (HQ.out.keep (Keeps.of_below hb7))
          replace HX := Lib.hid (HX.out.keep hb7)
          replace VD := Lib.hid (VD.out.keep hb7)
          replace K := Lib.hid (K.out.trans (hb7.mono K.out.size))
          clear hb7
          clear o00 o01 o02 o03 o10 o11 o12 o13
          go_wp2
          go_ret
          exact ⟨rfl, K.out⟩
        by_cases hc2 : 0 < (pl : Int)
        · obtain ⟨o00, o01, o02, o03, _⟩ := VD.out.facts
          obtain ⟨o10, o11, o12, o13⟩ := box4 HX.out (Below.refl _ _)
          rw [← HPL.out] at o02
          rw [← HDL.out] at o03
          have C8 := Lib.hid (awake_any w5)
          go_wp2_with fail
          refine C8.out.mono ?_
          rintro e w8 ⟨rfl, hb8⟩
          clear C8
          replace HA := Lib.hid (HA.out.keep (Keeps.of_below hb8))
          replace HP := Lib.hid (HP.out.keep (Keeps.of_below hb8))
          replace HQ := Lib.hid (HQ.out.keep (Keeps.of_below hb8))
          replace HX := Lib.hid (HX.out.keep hb8)
          replace VD := Lib.hid (VD.out.keep hb8)
          replace K := Lib.hid (K.out.trans (hb8.mono K.out.size))
          clear hb8
          clear o00 o01 o02 o03 o10 o11 o12 o13
          go_wp2
          go_ret
          exact ⟨rfl, K.out⟩
        obtain rfl : pl = 0 := by omega
        by_cases hc5 : ¬ dl = -1
        · obtain ⟨o00, o01, o02, o03, _⟩ := VD.out.facts
          obtain ⟨o10, o11, o12, o13⟩ := box4 HX.out (Below.refl _ _)
          rw [← HPL.out] at o02
          rw [← HDL.out] at o03
          have hc5b : (dl != -1) = true := by simpa using hc5
          have C9 := Lib.hid (awake_any w5)
          go_wp2_with fail
          refine C9.out.mono ?_
          rintro e w9 ⟨rfl, hb9⟩
          clear C9
          replace HA := Lib.hid (HA.out.keep (Keeps.of_below hb9))
          replace HP := Lib.hid (HP.out.keep (Keeps.of_below hb9))
          replace HQ := Lib.hid (HQ.out.keep (Keeps.of_below hb9))
          replace HX := Lib.hid (HX.out.keep hb9)
          replace VD := Lib.hid (VD.out.keep hb9)
          replace K := Lib.hid (K.out.trans (hb9.mono K.out.size))
          clear hb9
          clear o00 o01 o02 o03 o10 o11 o12 o13
          go_wp2
          go_ret
          exact ⟨rfl, K.out⟩
        obtain rfl : dl = -1 := by omega
        by_cases hc3 : a.kind < 0
        · obtain ⟨o00, o01, o02, o03, _⟩ := VD.out.facts
          obtain ⟨o10, o11, o12, o13⟩ := box4 HX.out (Below.refl _ _)
          rw [← HPL.out] at o02
          rw [← HDL.out] at o03
          have C10 := Lib.hid (awake_any w5)
          go_wp2_with fail
          refine C10.out.mono ?_
          rintro e w10 ⟨rfl, hb10⟩
          clear C10
          replace HA := Lib.hid (HA.out.keep (Keeps.of_below hb10))
          replace HP := Lib.hid (HP.out.keep (Keeps.of_below hb10))
          replace HQ := Lib.hid (HQ.out.keep (Keeps.of_below hb10))
          replace HX := Lib.hid (HX.out.keep hb10)
          replace VD := Lib.hid (VD.out.keep hb10)
          replace K := Lib.hid (K.out.trans (hb10.mono K.out.size))
          clear hb10
          clear o00 o01 o02 o03 o10 o11 o12 o13
          go_wp2
          go_ret
          exact ⟨rfl, K.out⟩
        by_cases hc4 : 1 < a.kind
        · obtain ⟨o00, o01, o02, o03, _⟩ := VD.out.facts
          obtain ⟨o10, o11, o12, o13⟩ := box4 HX.out (Below.refl _ _)
          rw [← HPL.out] at o02
          rw [← HDL.out] at o03
          have C11 := Lib.hid (awake_any w5)
          go_wp2_with fail
          refine C11.out.mono ?_
          rintro e w11 ⟨rfl, hb11⟩
          clear C11
          replace HA := Lib.hid (HA.out.keep (Keeps.of_below hb11))
          replace HP := Lib.hid (HP.out.keep (Keeps.of_below hb11))
          replace HQ := Lib.hid (HQ.out.keep (Keeps.of_below hb11))
          replace HX := Lib.hid (HX.out.keep hb11)
          replace VD := Lib.hid (VD.out.keep hb11)
          replace K := Lib.hid (K.out.trans (hb11.mono K.out.size))
          clear hb11
          clear o00 o01 o02 o03 o10 o11 o12 o13
          go_wp2
          go_ret
          exact ⟨rfl, K.out⟩
        have hk : a.kind = 0 ∨ a.kind = 1 := by omega
        have hte : 0 ≤ lf.tmod 40 := Int.tmod_nonneg 40 hlf.1
        have hte2 : lf.tmod 40 < 40 := Int.tmod_lt_of_pos lf (by omega)
        have hte3 : lf.tmod 40 = lf % 40 := Int.tmod_eq_emod_of_nonneg hlf.1
        rw [hte3] at hte hte2
        clear hte3
        obtain ⟨x, y, zz, hr1, hr2, hr3, hr4, hr5⟩ := atomic_ok HJ.out HDL.out.symm a hk (lf % 40) hte ps
        have HR1 := Lib.hid hr1
        have HR2 := Lib.hid hr2
        have HR3 := Lib.hid hr3
        have HR4 := Lib.hid hr4
        have HR5 := Lib.hid hr5
        have HPN := Lib.hid HJ.out.valid.2.2
        have HPM := Lib.hid (HJ.out.step a).1.valid.2.2
        have HPQ : Hid ((doD { D with left := lf % 40 } a).1.pend.length ≤ 1001) := by
          show _ ≤ _
          rcases HJ.out with ⟨a1, u1, g1, -⟩ | ⟨x1, e1, g1, g2, g3⟩
          · exact (Jst.step (.good a1 u1 (good_nleft g1 (lf % 40) (by omega)) rfl) a).1.valid.2.2
          · exact absurd (HDL.out.trans g2) (by omega)
        clear hr1 hr2 hr3 hr4 hr5 hk HJ
        have C12 := do_any w5 A c P cp D VD.out.dk (by have := HPN.out; omega) rA rc iA ic a HP.out
        rw [← HPL.out, ← HDL.out] at C12
        have C12 := Lib.hid C12
        obtain ⟨o00, o01, o02, o03, _⟩ := VD.out.facts
        obtain ⟨o10, o11, o12, o13⟩ := box4 HX.out (Below.refl _ _)
        rw [← HPL.out] at o02
        rw [← HDL.out] at o03
        go_wp2_with fail
        refine C12.out.mono ?_
        rintro e w12 ⟨vs12, vp12, rfl, hD12, hb12⟩
        clear C12 o00 o01 o02 o03 o10 o11 o12 o13
        obtain ⟨A2, c2, P2, cp2, rfl, rfl, _, _, _, _⟩ := hD12.form
        have HD2 := Lib.hid hD12
        clear hD12
        obtain ⟨D2, hD2⟩ : ∃ x, x = (doD D a).1 := ⟨_, rfl⟩
        obtain ⟨N2, hN2⟩ : ∃ x, x = (doD D a).2 := ⟨_, rfl⟩
        rw [← hD2] at HR2
        rw [← hN2] at HR4
        rw [← hD2] at HPM HD2 ⊢
        rw [← hN2]
        clear hD2 hN2
        replace HA := Lib.hid (HA.out.keep (Keeps.of_below hb12))
        replace HP := Lib.hid (HP.out.keep (Keeps.of_below hb12))
        replace HQ := Lib.hid (HQ.out.keep (Keeps.of_below hb12))
        replace HX := Lib.hid (HX.out.keep hb12)
        replace VD := Lib.hid (VD.out.keep hb12)
        replace K := Lib.hid (K.out.trans (hb12.mono K.out.size))
        clear hb12
        have hne2 := VD.out.blk.lt
        clear hc1 hc2 hc3 hc4
        have al13 : Below w12.heap.size w12 (w12.alloc (.cells #[.int .i64 D2.size, .slice A2 D2.secs.length c2, .slice P2 D2.pend.length cp2, .int .i64 D2.left] 25)) := (Below.refl _ _).alloc (Nat.le_refl _) _
        have V2 := Lib.hid (Var.new HD2.out)
        have gl13 := K.out.size
        replace HA := Lib.hid (HA.out.keep (Keeps.of_below al13))
        replace HP := Lib.hid (HP.out.keep (Keeps.of_below al13))
        replace HQ := Lib.hid (HQ.out.keep (Keeps.of_below al13))
        replace HX := Lib.hid (HX.out.keep al13)
        replace VD := Lib.hid (VD.out.keep al13)
        replace K := Lib.hid (K.out.trans (al13.mono K.out.size))
        clear al13
        go_upto_region 6 with (fail)
        generalize w12.alloc (.cells #[.int .i64 D2.size, .slice A2 D2.secs.length c2, .slice P2 D2.pend.length cp2, .int .i64 D2.left] 25) = w13 at *
        generalize w12.heap.size = g13 at *
        clear HD2
        have C14 := records_any w13 _ _ D VD.out.dk
        rw [HR1.out, ← HPL.out, ← HDL.out] at C14
        have C14 := Lib.hid C14
        obtain ⟨o00, o01, o02, o03, _⟩ := VD.out.facts
        rw [← HPL.out] at o02
        rw [← HDL.out] at o03
        go_wp2_with fail
        refine C14.out.mono ?_
        rintro e w14 ⟨v14, rfl, ht14, hb14⟩
        clear C14 o00 o01 o02 o03
        obtain ⟨xA, xc, rfl, hxl, hxm⟩ := Txs.form ht14
        have HTX := Lib.hid ht14
        simp only at HTX
        clear ht14
        replace HA := Lib.hid (HA.out.keep (Keeps.of_below hb14))
        replace HP := Lib.hid (HP.out.keep (Keeps.of_below hb14))
        replace HQ := Lib.hid (HQ.out.keep (Keeps.of_below hb14))
        replace HX := Lib.hid (HX.out.keep hb14)
        replace VD := Lib.hid (VD.out.keep hb14)
        replace V2 := Lib.hid (V2.out.keep hb14)
        replace K := Lib.hid (K.out.trans (hb14.mono K.out.size))
        clear hb14
        have C15 := records_any w14 _ _ D2 V2.out.dk
        rw [HR2.out] at C15
        have C15 := Lib.hid C15
        obtain ⟨o00, o01, o02, o03, _⟩ := V2.out.facts
        go_wp2_with fail
        refine C15.out.mono ?_
        rintro e w15 ⟨v15, rfl, ht15, hb15⟩
        clear C15 o00 o01 o02 o03
        obtain ⟨yA, yc, rfl, hyl, hym⟩ := Txs.form ht15
        have HTY := Lib.hid ht15
        simp only at HTY
        clear ht15
        replace HA := Lib.hid (HA.out.keep (Keeps.of_below hb15))
        replace HP := Lib.hid (HP.out.keep (Keeps.of_below hb15))
        replace HQ := Lib.hid (HQ.out.keep (Keeps.of_below hb15))
        replace HX := Lib.hid (HX.out.keep hb15)
        replace VD := Lib.hid (VD.out.keep hb15)
        replace V2 := Lib.hid (V2.out.keep hb15)
        replace HTX := Lib.hid (HTX.out.keep (Keeps.of_below hb15))
        replace K := Lib.hid (K.out.trans (hb15.mono K.out.size))
        clear hb15
        obtain ⟨o00, o01, o02, o03, _⟩ := VD.out.facts
        obtain ⟨t0, t1, t2, t3, r0, r1, r2, r3⟩ := VD.out.facts
        have VDL := Lib.hid (VD.out.left (lf % 40) (by omega) (by omega))
        have HXL := Lib.hid (HX.out.far (p := ⟨g3, 3, none⟩) (show gb ≠ g3 by omega) (.int .i64 (lf % 40)))
        have HTXL := Lib.hid (Strs.setBox (j := 3) HTX.out (nostr4 VD.out.blk) (.int .i64 (lf % 40)))
        have HTYL := Lib.hid (Strs.setBox (j := 3) HTY.out (nostr4 VD.out.blk) (.int .i64 (lf % 40)))
        have HPR := Lib.hid (Strs.setBox (j := 3) HP.out.recs (nostr4 VD.out.blk) (.int .i64 (lf % 40)))
        have KL := Lib.hid (K.out.setCell (p := ⟨g3, 3, none⟩) (show W.heap.size ≤ g3 by omega) (.int .i64 (lf % 40)))
        have HPP : Hid (ActP (w15.setCell ⟨g3, 3, none⟩ (.int .i64 (lf % 40))) rA rc iA ic a) := ha.keep (Keeps.of_below KL.out)
        have HQQ := Lib.hid (hps.keep (Keeps.of_below KL.out))
        have hrem : lf.tmod 40 = lf % 40 := Int.tmod_eq_emod_of_nonneg hlf.1
        rw [← HPL.out] at t2
        go_upto_region 9 with (fail)
        clear o00 o01 o02 o03 t0 t1 t2 t3 r0 r1 r2 r3 hrem VD HX HTX HTY HP HQ HA K V2
        generalize w15.setCell ⟨g3, 3, none⟩ (.int .i64 (lf % 40)) = wL at *
        clear HPR
        have HPL2 : Hid (0 = D.pend.length) := HPL.out
        have HQE : Hid (({ D with left := lf % 40 } : Dk).pend.length ≤ 10000) := by show D.pend.length ≤ 10000; have := HPN.out; omega
        have HLQ : Hid (({ D with left := lf % 40 } : Dk).left = lf % 40) := rfl
        have C16 := do_any wL A c P cp { D with left := lf % 40 } VDL.out.dk HQE.out rA rc iA ic a HPP.out
        simp only at C16
        rw [← HPL.out] at C16
        have C16 := Lib.hid C16
        obtain ⟨o00, o01, o02, o03, _⟩ := VDL.out.facts
        obtain ⟨o10, o11, o12, o13⟩ := box4 HXL.out (Below.refl _ _)
        simp only at o00 o01 o02 o03
        rw [← HPL.out] at o02
        go_wp2_with fail
        refine C16.out.mono ?_
        rintro e w16 ⟨vs16, vp16, rfl, hD16, hb16⟩
        clear C16 o00 o01 o02 o03 o10 o11 o12 o13
        obtain ⟨A3, c3, P3, cp3, rfl, rfl, _, _, _, _⟩ := hD16.form
        have HD3 := Lib.hid hD16
        clear hD16
        obtain ⟨D3, hD3⟩ : ∃ x, x = (doD { D with left := lf % 40 } a).1 := ⟨_, rfl⟩
        obtain ⟨N3, hN3⟩ : ∃ x, x = (doD { D with left := lf % 40 } a).2 := ⟨_, rfl⟩
        rw [← hD3] at HR3 HPQ
        rw [← hN3] at HR4 HR5
        rw [← hD3] at HD3 ⊢
        rw [← hN3]
        clear hD3 hN3
        replace VDL := Lib.hid (VDL.out.keep hb16)
        replace HXL := Lib.hid (HXL.out.keep hb16)
        replace HTXL := Lib.hid (HTXL.out.keep (Keeps.of_below hb16))
        replace HTYL := Lib.hid (HTYL.out.keep (Keeps.of_below hb16))
        replace HPP := Lib.hid (HPP.out.keep (Keeps.of_below hb16))
        replace HQQ := Lib.hid (HQQ.out.keep (Keeps.of_below hb16))
        replace KL := Lib.hid (KL.out.trans (hb16.mono KL.out.size))
        clear hb16
        have al17 : Below w16.heap.size w16 (w16.alloc (.cells #[.int .i64 D3.size, .slice A3 D3.secs.length c3, .slice P3 D3.pend.length cp3, .int .i64 D3.left] 25)) := (Below.refl _ _).alloc (Nat.le_refl _) _
        have V3 := Lib.hid (Var.new HD3.out)
        have gl17 := KL.out.size
        replace VDL := Lib.hid (VDL.out.keep al17)
        replace HXL := Lib.hid (HXL.out.keep al17)
        replace HTXL := Lib.hid (HTXL.out.keep (Keeps.of_below al17))
        replace HTYL := Lib.hid (HTYL.out.keep (Keeps.of_below al17))
        replace HPP := Lib.hid (HPP.out.keep (Keeps.of_below al17))
        replace HQQ := Lib.hid (HQQ.out.keep (Keeps.of_below al17))
        replace KL := Lib.hid (KL.out.trans (al17.mono KL.out.size))
        clear al17
        go_upto_region 10 with (fail)
        generalize w16.alloc (.cells #[.int .i64 D3.size, .slice A3 D3.secs.length c3, .slice P3 D3.pend.length cp3, .int .i64 D3.left] 25) = w17 at *
        generalize w16.heap.size = g17 at *
        clear HD3
        have C18 := Lib.hid (cut_any w17 _ _ _ D3 V3.out.dk (by have := HPQ.out; omega) ps HQQ.out)
        obtain ⟨o00, o01, o02, o03, _⟩ := V3.out.facts
        go_wp2_with fail
        refine C18.out.mono ?_
        rintro e w18 ⟨vs18, vp18, rfl, hD18, hb18⟩
        clear C18 o00 o01 o02 o03
        have HD4 := Lib.hid hD18
        clear hD18
        generalize cutD D3 ps = D4 at *
        replace VDL := Lib.hid (VDL.out.keep hb18)
        replace HXL := Lib.hid (HXL.out.keep hb18)
        replace HTXL := Lib.hid (HTXL.out.keep (Keeps.of_below hb18))
        replace HTYL := Lib.hid (HTYL.out.keep (Keeps.of_below hb18))
        replace HPP := Lib.hid (HPP.out.keep (Keeps.of_below hb18))
        replace HQQ := Lib.hid (HQQ.out.keep (Keeps.of_below hb18))
        replace V3 := Lib.hid (V3.out.keep hb18)
        replace KL := Lib.hid (KL.out.trans (hb18.mono KL.out.size))
        clear hb18
        have C19 := records_any w18 _ _ D4 HD4.out
        rw [HR3.out] at C19
        have C19 := Lib.hid C19
        go_wp2_with fail
        refine C19.out.mono ?_
        rintro e w19 ⟨v19, rfl, ht19, hb19⟩
        clear C19
        obtain ⟨zA, zc, rfl, hzl, hzm⟩ := Txs.form ht19
        have HTZ := Lib.hid ht19
        simp only at HTZ
        clear ht19
        replace VDL := Lib.hid (VDL.out.keep hb19)
        replace HXL := Lib.hid (HXL.out.keep hb19)
        replace HTXL := Lib.hid (HTXL.out.keep (Keeps.of_below hb19))
        replace HTYL := Lib.hid (HTYL.out.keep (Keeps.of_below hb19))
        replace HPP := Lib.hid (HPP.out.keep (Keeps.of_below hb19))
        replace HQQ := Lib.hid (HQQ.out.keep (Keeps.of_below hb19))
        replace V3 := Lib.hid (V3.out.keep hb19)
        replace HD4 := Lib.hid (HD4.out.keep (Keeps.of_below hb19))
        replace KL := Lib.hid (KL.out.trans (hb19.mono KL.out.size))
        clear hb19
        clear HR1 HR2 HR3
        by_cases hef : N3 = N2
        · have hefb : (N3 != N2) = false := by simpa using hef
          clear hef
          by_cases hA : zz = x ∧ N3 ≠ 0
          · obtain ⟨rfl, hn0⟩ := hA
            have hn0b : (N3 != 0) = true := by simpa using hn0
            clear HR4 HR5 hn0
            have C20 := rsame_any w19 zA zc zz HTZ.out xA xc zz HTXL.out
            rw [decide_eq_true (rfl : zz = zz)] at C20
            have C20 := Lib.hid C20
            go_wp2_with fail
            refine C20.out.mono ?_
            rintro e w20 ⟨rfl, hb20⟩
            clear C20
            replace VDL := Lib.hid (VDL.out.keep hb20)
            replace HXL := Lib.hid (HXL.out.keep hb20)
            replace HTXL := Lib.hid (HTXL.out.keep (Keeps.of_below hb20))
            replace HTYL := Lib.hid (HTYL.out.keep (Keeps.of_below hb20))
            replace HPP := Lib.hid (HPP.out.keep (Keeps.of_below hb20))
            replace HQQ := Lib.hid (HQQ.out.keep (Keeps.of_below hb20))
            replace V3 := Lib.hid (V3.out.keep hb20)
            replace HD4 := Lib.hid (HD4.out.keep (Keeps.of_below hb20))
            replace HTZ := Lib.hid (HTZ.out.keep (Keeps.of_below hb20))
            replace KL := Lib.hid (KL.out.trans (hb20.mono KL.out.size))
            clear hb20
            have C21 := Lib.hid (awake_any w20)
            go_wp2_with fail
            refine C21.out.mono ?_
            rintro e w21 ⟨rfl, hb21⟩
            clear C21
            replace VDL := Lib.hid (VDL.out.keep hb21)
            replace HXL := Lib.hid (HXL.out.keep hb21)
            replace HTXL := Lib.hid (HTXL.out.keep (Keeps.of_below hb21))
            replace HTYL := Lib.hid (HTYL.out.keep (Keeps.of_below hb21))
            replace HPP := Lib.hid (HPP.out.keep (Keeps.of_below hb21))
            replace HQQ := Lib.hid (HQQ.out.keep (Keeps.of_below hb21))
            replace V3 := Lib.hid (V3.out.keep hb21)
            replace HD4 := Lib.hid (HD4.out.keep (Keeps.of_below hb21))
            replace HTZ := Lib.hid (HTZ.out.keep (Keeps.of_below hb21))
            replace KL := Lib.hid (KL.out.trans (hb21.mono KL.out.size))
            clear hb21
            go_wp2
            go_ret
            exact ⟨rfl, KL.out⟩
          by_cases hzx : zz = x
          · have hn0 : N3 = 0 := by
              rcases Classical.em (N3 = 0) with e | e
              · exact e
              · exact absurd ⟨hzx, e⟩ hA
            have hn0b : (N3 != 0) = false := by simpa using hn0
            have hzy : zz = y := by
              rcases HR5.out with e | e
              · exact absurd e hA
              · exact e
            clear HR4 HR5 hA hn0
            subst hzx
            subst hzy
            have C22 := rsame_any w19 zA zc zz HTZ.out xA xc zz HTXL.out
            rw [decide_eq_true (rfl : zz = zz)] at C22
            have C22 := Lib.hid C22
            go_wp2_with fail
            refine C22.out.mono ?_
            rintro e w22 ⟨rfl, hb22⟩
            clear C22
            replace VDL := Lib.hid (VDL.out.keep hb22)
            replace HXL := Lib.hid (HXL.out.keep hb22)
            replace HTXL := Lib.hid (HTXL.out.keep (Keeps.of_below hb22))
            replace HTYL := Lib.hid (HTYL.out.keep (Keeps.of_below hb22))
            replace HPP := Lib.hid (HPP.out.keep (Keeps.of_below hb22))
            replace HQQ := Lib.hid (HQQ.out.keep (Keeps.of_below hb22))
            replace V3 := Lib.hid (V3.out.keep hb22)
            replace HD4 := Lib.hid (HD4.out.keep (Keeps.of_below hb22))
            replace HTZ := Lib.hid (HTZ.out.keep (Keeps.of_below hb22))
            replace KL := Lib.hid (KL.out.trans (hb22.mono KL.out.size))
            clear hb22
            have C23 := rsame_any w22 zA zc zz HTZ.out yA yc zz HTYL.out
            rw [decide_eq_true (rfl : zz = zz)] at C23
            have C23 := Lib.hid C23
            go_wp2_with fail
            refine C23.out.mono ?_
            rintro e w23 ⟨rfl, hb23⟩
            clear C23
            replace VDL := Lib.hid (VDL.out.keep hb23)
            replace HXL := Lib.hid (HXL.out.keep hb23)
            replace HTXL := Lib.hid (HTXL.out.keep (Keeps.of_below hb23))
            replace HTYL := Lib.hid (HTYL.out.keep (Keeps.of_below hb23))
            replace HPP := Lib.hid (HPP.out.keep (Keeps.of_below hb23))
            replace HQQ := Lib.hid (HQQ.out.keep (Keeps.of_below hb23))
            replace V3 := Lib.hid (V3.out.keep hb23)
            replace HD4 := Lib.hid (HD4.out.keep (Keeps.of_below hb23))
            replace HTZ := Lib.hid (HTZ.out.keep (Keeps.of_below hb23))
            replace KL := Lib.hid (KL.out.trans (hb23.mono KL.out.size))
            clear hb23
            have C24 := Lib.hid (awake_any w23)
            go_wp2_with fail
            refine C24.out.mono ?_
            rintro e w24 ⟨rfl, hb24⟩
            clear C24
            replace VDL := Lib.hid (VDL.out.keep hb24)
            replace HXL := Lib.hid (HXL.out.keep hb24)
            replace HTXL := Lib.hid (HTXL.out.keep (Keeps.of_below hb24))
            replace HTYL := Lib.hid (HTYL.out.keep (Keeps.of_below hb24))
            replace HPP := Lib.hid (HPP.out.keep (Keeps.of_below hb24))
            replace HQQ := Lib.hid (HQQ.out.keep (Keeps.of_below hb24))
            replace V3 := Lib.hid (V3.out.keep hb24)
            replace HD4 := Lib.hid (HD4.out.keep (Keeps.of_below hb24))
            replace HTZ := Lib.hid (HTZ.out.keep (Keeps.of_below hb24))
            replace KL := Lib.hid (KL.out.trans (hb24.mono KL.out.size))
            clear hb24
            go_wp2
            go_ret
            exact ⟨rfl, KL.out⟩
          · have hzy : zz = y := by
              rcases HR5.out with e | e
              · exact absurd e hA
              · exact e
            clear HR4 HR5 hA
            subst hzy
            have C25 := rsame_any w19 zA zc zz HTZ.out xA xc x HTXL.out
            rw [decide_eq_false hzx] at C25
            have C25 := Lib.hid C25
            go_wp2_with fail
            refine C25.out.mono ?_
            rintro e w25 ⟨rfl, hb25⟩
            clear C25
            replace VDL := Lib.hid (VDL.out.keep hb25)
            replace HXL := Lib.hid (HXL.out.keep hb25)
            replace HTXL := Lib.hid (HTXL.out.keep (Keeps.of_below hb25))
            replace HTYL := Lib.hid (HTYL.out.keep (Keeps.of_below hb25))
            replace HPP := Lib.hid (HPP.out.keep (Keeps.of_below hb25))
            replace HQQ := Lib.hid (HQQ.out.keep (Keeps.of_below hb25))
            replace V3 := Lib.hid (V3.out.keep hb25)
            replace HD4 := Lib.hid (HD4.out.keep (Keeps.of_below hb25))
            replace HTZ := Lib.hid (HTZ.out.keep (Keeps.of_below hb25))
            replace KL := Lib.hid (KL.out.trans (hb25.mono KL.out.size))
            clear hb25
            have C26 := rsame_any w25 zA zc zz HTZ.out yA yc zz HTYL.out
            rw [decide_eq_true (rfl : zz = zz)] at C26
            have C26 := Lib.hid C26
            go_wp2_with fail
            refine C26.out.mono ?_
            rintro e w26 ⟨rfl, hb26⟩
            clear C26
            replace VDL := Lib.hid (VDL.out.keep hb26)
            replace HXL := Lib.hid (HXL.out.keep hb26)
            replace HTXL := Lib.hid (HTXL.out.keep (Keeps.of_below hb26))
            replace HTYL := Lib.hid (HTYL.out.keep (Keeps.of_below hb26))
            replace HPP := Lib.hid (HPP.out.keep (Keeps.of_below hb26))
            replace HQQ := Lib.hid (HQQ.out.keep (Keeps.of_below hb26))
            replace V3 := Lib.hid (V3.out.keep hb26)
            replace HD4 := Lib.hid (HD4.out.keep (Keeps.of_below hb26))
            replace HTZ := Lib.hid (HTZ.out.keep (Keeps.of_below hb26))
            replace KL := Lib.hid (KL.out.trans (hb26.mono KL.out.size))
            clear hb26
            have C27 := Lib.hid (awake_any w26)
            go_wp2_with fail
            refine C27.out.mono ?_
            rintro e w27 ⟨rfl, hb27⟩
            clear C27
            replace VDL := Lib.hid (VDL.out.keep hb27)
            replace HXL := Lib.hid (HXL.out.keep hb27)
            replace HTXL := Lib.hid (HTXL.out.keep (Keeps.of_below hb27))
            replace HTYL := Lib.hid (HTYL.out.keep (Keeps.of_below hb27))
            replace HPP := Lib.hid (HPP.out.keep (Keeps.of_below hb27))
            replace HQQ := Lib.hid (HQQ.out.keep (Keeps.of_below hb27))
            replace V3 := Lib.hid (V3.out.keep hb27)
            replace HD4 := Lib.hid (HD4.out.keep (Keeps.of_below hb27))
            replace HTZ := Lib.hid (HTZ.out.keep (Keeps.of_below hb27))
            replace KL := Lib.hid (KL.out.trans (hb27.mono KL.out.size))
            clear hb27
            go_wp2
            go_ret
            exact ⟨rfl, KL.out⟩
        · have hefb : (N3 != N2) = true := by simpa using hef
          have hn20 : N3 = 20 := by
            rcases HR4.out with e | e
            · exact absurd e hef
            · exact e
          have hn20b : (N3 != 20) = false := by simpa using hn20
          clear hef hn20
          by_cases hA : zz = x ∧ N3 ≠ 0
          · obtain ⟨rfl, hn0⟩ := hA
            have hn0b : (N3 != 0) = true := by simpa using hn0
            clear HR4 HR5 hn0
            have C28 := rsame_any w19 zA zc zz HTZ.out xA xc zz HTXL.out
            rw [decide_eq_true (rfl : zz = zz)] at C28
            have C28 := Lib.hid C28
            go_wp2_with fail
            refine C28.out.mono ?_
            rintro e w28 ⟨rfl, hb28⟩
            clear C28
            replace VDL := Lib.hid (VDL.out.keep hb28)
            replace HXL := Lib.hid (HXL.out.keep hb28)
            replace HTXL := Lib.hid (HTXL.out.keep (Keeps.of_below hb28))
            replace HTYL := Lib.hid (HTYL.out.keep (Keeps.of_below hb28))
            replace HPP := Lib.hid (HPP.out.keep (Keeps.of_below hb28))
            replace HQQ := Lib.hid (HQQ.out.keep (Keeps.of_below hb28))
            replace V3 := Lib.hid (V3.out.keep hb28)
            replace HD4 := Lib.hid (HD4.out.keep (Keeps.of_below hb28))
            replace HTZ := Lib.hid (HTZ.out.keep (Keeps.of_below hb28))
            replace KL := Lib.hid (KL.out.trans (hb28.mono KL.out.size))
            clear hb28
            have C29 := Lib.hid (awake_any w28)
            go_wp2_with fail
            refine C29.out.mono ?_
            rintro e w29 ⟨rfl, hb29⟩
            clear C29
            replace VDL := Lib.hid (VDL.out.keep hb29)
            replace HXL := Lib.hid (HXL.out.keep hb29)
            replace HTXL := Lib.hid (HTXL.out.keep (Keeps.of_below hb29))
            replace HTYL := Lib.hid (HTYL.out.keep (Keeps.of_below hb29))
            replace HPP := Lib.hid (HPP.out.keep (Keeps.of_below hb29))
            replace HQQ := Lib.hid (HQQ.out.keep (Keeps.of_below hb29))
            replace V3 := Lib.hid (V3.out.keep hb29)
            replace HD4 := Lib.hid (HD4.out.keep (Keeps.of_below hb29))
            replace HTZ := Lib.hid (HTZ.out.keep (Keeps.of_below hb29))
            replace KL := Lib.hid (KL.out.trans (hb29.mono KL.out.size))
            clear hb29
            go_wp2
            go_ret
            exact ⟨rfl, KL.out⟩
          by_cases hzx : zz = x
          · have hn0 : N3 = 0 := by
              rcases Classical.em (N3 = 0) with e | e
              · exact e
              · exact absurd ⟨hzx, e⟩ hA
            have hn0b : (N3 != 0) = false := by simpa using hn0
            have hzy : zz = y := by
              rcases HR5.out with e | e
              · exact absurd e hA
              · exact e
            clear HR4 HR5 hA hn0
            subst hzx
            subst hzy
            have C30 := rsame_any w19 zA zc zz HTZ.out xA xc zz HTXL.out
            rw [decide_eq_true (rfl : zz = zz)] at C30
            have C30 := Lib.hid C30
            go_wp2_with fail
            refine C30.out.mono ?_
            rintro e w30 ⟨rfl, hb30⟩
            clear C30
            replace VDL := Lib.hid (VDL.out.keep hb30)
            replace HXL := Lib.hid (HXL.out.keep hb30)
            replace HTXL := Lib.hid (HTXL.out.keep (Keeps.of_below hb30))
            replace HTYL := Lib.hid (HTYL.out.keep (Keeps.of_below hb30))
            replace HPP := Lib.hid (HPP.out.keep (Keeps.of_below hb30))
            replace HQQ := Lib.hid (HQQ.out.keep (Keeps.of_below hb30))
            replace V3 := Lib.hid (V3.out.keep hb30)
            replace HD4 := Lib.hid (HD4.out.keep (Keeps.of_below hb30))
            replace HTZ := Lib.hid (HTZ.out.keep (Keeps.of_below hb30))
            replace KL := Lib.hid (KL.out.trans (hb30.mono KL.out.size))
            clear hb30
            have C31 := rsame_any w30 zA zc zz HTZ.out yA yc zz HTYL.out
            rw [decide_eq_true (rfl : zz = zz)] at C31
            have C31 := Lib.hid C31
            go_wp2_with fail
            refine C31.out.mono ?_
            rintro e w31 ⟨rfl, hb31⟩
            clear C31
            replace VDL := Lib.hid (VDL.out.keep hb31)
            replace HXL := Lib.hid (HXL.out.keep hb31)
            replace HTXL := Lib.hid (HTXL.out.keep (Keeps.of_below hb31))
            replace HTYL := Lib.hid (HTYL.out.keep (Keeps.of_below hb31))
            replace HPP := Lib.hid (HPP.out.keep (Keeps.of_below hb31))
            replace HQQ := Lib.hid (HQQ.out.keep (Keeps.of_below hb31))
            replace V3 := Lib.hid (V3.out.keep hb31)
            replace HD4 := Lib.hid (HD4.out.keep (Keeps.of_below hb31))
            replace HTZ := Lib.hid (HTZ.out.keep (Keeps.of_below hb31))
            replace KL := Lib.hid (KL.out.trans (hb31.mono KL.out.size))
            clear hb31
            have C32 := Lib.hid (awake_any w31)
            go_wp2_with fail
            refine C32.out.mono ?_
            rintro e w32 ⟨rfl, hb32⟩
            clear C32
            replace VDL := Lib.hid (VDL.out.keep hb32)
            replace HXL := Lib.hid (HXL.out.keep hb32)
            replace HTXL := Lib.hid (HTXL.out.keep (Keeps.of_below hb32))
            replace HTYL := Lib.hid (HTYL.out.keep (Keeps.of_below hb32))
            replace HPP := Lib.hid (HPP.out.keep (Keeps.of_below hb32))
            replace HQQ := Lib.hid (HQQ.out.keep (Keeps.of_below hb32))
            replace V3 := Lib.hid (V3.out.keep hb32)
            replace HD4 := Lib.hid (HD4.out.keep (Keeps.of_below hb32))
            replace HTZ := Lib.hid (HTZ.out.keep (Keeps.of_below hb32))
            replace KL := Lib.hid (KL.out.trans (hb32.mono KL.out.size))
            clear hb32
            go_wp2
            go_ret
            exact ⟨rfl, KL.out⟩
          · have hzy : zz = y := by
              rcases HR5.out with e | e
              · exact absurd e hA
              · exact e
            clear HR4 HR5 hA
            subst hzy
            have C33 := rsame_any w19 zA zc zz HTZ.out xA xc x HTXL.out
            rw [decide_eq_false hzx] at C33
            have C33 := Lib.hid C33
            go_wp2_with fail
            refine C33.out.mono ?_
            rintro e w33 ⟨rfl, hb33⟩
            clear C33
            replace VDL := Lib.hid (VDL.out.keep hb33)
            replace HXL := Lib.hid (HXL.out.keep hb33)
            replace HTXL := Lib.hid (HTXL.out.keep (Keeps.of_below hb33))
            replace HTYL := Lib.hid (HTYL.out.keep (Keeps.of_below hb33))
            replace HPP := Lib.hid (HPP.out.keep (Keeps.of_below hb33))
            replace HQQ := Lib.hid (HQQ.out.keep (Keeps.of_below hb33))
            replace V3 := Lib.hid (V3.out.keep hb33)
            replace HD4 := Lib.hid (HD4.out.keep (Keeps.of_below hb33))
            replace HTZ := Lib.hid (HTZ.out.keep (Keeps.of_below hb33))
            replace KL := Lib.hid (KL.out.trans (hb33.mono KL.out.size))
            clear hb33
            have C34 := rsame_any w33 zA zc zz HTZ.out yA yc zz HTYL.out
            rw [decide_eq_true (rfl : zz = zz)] at C34
            have C34 := Lib.hid C34
            go_wp2_with fail
            refine C34.out.mono ?_
            rintro e w34 ⟨rfl, hb34⟩
            clear C34
            replace VDL := Lib.hid (VDL.out.keep hb34)
            replace HXL := Lib.hid (HXL.out.keep hb34)
            replace HTXL := Lib.hid (HTXL.out.keep (Keeps.of_below hb34))
            replace HTYL := Lib.hid (HTYL.out.keep (Keeps.of_below hb34))
            replace HPP := Lib.hid (HPP.out.keep (Keeps.of_below hb34))
            replace HQQ := Lib.hid (HQQ.out.keep (Keeps.of_below hb34))
            replace V3 := Lib.hid (V3.out.keep hb34)
            replace HD4 := Lib.hid (HD4.out.keep (Keeps.of_below hb34))
            replace HTZ := Lib.hid (HTZ.out.keep (Keeps.of_below hb34))
            replace KL := Lib.hid (KL.out.trans (hb34.mono KL.out.size))
            clear hb34
            have C35 := Lib.hid (awake_any w34)
            go_wp2_with fail
            refine C35.out.mono ?_
            rintro e w35 ⟨rfl, hb35⟩
            clear C35
            replace VDL := Lib.hid (VDL.out.keep hb35)
            replace HXL := Lib.hid (HXL.out.keep hb35)
            replace HTXL := Lib.hid (HTXL.out.keep (Keeps.of_below hb35))
            replace HTYL := Lib.hid (HTYL.out.keep (Keeps.of_below hb35))
            replace HPP := Lib.hid (HPP.out.keep (Keeps.of_below hb35))
            replace HQQ := Lib.hid (HQQ.out.keep (Keeps.of_below hb35))
            replace V3 := Lib.hid (V3.out.keep hb35)
            replace HD4 := Lib.hid (HD4.out.keep (Keeps.of_below hb35))
            replace HTZ := Lib.hid (HTZ.out.keep (Keeps.of_below hb35))
            replace KL := Lib.hid (KL.out.trans (hb35.mono KL.out.size))
            clear hb35
            go_wp2
            go_ret
            exact ⟨rfl, KL.out⟩
  · intro K0 hK0
    go_simp
    have al1 : Below wd.heap.size wd (wd.alloc (.cells #[.int .i64 0, .slice none 0 0, .int .i64 0, .slice none 0 0] 49)) := (Below.refl _ _).alloc (Nat.le_refl _) _
    have KD := Lib.hid (HDR.out.trans (al1.mono HDR.out.size))
    refine hK0 _ _ (HSS.out _ KD.out) ?_
    clear hK0 K0
    try simp only [Act.put, List.setIfInBounds_toArray, List.set_cons_zero, List.set_cons_succ]
    have BA := Blk.new wd #[.int .i64 0, .slice none 0 0, .int .i64 0, .slice none 0 0] 49
    have hga := HDR.out.size
    have hgl := BA.lt
    generalize wd.alloc (.cells #[.int .i64 0, .slice none 0 0, .int .i64 0, .slice none 0 0] 49) = we at *
    generalize wd.heap.size = ga at *
    clear al1
    refine AtS.only (i := 8) (by simp only [List.getElem?_toArray, List.getElem?_cons_succ, List.getElem?_cons_zero]; rfl) (by kernel_rfl) (by rfl) ?_
    intro K0 hK0
    go_simp
    have al1 : Below we.heap.size we (we.alloc (.cells #[.int .i64 0, .int .i64 0, .slice none 0 0] 42)) := (Below.refl _ _).alloc (Nat.le_refl _) _
    have KE := Lib.hid (KD.out.trans (al1.mono KD.out.size))
    refine hK0 _ _ (HSS.out _ KE.out) ?_
    clear hK0 K0
    try simp only [Act.put, List.setIfInBounds_toArray, List.set_cons_zero, List.set_cons_succ]
    have BA' := BA.keep al1
    have BB := Blk.new we #[.int .i64 0, .int .i64 0, .slice none 0 0] 42
    generalize we.alloc (.cells #[.int .i64 0, .int .i64 0, .slice none 0 0] 42) = wf at *
    generalize we.heap.size = gb at *
    clear al1 BA KD
    obtain ⟨t0, t1, t2, r0, r1, r2⟩ := blk3 BB
    have C3 := put3_self (u0 := .int .i64 n) (u1 := .int .i64 z) (u2 := .slice B acts.length lc) BB
    have C4 := put3_far (g := gb) (u0 := .int .i64 n) (u1 := .int .i64 z) (u2 := .slice B acts.length lc) BA' (by omega)
    have KF := put3_bel (g := gb) (u0 := .int .i64 n) (u1 := .int .i64 z) (u2 := .slice B acts.length lc) KE.out (by omega)
    refine AtS.only (i := 10) (by simp only [List.getElem?_toArray, List.getElem?_cons_succ, List.getElem?_cons_zero]; rfl) (by kernel_rfl) (by rfl) ?_
    intro K0 hK0
    go_simp
    refine hK0 _ _ (HSS.out _ KF) ?_
    clear hK0 K0
    change AtS _ _ _ _ _ _ _ _ _ (put3 wf gb (.int .i64 n) (.int .i64 z) (.slice B acts.length lc))
    clear t0 t1 t2 r0 r1 r2 BA' BB KE
    generalize put3 wf gb (.int .i64 n) (.int .i64 z) (.slice B acts.length lc) = wg at *
    try simp only [Act.put, List.setIfInBounds_toArray, List.set_cons_zero, List.set_cons_succ]
    obtain ⟨t0, t1, t2, t3, r0, r1, r2, r3⟩ := box8 C4 (Below.refl _ _)
    have D4 := putQ_self (u0 := .int .i64 a.kind) (u1 := .slice rA a.recs.length rc) (u2 := .int .i64 a.left) (u3 := .slice iA a.ps.length ic) C4
    have D3 := putQ_far (g := ga) (u0 := .int .i64 a.kind) (u1 := .slice rA a.recs.length rc) (u2 := .int .i64 a.left) (u3 := .slice iA a.ps.length ic) C3 (by omega)
    have KG := putQ_bel (g := ga) (u0 := .int .i64 a.kind) (u1 := .slice rA a.recs.length rc) (u2 := .int .i64 a.left) (u3 := .slice iA a.ps.length ic) KF (by omega)
    refine AtS.only (i := 11) (by simp only [List.getElem?_toArray, List.getElem?_cons_succ, List.getElem?_cons_zero]; rfl) (by kernel_rfl) (by rfl) ?_
    intro K0 hK0
    go_simp
    refine hK0 _ _ (HSS.out _ KG) ?_
    clear hK0 K0
    change AtS _ _ _ _ _ _ _ _ _ (putQ wg ga (.int .i64 a.kind) (.slice rA a.recs.length rc) (.int .i64 a.left) (.slice iA a.ps.length ic))
    clear t0 t1 t2 t3 r0 r1 r2 r3 C3 C4 KF
    generalize putQ wg ga (.int .i64 a.kind) (.slice rA a.recs.length rc) (.int .i64 a.left) (.slice iA a.ps.length ic) = wh at *
    try simp only [Act.put, List.setIfInBounds_toArray, List.set_cons_zero, List.set_cons_succ]
    refine AtS.only (i := 12) (by simp only [List.getElem?_toArray, List.getElem?_cons_succ, List.getElem?_cons_zero]; rfl) (by kernel_rfl) (by rfl) ?_
    intro K0 hK0
    go_simp
    refine hK0 _ _ (HSS.out _ KG) ?_
    clear hK0 K0
    try simp only [Act.put, List.setIfInBounds_toArray, List.set_cons_zero, List.set_cons_succ]
    refine AtS.late (i := 13) (by simp only [List.getElem?_toArray, List.getElem?_cons_succ, List.getElem?_cons_zero]; rfl) (by kernel_rfl) (by rfl) (by rfl) ?_
    intro K0 hK0
    go_simp
    refine hK0 _ _ (AtS.done (by kernel_rfl) (NoPanic.normal ?_))
    clear hK0 K0
    clear HB HSS
    have HB := Lib.hid D3
    have HX := Lib.hid D4
    clear D3 D4
    replace HA := Lib.hid (HA.out.keep (Keeps.of_below KG))
    replace HP := Lib.hid (HP.out.keep (Keeps.of_below KG))
    replace HQ := Lib.hid (HQ.out.keep (Keeps.of_below KG))
    replace K := Lib.hid (K.out.trans (KG.mono K.out.size))
    clear KG
    have C36 := Lib.hid (reached_any wh n z hz0 B lc acts HA.out)
    obtain ⟨o00, o01, o02, _, _, _⟩ := blk3 HB.out
    go_wp2_with fail
    refine C36.out.mono ?_
    rintro e w36 ⟨vs, vp, rfl, hD, hb36⟩
    clear C36 o00 o01 o02
    have HD0 := Lib.hid hD
    clear hD
    have HJ : Hid (fineB n z acts = true → ∃ s un, Jst (rchD n z acts) s un ∧ (rchD n z acts).size = z ∧ ((rchD n z acts).secs.length : Int) = n ∧ 1 ≤ z ∧ z ≤ 16) := rch_true
    generalize rchD n z acts = D at *
    obtain ⟨A, c, P, cp, rfl, rfl, _, _, _, _⟩ := HD0.out.form
    replace HA := Lib.hid (HA.out.keep (Keeps.of_below hb36))
    replace HP := Lib.hid (HP.out.keep (Keeps.of_below hb36))
    replace HQ := Lib.hid (HQ.out.keep (Keeps.of_below hb36))
    replace HB := Lib.hid (HB.out.keep hb36)
    replace HX := Lib.hid (HX.out.keep hb36)
    replace K := Lib.hid (K.out.trans (hb36.mono K.out.size))
    clear hb36
    have hx3 := HX.out.lt
    have al37 : Below w36.heap.size w36 (w36.alloc (.cells #[.int .i64 D.size, .slice A D.secs.length c, .slice P D.pend.length cp, .int .i64 D.left] 25)) := (Below.refl _ _).alloc (Nat.le_refl _) _
    have VD := Lib.hid (Var.new HD0.out)
    have gl37 := K.out.size
    replace HA := Lib.hid (HA.out.keep (Keeps.of_below al37))
    replace HP := Lib.hid (HP.out.keep (Keeps.of_below al37))
    replace HQ := Lib.hid (HQ.out.keep (Keeps.of_below al37))
    replace HB := Lib.hid (HB.out.keep al37)
    replace HX := Lib.hid (HX.out.keep al37)
    replace K := Lib.hid (K.out.trans (al37.mono K.out.size))
    clear al37
    go_upto_region 3 with (fail)
    generalize w36.alloc (.cells #[.int .i64 D.size, .slice A D.secs.length c, .slice P D.pend.length cp, .int .i64 D.left] 25) = w37 at *
    generalize w36.heap.size = g37 at *
    clear HD0
    cases hf : fineB n z acts with
    | false =>
      clear hf
      have C38 := Lib.hid (awake_any w37)
      go_wp2_with fail
      refine C38.out.mono ?_
      rintro e w38 ⟨rfl, hb38⟩
      clear C38
      replace HA := Lib.hid (HA.out.keep (Keeps.of_below hb38))
      replace HP := Lib.hid (HP.out.keep (Keeps.of_below hb38))
      replace HQ := Lib.hid (HQ.out.keep (Keeps.of_below hb38))
      replace HX := Lib.hid (HX.out.keep hb38)
      replace VD := Lib.hid (VD.out.keep hb38)
      replace K := Lib.hid (K.out.trans (hb38.mono K.out.size))
      clear hb38
      go_wp2
      go_ret
      exact ⟨rfl, K.out⟩
    | true =>
      obtain ⟨s0, un, hJ, -, -, -, -⟩ := HJ.out hf
      replace HJ := Lib.hid hJ
      clear hJ hf
      have C39 := Lib.hid (fine_any (w37.alloc (.cells #[.int .i64 a.kind, .slice rA a.recs.length rc, .int .i64 a.left, .slice iA a.ps.length ic] 49)) 3 1 (by omega) (some ⟨w37.heap.size, 0, none⟩) 1 [a] (acts_one w37 HP.out))
      have al39 : Below w37.heap.size w37 (w37.alloc (.cells #[.int .i64 a.kind, .slice rA a.recs.length rc, .int .i64 a.left, .slice iA a.ps.length ic] 49)) := (Below.refl _ _).alloc (Nat.le_refl _) _
      obtain ⟨o00, o01, o02, o03⟩ := box4 HX.out (Below.refl _ _)
      go_wp2_with fail
      refine C39.out.mono ?_
      rintro e w39 ⟨rfl, hbx⟩
      have hb39 := al39.trans (hbx.mono al39.size)
      clear C39 hbx al39 o00 o01 o02 o03
      replace HA := Lib.hid (HA.out.keep (Keeps.of_below hb39))
      replace HP := Lib.hid (HP.out.keep (Keeps.of_below hb39))
      replace HQ := Lib.hid (HQ.out.keep (Keeps.of_below hb39))
      replace HX := Lib.hid (HX.out.keep hb39)
      replace VD := Lib.hid (VD.out.keep hb39)
      replace K := Lib.hid (K.out.trans (hb39.mono K.out.size))
      clear hb39
      cases hg : fineB 3 1 [a] with
      | false =>
        clear hg
        have C40 := Lib.hid (awake_any w39)
        go_wp2_with fail
        refine C40.out.mono ?_
        rintro e w40 ⟨rfl, hb40⟩
        clear C40
        replace HA := Lib.hid (HA.out.keep (Keeps.of_below hb40))
        replace HP := Lib.hid (HP.out.keep (Keeps.of_below hb40))
        replace HQ := Lib.hid (HQ.out.keep (Keeps.of_below hb40))
        replace HX := Lib.hid (HX.out.keep hb40)
        replace VD := Lib.hid (VD.out.keep hb40)
        replace K := Lib.hid (K.out.trans (hb40.mono K.out.size))
        clear hb40
        go_wp2
        go_ret
        exact ⟨rfl, K.out⟩
      | true =>
        clear hg
        obtain ⟨pl, hpl⟩ : ∃ pl : Nat, pl = D.pend.length := ⟨_, rfl⟩
        have HPL := Lib.hid hpl
        clear hpl
        obtain ⟨dl, hdl⟩ : ∃ dl : Int, dl = D.left := ⟨_, rfl⟩
        have HDL := Lib.hid hdl
        clear hdl
        by_cases hc1 : 30 < (ps.length : Int)
        · obtain ⟨o00, o01, o02, o03, _⟩ := VD.out.facts
          obtain ⟨o10, o11, o12, o13⟩ := box4 HX.out (Below.refl _ _)
          rw [← HPL.out] at o02
          rw [← HDL.out] at o03
          have C41 := Lib.hid (awake_any w39)
          go_wp2_with fail
          refine C41.out.mono ?_
          rintro e w41 ⟨rfl, hb41⟩
          clear C41
          replace HA := Lib.hid (HA.out.keep (Keeps.of_below hb41))
          replace HP := Lib.hid (HP.out.keep (Keeps.of_below hb41))
          replace HQ := Lib.hid (HQ.out.keep (Keeps.of_below hb41))
          replace HX := Lib.hid (HX.out.keep hb41)
          replace VD := Lib.hid (VD.out.keep hb41)
          replace K := Lib.hid (K.out.trans (hb41.mono K.out.size))
          clear hb41
          clear o00 o01 o02 o03 o10 o11 o12 o13
          go_wp2
          go_ret
          exact ⟨rfl, K.out⟩
        by_cases hc2 : 0 < (pl : Int)
        · obtain ⟨o00, o01, o02, o03, _⟩ := VD.out.facts
          obtain ⟨o10, o11, o12, o13⟩ := box4 HX.out (Below.refl _ _)
          rw [← HPL.out] at o02
          rw [← HDL.out] at o03
          have C42 := Lib.hid (awake_any w39)
          go_wp2_with fail
          refine C42.out.mono ?_
          rintro e w42 ⟨rfl, hb42⟩
          clear C42
          replace HA := Lib.hid (HA.out.keep (Keeps.of_below hb42))
          replace HP := Lib.hid (HP.out.keep (Keeps.of_below hb42))
          replace HQ := Lib.hid (HQ.out.keep (Keeps.of_below hb42))
          replace HX := Lib.hid (HX.out.keep hb42)
          replace VD := Lib.hid (VD.out.keep hb42)
          replace K := Lib.hid (K.out.trans (hb42.mono K.out.size))
          clear hb42
          clear o00 o01 o02 o03 o10 o11 o12 o13
          go_wp2
          go_ret
          exact ⟨rfl, K.out⟩
        obtain rfl : pl = 0 := by omega
        by_cases hc5 : ¬ dl = -1
        · obtain ⟨o00, o01, o02, o03, _⟩ := VD.out.facts
          obtain ⟨o10, o11, o12, o13⟩ := box4 HX.out (Below.refl _ _)
          rw [← HPL.out] at o02
          rw [← HDL.out] at o03
          have hc5b : (dl != -1) = true := by simpa using hc5
          have C43 := Lib.hid (awake_any w39)
          go_wp2_with fail
          refine C43.out.mono ?_
          rintro e w43 ⟨rfl, hb43⟩
          clear C43
          replace HA := Lib.hid (HA.out.keep (Keeps.of_below hb43))
          replace HP := Lib.hid (HP.out.keep (Keeps.of_below hb43))
          replace HQ := Lib.hid (HQ.out.keep (Keeps.of_below hb43))
          replace HX := Lib.hid (HX.out.keep hb43)
          replace VD := Lib.hid (VD.out.keep hb43)
          replace K := Lib.hid (K.out.trans (hb43.mono K.out.size))
          clear hb43
          clear o00 o01 o02 o03 o10 o11 o12 o13
          go_wp2
          go_ret
          exact ⟨rfl, K.out⟩
        obtain rfl : dl = -1 := by omega
        by_cases hc3 : a.kind < 0
        · obtain ⟨o00, o01, o02, o03, _⟩ := VD.out.facts
          obtain ⟨o10, o11, o12, o13⟩ := box4 HX.out (Below.refl _ _)
          rw [← HPL.out] at o02
          rw [← HDL.out] at o03
          have C44 := Lib.hid (awake_any w39)
          go_wp2_with fail
          refine C44.out.mono ?_
          rintro e w44 ⟨rfl, hb44⟩
          clear C44
          replace HA := Lib.hid (HA.out.keep (Keeps.of_below hb44))
          replace HP := Lib.hid (HP.out.keep (Keeps.of_below hb44))
          replace HQ := Lib.hid (HQ.out.keep (Keeps.of_below hb44))
          replace HX := Lib.hid (HX.out.keep hb44)
          replace VD := Lib.hid (VD.out.keep hb44)
          replace K := Lib.hid (K.out.trans (hb44.mono K.out.size))
          clear hb44
          clear o00 o01 o02 o03 o10 o11 o12 o13
          go_wp2
          go_ret
          exact ⟨rfl, K.out⟩
        by_cases hc4 : 1 < a.kind
        · obtain ⟨o00, o01, o02, o03, _⟩ := VD.out.facts
          obtain ⟨o10, o11, o12, o13⟩ := box4 HX.out (Below.refl _ _)
          rw [← HPL.out] at o02
          rw [← HDL.out] at o03
          have C45 := Lib.hid (awake_any w39)
          go_wp2_with fail
          refine C45.out.mono ?_
          rintro e w45 ⟨rfl, hb45⟩
          clear C45
          replace HA := Lib.hid (HA.out.keep (Keeps.of_below hb45))
          replace HP := Lib.hid (HP.out.keep (Keeps.of_below hb45))
          replace HQ := Lib.hid (HQ.out.keep (Keeps.of_below hb45))
          replace HX := Lib.hid (HX.out.keep hb45)
          replace VD := Lib.hid (VD.out.keep hb45)
          replace K := Lib.hid (K.out.trans (hb45.mono K.out.size))
          clear hb45
          clear o00 o01 o02 o03 o10 o11 o12 o13
          go_wp2
          go_ret
          exact ⟨rfl, K.out⟩
        have hk : a.kind = 0 ∨ a.kind = 1 := by omega
        have hte : 0 ≤ lf.tmod 40 := Int.tmod_nonneg 40 hlf.1
        have hte2 : lf.tmod 40 < 40 := Int.tmod_lt_of_pos lf (by omega)
        have hte3 : lf.tmod 40 = lf % 40 := Int.tmod_eq_emod_of_nonneg hlf.1
        rw [hte3] at hte hte2
        clear hte3
        obtain ⟨x, y, zz, hr1, hr2, hr3, hr4, hr5⟩ := atomic_ok HJ.out HDL.out.symm a hk (lf % 40) hte ps
        have HR1 := Lib.hid hr1
        have HR2 := Lib.hid hr2
        have HR3 := Lib.hid hr3
        have HR4 := Lib.hid hr4
        have HR5 := Lib.hid hr5
        have HPN := Lib.hid HJ.out.valid.2.2
        have HPM := Lib.hid (HJ.out.step a).1.valid.2.2
        have HPQ : Hid ((doD { D with left := lf % 40 } a).1.pend.length ≤ 1001) := by
          show _ ≤ _
          rcases HJ.out with ⟨a1, u1, g1, -⟩ | ⟨x1, e1, g1, g2, g3⟩
          · exact (Jst.step (.good a1 u1 (good_nleft g1 (lf % 40) (by omega)) rfl) a).1.valid.2.2
          · exact absurd (HDL.out.trans g2) (by omega)
        clear hr1 hr2 hr3 hr4 hr5 hk HJ
        have C46 := do_any w39 A c P cp D VD.out.dk (by have := HPN.out; omega) rA rc iA ic a HP.out
        rw [← HPL.out, ← HDL.out] at C46
        have C46 := Lib.hid C46
        obtain ⟨o00, o01, o02, o03, _⟩ := VD.out.facts
        obtain ⟨o10, o11, o12, o13⟩ := box4 HX.out (Below.refl _ _)
        rw [← HPL.out] at o02
        rw [← HDL.out] at o03
        go_wp2_with fail
        refine C46.out.mono ?_
        rintro e w46 ⟨vs46, vp46, rfl, hD46, hb46⟩
        clear C46 o00 o01 o02 o03 o10 o11 o12 o13
        obtain ⟨A2, c2, P2, cp2, rfl, rfl, _, _, _, _⟩ := hD46.form
        have HD2 := Lib.hid hD46
        clear hD46
        obtain ⟨D2, hD2⟩ : ∃ x, x = (doD D a).1 := ⟨_, rfl⟩
        obtain ⟨N2, hN2⟩ : ∃ x, x = (doD D a).2 := ⟨_, rfl⟩
        rw [← hD2] at HR2
        rw [← hN2] at HR4
        rw [← hD2] at HPM HD2 ⊢
        rw [← hN2]
        clear hD2 hN2
        replace HA := Lib.hid (HA.out.keep (Keeps.of_below hb46))
        replace HP := Lib.hid (HP.out.keep (Keeps.of_below hb46))
        replace HQ := Lib.hid (HQ.out.keep (Keeps.of_below hb46))
        replace HX := Lib.hid (HX.out.keep hb46)
        replace VD := Lib.hid (VD.out.keep hb46)
        replace K := Lib.hid (K.out.trans (hb46.mono K.out.size))
        clear hb46
        have hne2 := VD.out.blk.lt
        clear hc1 hc2 hc3 hc4
        have al47 : Below w46.heap.size w46 (w46.alloc (.cells #[.int .i64 D2.size, .slice A2 D2.secs.length c2, .slice P2 D2.pend.length cp2, .int .i64 D2.left] 25)) := (Below.refl _ _).alloc (Nat.le_refl _) _
        have V2 := Lib.hid (Var.new HD2.out)
        have gl47 := K.out.size
        replace HA := Lib.hid (HA.out.keep (Keeps.of_below al47))
        replace HP := Lib.hid (HP.out.keep (Keeps.of_below al47))
        replace HQ := Lib.hid (HQ.out.keep (Keeps.of_below al47))
        replace HX := Lib.hid (HX.out.keep al47)
        replace VD := Lib.hid (VD.out.keep al47)
        replace K := Lib.hid (K.out.trans (al47.mono K.out.size))
        clear al47
        go_upto_region 6 with (fail)
        generalize w46.alloc (.cells #[.int .i64 D2.size, .slice A2 D2.secs.length c2, .slice P2 D2.pend.length cp2, .int .i64 D2.left] 25) = w47 at *
        generalize w46.heap.size = g47 at *
        clear HD2
        have C48 := records_any w47 _ _ D VD.out.dk
        rw [HR1.out, ← HPL.out, ← HDL.out] at C48
        have C48 := Lib.hid C48
        obtain ⟨o00, o01, o02, o03, _⟩ := VD.out.facts
        rw [← HPL.out] at o02
        rw [← HDL.out] at o03
        go_wp2_with fail
        refine C48.out.mono ?_
        rintro e w48 ⟨v48, rfl, ht48, hb48⟩
        clear C48 o00 o01 o02 o03
        obtain ⟨xA, xc, rfl, hxl, hxm⟩ := Txs.form ht48
        have HTX := Lib.hid ht48
        simp only at HTX
        clear ht48
        replace HA := Lib.hid (HA.out.keep (Keeps.of_below hb48))
        replace HP := Lib.hid (HP.out.keep (Keeps.of_below hb48))
        replace HQ := Lib.hid (HQ.out.keep (Keeps.of_below hb48))
        replace HX := Lib.hid (HX.out.keep hb48)
        replace VD := Lib.hid (VD.out.keep hb48)
        replace V2 := Lib.hid (V2.out.keep hb48)
        replace K := Lib.hid (K.out.trans (hb48.mono K.out.size))
        clear hb48
        have C49 := records_any w48 _ _ D2 V2.out.dk
        rw [HR2.out] at C49
        have C49 := Lib.hid C49
        obtain ⟨o00, o01, o02, o03, _⟩ := V2.out.facts
        go_wp2_with fail
        refine C49.out.mono ?_
        rintro e w49 ⟨v49, rfl, ht49, hb49⟩
        clear C49 o00 o01 o02 o03
        obtain ⟨yA, yc, rfl, hyl, hym⟩ := Txs.form ht49
        have HTY := Lib.hid ht49
        simp only at HTY
        clear ht49
        replace HA := Lib.hid (HA.out.keep (Keeps.of_below hb49))
        replace HP := Lib.hid (HP.out.keep (Keeps.of_below hb49))
        replace HQ := Lib.hid (HQ.out.keep (Keeps.of_below hb49))
        replace HX := Lib.hid (HX.out.keep hb49)
        replace VD := Lib.hid (VD.out.keep hb49)
        replace V2 := Lib.hid (V2.out.keep hb49)
        replace HTX := Lib.hid (HTX.out.keep (Keeps.of_below hb49))
        replace K := Lib.hid (K.out.trans (hb49.mono K.out.size))
        clear hb49
        obtain ⟨o00, o01, o02, o03, _⟩ := VD.out.facts
        obtain ⟨t0, t1, t2, t3, r0, r1, r2, r3⟩ := VD.out.facts
        have VDL := Lib.hid (VD.out.left (lf % 40) (by omega) (by omega))
        have HXL := Lib.hid (HX.out.far (p := ⟨g37, 3, none⟩) (show ga ≠ g37 by omega) (.int .i64 (lf % 40)))
        have HTXL := Lib.hid (Strs.setBox (j := 3) HTX.out (nostr4 VD.out.blk) (.int .i64 (lf % 40)))
        have HTYL := Lib.hid (Strs.setBox (j := 3) HTY.out (nostr4 VD.out.blk) (.int .i64 (lf % 40)))
        have HPR := Lib.hid (Strs.setBox (j := 3) HP.out.recs (nostr4 VD.out.blk) (.int .i64 (lf % 40)))
        have KL := Lib.hid (K.out.setCell (p := ⟨g37, 3, none⟩) (show W.heap.size ≤ g37 by omega) (.int .i64 (lf % 40)))
        have HPP : Hid (ActP (w49.setCell ⟨g37, 3, none⟩ (.int .i64 (lf % 40))) rA rc iA ic a) := ha.keep (Keeps.of_below KL.out)
        have HQQ := Lib.hid (hps.keep (Keeps.of_below KL.out))
        have hrem : lf.tmod 40 = lf % 40 := Int.tmod_eq_emod_of_nonneg hlf.1
        rw [← HPL.out] at t2
        go_upto_region 9 with (fail)
        clear o00 o01 o02 o03 t0 t1 t2 t3 r0 r1 r2 r3 hrem VD HX HTX HTY HP HQ HA K V2
        generalize w49.setCell ⟨g37, 3, none⟩ (.int .i64 (lf % 40)) = wL at *
        clear HPR
        have HPL2 : Hid (0 = D.pend.length) := HPL.out
        have HQE : Hid (({ D with left := lf % 40 } : Dk).pend.length ≤ 10000) := by show D.pend.length ≤ 10000; have := HPN.out; omega
        have HLQ : Hid (({ D with left := lf % 40 } : Dk).left = lf % 40) := rfl
        have C50 := do_any wL A c P cp { D with left := lf % 40 } VDL.out.dk HQE.out rA rc iA ic a HPP.out
        simp only at C50
        rw [← HPL.out] at C50
        have C50 := Lib.hid C50
        obtain ⟨o00, o01, o02, o03, _⟩ := VDL.out.facts
        obtain ⟨o10, o11, o12, o13⟩ := box4 HXL.out (Below.refl _ _)
        simp only at o00 o01 o02 o03
        rw [← HPL.out] at o02
        go_wp2_with fail
        refine C50.out.mono ?_
        rintro e w50 ⟨vs50, vp50, rfl, hD50, hb50⟩
        clear C50 o00 o01 o02 o03 o10 o11 o12 o13
        obtain ⟨A3, c3, P3, cp3, rfl, rfl, _, _, _, _⟩ := hD50.form
        have HD3 := Lib.hid hD50
        clear hD50
        obtain ⟨D3, hD3⟩ : ∃ x, x = (doD { D with left := lf % 40 } a).1 := ⟨_, rfl⟩
        obtain ⟨N3, hN3⟩ : ∃ x, x = (doD { D with left := lf % 40 } a).2 := ⟨_, rfl⟩
        rw [← hD3] at HR3 HPQ
        rw [← hN3] at HR4 HR5
        rw [← hD3] at HD3 ⊢
        rw [← hN3]
        clear hD3 hN3
        replace VDL := Lib.hid (VDL.out.keep hb50)
        replace HXL := Lib.hid (HXL.out.keep hb50)
        replace HTXL := Lib.hid (HTXL.out.keep (Keeps.of_below hb50))
        replace HTYL := Lib.hid (HTYL.out.keep (Keeps.of_below hb50))
        replace HPP := Lib.hid (HPP.out.keep (Keeps.of_below hb50))
        replace HQQ := Lib.hid (HQQ.out.keep (Keeps.of_below hb50))
        replace KL := Lib.hid (KL.out.trans (hb50.mono KL.out.size))
        clear hb50
        have al51 : Below w50.heap.size w50 (w50.alloc (.cells #[.int .i64 D3.size, .slice A3 D3.secs.length c3, .slice P3 D3.pend.length cp3, .int .i64 D3.left] 25)) := (Below.refl _ _).alloc (Nat.le_refl _) _
        have V3 := Lib.hid (Var.new HD3.out)
        have gl51 := KL.out.size
        replace VDL := Lib.hid (VDL.out.keep al51)
        replace HXL := Lib.hid (HXL.out.keep al51)
        replace HTXL := Lib.hid (HTXL.out.keep (Keeps.of_below al51))
        replace HTYL := Lib.hid (HTYL.out.keep (Keeps.of_below al51))
        replace HPP := Lib.hid (HPP.out.keep (Keeps.of_below al51))
        replace HQQ := Lib.hid (HQQ.out.keep (Keeps.of_below al51))
        replace KL := Lib.hid (KL.out.trans (al51.mono KL.out.size))
        clear al51
        go_upto_region 10 with (fail)
        generalize w50.alloc (.cells #[.int .i64 D3.size, .slice A3 D3.secs.length c3, .slice P3 D3.pend.length cp3, .int .i64 D3.left] 25) = w51 at *
        generalize w50.heap.size = g51 at *
        clear HD3
        have C52 := Lib.hid (cut_any w51 _ _ _ D3 V3.out.dk (by have := HPQ.out; omega) ps HQQ.out)
        obtain ⟨o00, o01, o02, o03, _⟩ := V3.out.facts
        go_wp2_with fail
        refine C52.out.mono ?_
        rintro e w52 ⟨vs52, vp52, rfl, hD52, hb52⟩
        clear C52 o00 o01 o02 o03
        have HD4 := Lib.hid hD52
        clear hD52
        generalize cutD D3 ps = D4 at *
        replace VDL := Lib.hid (VDL.out.keep hb52)
        replace HXL := Lib.hid (HXL.out.keep hb52)
        replace HTXL := Lib.hid (HTXL.out.keep (Keeps.of_below hb52))
        replace HTYL := Lib.hid (HTYL.out.keep (Keeps.of_below hb52))
        replace HPP := Lib.hid (HPP.out.keep (Keeps.of_below hb52))
        replace HQQ := Lib.hid (HQQ.out.keep (Keeps.of_below hb52))
        replace V3 := Lib.hid (V3.out.keep hb52)
        replace KL := Lib.hid (KL.out.trans (hb52.mono KL.out.size))
        clear hb52
        have C53 := records_any w52 _ _ D4 HD4.out
        rw [HR3.out] at C53
        have C53 := Lib.hid C53
        go_wp2_with fail
        refine C53.out.mono ?_
        rintro e w53 ⟨v53, rfl, ht53, hb53⟩
        clear C53
        obtain ⟨zA, zc, rfl, hzl, hzm⟩ := Txs.form ht53
        have HTZ := Lib.hid ht53
        simp only at HTZ
        clear ht53
        replace VDL := Lib.hid (VDL.out.keep hb53)
        replace HXL := Lib.hid (HXL.out.keep hb53)
        replace HTXL := Lib.hid (HTXL.out.keep (Keeps.of_below hb53))
        replace HTYL := Lib.hid (HTYL.out.keep (Keeps.of_below hb53))
        replace HPP := Lib.hid (HPP.out.keep (Keeps.of_below hb53))
        replace HQQ := Lib.hid (HQQ.out.keep (Keeps.of_below hb53))
        replace V3 := Lib.hid (V3.out.keep hb53)
        replace HD4 := Lib.hid (HD4.out.keep (Keeps.of_below hb53))
        replace KL := Lib.hid (KL.out.trans (hb53.mono KL.out.size))
        clear hb53
        clear HR1 HR2 HR3
        by_cases hef : N3 = N2
        · have hefb : (N3 != N2) = false := by simpa using hef
          clear hef
          by_cases hA : zz = x ∧ N3 ≠ 0
          · obtain ⟨rfl, hn0⟩ := hA
            have hn0b : (N3 != 0) = true := by simpa using hn0
            clear HR4 HR5 hn0
            have C54 := rsame_any w53 zA zc zz HTZ.out xA xc zz HTXL.out
            rw [decide_eq_true (rfl : zz = zz)] at C54
            have C54 := Lib.hid C54
            go_wp2_with fail
            refine C54.out.mono ?_
            rintro e w54 ⟨rfl, hb54⟩
            clear C54
            replace VDL := Lib.hid (VDL.out.keep hb54)
            replace HXL := Lib.hid (HXL.out.keep hb54)
            replace HTXL := Lib.hid (HTXL.out.keep (Keeps.of_below hb54))
            replace HTYL := Lib.hid (HTYL.out.keep (Keeps.of_below hb54))
            replace HPP := Lib.hid (HPP.out.keep (Keeps.of_below hb54))
            replace HQQ := Lib.hid (HQQ.out.keep (Keeps.of_below hb54))
            replace V3 := Lib.hid (V3.out.keep hb54)
            replace HD4 := Lib.hid (HD4.out.keep (Keeps.of_below hb54))
            replace HTZ := Lib.hid (HTZ.out.keep (Keeps.of_below hb54))
            replace KL := Lib.hid (KL.out.trans (hb54.mono KL.out.size))
            clear hb54
            have C55 := Lib.hid (awake_any w54)
            go_wp2_with fail
            refine C55.out.mono ?_
            rintro e w55 ⟨rfl, hb55⟩
            clear C55
            replace VDL := Lib.hid (VDL.out.keep hb55)
            replace HXL := Lib.hid (HXL.out.keep hb55)
            replace HTXL := Lib.hid (HTXL.out.keep (Keeps.of_below hb55))
            replace HTYL := Lib.hid (HTYL.out.keep (Keeps.of_below hb55))
            replace HPP := Lib.hid (HPP.out.keep (Keeps.of_below hb55))
            replace HQQ := Lib.hid (HQQ.out.keep (Keeps.of_below hb55))
            replace V3 := Lib.hid (V3.out.keep hb55)
            replace HD4 := Lib.hid (HD4.out.keep (Keeps.of_below hb55))
            replace HTZ := Lib.hid (HTZ.out.keep (Keeps.of_below hb55))
            replace KL := Lib.hid (KL.out.trans (hb55.mono KL.out.size))
            clear hb55
            go_wp2
            go_ret
            exact ⟨rfl, KL.out⟩
          by_cases hzx : zz = x
          · have hn0 : N3 = 0 := by
              rcases Classical.em (N3 = 0) with e | e
              · exact e
              · exact absurd ⟨hzx, e⟩ hA
            have hn0b : (N3 != 0) = false := by simpa using hn0
            have hzy : zz = y := by
              rcases HR5.out with e | e
              · exact absurd e hA
              · exact e
            clear HR4 HR5 hA hn0
            subst hzx
            subst hzy
            have C56 := rsame_any w53 zA zc zz HTZ.out xA xc zz HTXL.out
            rw [decide_eq_true (rfl : zz = zz)] at C56
            have C56 := Lib.hid C56
            go_wp2_with fail
            refine C56.out.mono ?_
            rintro e w56 ⟨rfl, hb56⟩
            clear C56
            replace VDL := Lib.hid (VDL.out.keep hb56)
            replace HXL := Lib.hid (HXL.out.keep hb56)
            replace HTXL := Lib.hid (HTXL.out.keep (Keeps.of_below hb56))
            replace HTYL := Lib.hid (HTYL.out.keep (Keeps.of_below hb56))
            replace HPP := Lib.hid (HPP.out.keep (Keeps.of_below hb56))
            replace HQQ := Lib.hid (HQQ.out.keep (Keeps.of_below hb56))
            replace V3 := Lib.hid (V3.out.keep hb56)
            replace HD4 := Lib.hid (HD4.out.keep (Keeps.of_below hb56))
            replace HTZ := Lib.hid (HTZ.out.keep (Keeps.of_below hb56))
            replace KL := Lib.hid (KL.out.trans (hb56.mono KL.out.size))
            clear hb56
            have C57 := rsame_any w56 zA zc zz HTZ.out yA yc zz HTYL.out
            rw [decide_eq_true (rfl : zz = zz)] at C57
            have C57 := Lib.hid C57
            go_wp2_with fail
            refine C57.out.mono ?_
            rintro e w57 ⟨rfl, hb57⟩
            clear C57
            replace VDL := Lib.hid (VDL.out.keep hb57)
            replace HXL := Lib.hid (HXL.out.keep hb57)
            replace HTXL := Lib.hid (HTXL.out.keep (Keeps.of_below hb57))
            replace HTYL := Lib.hid (HTYL.out.keep (Keeps.of_below hb57))
            replace HPP := Lib.hid (HPP.out.keep (Keeps.of_below hb57))
            replace HQQ := Lib.hid (HQQ.out.keep (Keeps.of_below hb57))
            replace V3 := Lib.hid (V3.out.keep hb57)
            replace HD4 := Lib.hid (HD4.out.keep (Keeps.of_below hb57))
            replace HTZ := Lib.hid (HTZ.out.keep (Keeps.of_below hb57))
            replace KL := Lib.hid (KL.out.trans (hb57.mono KL.out.size))
            clear hb57
            have C58 := Lib.hid (awake_any w57)
            go_wp2_with fail
            refine C58.out.mono ?_
            rintro e w58 ⟨rfl, hb58⟩
            clear C58
            replace VDL := Lib.hid (VDL.out.keep hb58)
            replace HXL := Lib.hid (HXL.out.keep hb58)
            replace HTXL := Lib.hid (HTXL.out.keep (Keeps.of_below hb58))
            replace HTYL := Lib.hid (HTYL.out.keep (Keeps.of_below hb58))
            replace HPP := Lib.hid (HPP.out.keep (Keeps.of_below hb58))
            replace HQQ := Lib.hid (HQQ.out.keep (Keeps.of_below hb58))
            replace V3 := Lib.hid (V3.out.keep hb58)
            replace HD4 := Lib.hid (HD4.out.keep (Keeps.of_below hb58))
            replace HTZ := Lib.hid (HTZ.out.keep (Keeps.of_below hb58))
            replace KL := Lib.hid (KL.out.trans (hb58.mono KL.out.size))
            clear hb58
            go_wp2
            go_ret
            exact ⟨rfl, KL.out⟩
          · have hzy : zz = y := by
              rcases HR5.out with e | e
              · exact absurd e hA
              · exact e
            clear HR4 HR5 hA
            subst hzy
            have C59 := rsame_any w53 zA zc zz HTZ.out xA xc x HTXL.out
            rw [decide_eq_false hzx] at C59
            have C59 := Lib.hid C59
            go_wp2_with fail
            refine C59.out.mono ?_
            rintro e w59 ⟨rfl, hb59⟩
            clear C59
            replace VDL := Lib.hid (VDL.out.keep hb59)
            replace HXL := Lib.hid (HXL.out.keep hb59)
            replace HTXL := Lib.hid (HTXL.out.keep (Keeps.of_below hb59))
            replace HTYL := Lib.hid (HTYL.out.keep (Keeps.of_below hb59))
            replace HPP := Lib.hid (HPP.out.keep (Keeps.of_below hb59))
            replace HQQ := Lib.hid (HQQ.out.keep (Keeps.of_below hb59))
            replace V3 := Lib.hid (V3.out.keep hb59)
            replace HD4 := Lib.hid (HD4.out.keep (Keeps.of_below hb59))
            replace HTZ := Lib.hid (HTZ.out.keep (Keeps.of_below hb59))
            replace KL := Lib.hid (KL.out.trans (hb59.mono KL.out.size))
            clear hb59
            have C60 := rsame_any w59 zA zc zz HTZ.out yA yc zz HTYL.out
            rw [decide_eq_true (rfl : zz = zz)] at C60
            have C60 := Lib.hid C60
            go_wp2_with fail
            refine C60.out.mono ?_
            rintro e w60 ⟨rfl, hb60⟩
            clear C60
            replace VDL := Lib.hid (VDL.out.keep hb60)
            replace HXL := Lib.hid (HXL.out.keep hb60)
            replace HTXL := Lib.hid (HTXL.out.keep (Keeps.of_below hb60))
            replace HTYL := Lib.hid (HTYL.out.keep (Keeps.of_below hb60))
            replace HPP := Lib.hid (HPP.out.keep (Keeps.of_below hb60))
            replace HQQ := Lib.hid (HQQ.out.keep (Keeps.of_below hb60))
            replace V3 := Lib.hid (V3.out.keep hb60)
            replace HD4 := Lib.hid (HD4.out.keep (Keeps.of_below hb60))
            replace HTZ := Lib.hid (HTZ.out.keep (Keeps.of_below hb60))
            replace KL := Lib.hid (KL.out.trans (hb60.mono KL.out.size))
            clear hb60
            have C61 := Lib.hid (awake_any w60)
            go_wp2_with fail
            refine C61.out.mono ?_
            rintro e w61 ⟨rfl, hb61⟩
            clear C61
            replace VDL := Lib.hid (VDL.out.keep hb61)
            replace HXL := Lib.hid (HXL.out.keep hb61)
            replace HTXL := Lib.hid (HTXL.out.keep (Keeps.of_below hb61))
            replace HTYL := Lib.hid (HTYL.out.keep (Keeps.of_below hb61))
            replace HPP := Lib.hid (HPP.out.keep (Keeps.of_below hb61))
            replace HQQ := Lib.hid (HQQ.out.keep (Keeps.of_below hb61))
            replace V3 := Lib.hid (V3.out.keep hb61)
            replace HD4 := Lib.hid (HD4.out.keep (Keeps.of_below hb61))
            replace HTZ := Lib.hid (HTZ.out.keep (Keeps.of_below hb61))
            replace KL := Lib.hid (KL.out.trans (hb61.mono KL.out.size))
            clear hb61
            go_wp2
            go_ret
            exact ⟨rfl, KL.out⟩
        · have hefb : (N3 != N2) = true := by simpa using hef
          have hn20 : N3 = 20 := by
            rcases HR4.out with e | e
            · exact absurd e hef
            · exact e
          have hn20b : (N3 != 20) = false := by simpa using hn20
          clear hef hn20
          by_cases hA : zz = x ∧ N3 ≠ 0
          · obtain ⟨rfl, hn0⟩ := hA
            have hn0b : (N3 != 0) = true := by simpa using hn0
            clear HR4 HR5 hn0
            have C62 := rsame_any w53 zA zc zz HTZ.out xA xc zz HTXL.out
            rw [decide_eq_true (rfl : zz = zz)] at C62
            have C62 := Lib.hid C62
            go_wp2_with fail
            refine C62.out.mono ?_
            rintro e w62 ⟨rfl, hb62⟩
            clear C62
            replace VDL := Lib.hid (VDL.out.keep hb62)
            replace HXL := Lib.hid (HXL.out.keep hb62)
            replace HTXL := Lib.hid (HTXL.out.keep (Keeps.of_below hb62))
            replace HTYL := Lib.hid (HTYL.out.keep (Keeps.of_below hb62))
            replace HPP := Lib.hid (HPP.out.keep (Keeps.of_below hb62))
            replace HQQ := Lib.hid (HQQ.out.keep (Keeps.of_below hb62))
            replace V3 := Lib.hid (V3.out.keep hb62)
            replace HD4 := Lib.hid (HD4.out.keep (Keeps.of_below hb62))
            replace HTZ := Lib.hid (HTZ.out.keep (Keeps.of_below hb62))
            replace KL := Lib.hid (KL.out.trans (hb62.mono KL.out.size))
            clear hb62
            have C63 := Lib.hid (awake_any w62)
            go_wp2_with fail
            refine C63.out.mono ?_
            rintro e w63 ⟨rfl, hb63⟩
            clear C63
            replace VDL := Lib.hid (VDL.out.keep hb63)
            replace HXL := Lib.hid (HXL.out.keep hb63)
            replace HTXL := Lib.hid (HTXL.out.keep (Keeps.of_below hb63))
            replace HTYL := Lib.hid (HTYL.out.keep (Keeps.of_below hb63))
            replace HPP := Lib.hid (HPP.out.keep (Keeps.of_below hb63))
            replace HQQ := Lib.hid (HQQ.out.keep (Keeps.of_below hb63))
            replace V3 := Lib.hid (V3.out.keep hb63)
            replace HD4 := Lib.hid (HD4.out.keep (Keeps.of_below hb63))
            replace HTZ := Lib.hid (HTZ.out.keep (Keeps.of_below hb63))
            replace KL := Lib.hid (KL.out.trans (hb63.mono KL.out.size))
            clear hb63
            go_wp2
            go_ret
            exact ⟨rfl, KL.out⟩
          by_cases hzx : zz = x
          · have hn0 : N3 = 0 := by
              rcases Classical.em (N3 = 0) with e | e
              · exact e
              · exact absurd ⟨hzx, e⟩ hA
            have hn0b : (N3 != 0) = false := by simpa using hn0
            have hzy : zz = y := by
              rcases HR5.out with e | e
              · exact absurd e hA
              · exact e
            clear HR4 HR5 hA hn0
            subst hzx
            subst hzy
            have C64 := rsame_any w53 zA zc zz HTZ.out xA xc zz HTXL.out
            rw [decide_eq_true (rfl : zz = zz)] at C64
            have C64 := Lib.hid C64
            go_wp2_with fail
            refine C64.out.mono ?_
            rintro e w64 ⟨rfl, hb64⟩
            clear C64
            replace VDL := Lib.hid (VDL.out.keep hb64)
            replace HXL := Lib.hid (HXL.out.keep hb64)
            replace HTXL := Lib.hid (HTXL.out.keep (Keeps.of_below hb64))
            replace HTYL := Lib.hid (HTYL.out.keep (Keeps.of_below hb64))
            replace HPP := Lib.hid (HPP.out.keep (Keeps.of_below hb64))
            replace HQQ := Lib.hid (HQQ.out.keep (Keeps.of_below hb64))
            replace V3 := Lib.hid (V3.out.keep hb64)
            replace HD4 := Lib.hid (HD4.out.keep (Keeps.of_below hb64))
            replace HTZ := Lib.hid (HTZ.out.keep (Keeps.of_below hb64))
            replace KL := Lib.hid (KL.out.trans (hb64.mono KL.out.size))
            clear hb64
            have C65 := rsame_any w64 zA zc zz HTZ.out yA yc zz HTYL.out
            rw [decide_eq_true (rfl : zz = zz)] at C65
            have C65 := Lib.hid C65
            go_wp2_with fail
            refine C65.out.mono ?_
            rintro e w65 ⟨rfl, hb65⟩
            clear C65
            replace VDL := Lib.hid (VDL.out.keep hb65)
            replace HXL := Lib.hid (HXL.out.keep hb65)
            replace HTXL := Lib.hid (HTXL.out.keep (Keeps.of_below hb65))
            replace HTYL := Lib.hid (HTYL.out.keep (Keeps.of_below hb65))
            replace HPP := Lib.hid (HPP.out.keep (Keeps.of_below hb65))
            replace HQQ := Lib.hid (HQQ.out.keep (Keeps.of_below hb65))
            replace V3 := Lib.hid (V3.out.keep hb65)
            replace HD4 := Lib.hid (HD4.out.keep (Keeps.of_below hb65))
            replace HTZ := Lib.hid (HTZ.out.keep (Keeps.of_below hb65))
            replace KL := Lib.hid (KL.out.trans (hb65.mono KL.out.size))
            clear hb65
            have C66 := Lib.hid (awake_any w65)
            go_wp2_with fail
            refine C66.out.mono ?_
            rintro e w66 ⟨rfl, hb66⟩
            clear C66
            replace VDL := Lib.hid (VDL.out.keep hb66)
            replace HXL := Lib.hid (HXL.out.keep hb66)
            replace HTXL := Lib.hid (HTXL.out.keep (Keeps.of_below hb66))
            replace HTYL := Lib.hid (HTYL.out.keep (Keeps.of_below hb66))
            replace HPP := Lib.hid (HPP.out.keep (Keeps.of_below hb66))
            replace HQQ := Lib.hid (HQQ.out.keep (Keeps.of_below hb66))
            replace V3 := Lib.hid (V3.out.keep hb66)
            replace HD4 := Lib.hid (HD4.out.keep (Keeps.of_below hb66))
            replace HTZ := Lib.hid (HTZ.out.keep (Keeps.of_below hb66))
            replace KL := Lib.hid (KL.out.trans (hb66.mono KL.out.size))
            clear hb66
            go_wp2
            go_ret
            exact ⟨rfl, KL.out⟩
          · have hzy : zz = y := by
              rcases HR5.out with e | e
              · exact absurd e hA
              · exact e
            clear HR4 HR5 hA
            subst hzy
            have C67 := rsame_any w53 zA zc zz HTZ.out xA xc x HTXL.out
            rw [decide_eq_false hzx] at C67
            have C67 := Lib.hid C67
            go_wp2_with fail
            refine C67.out.mono ?_
            rintro e w67 ⟨rfl, hb67⟩
            clear C67
            replace VDL := Lib.hid (VDL.out.keep hb67)
            replace HXL := Lib.hid (HXL.out.keep hb67)
            replace HTXL := Lib.hid (HTXL.out.keep (Keeps.of_below hb67))
            replace HTYL := Lib.hid (HTYL.out.keep (Keeps.of_below hb67))
            replace HPP := Lib.hid (HPP.out.keep (Keeps.of_below hb67))
            replace HQQ := Lib.hid (HQQ.out.keep (Keeps.of_below hb67))
            replace V3 := Lib.hid (V3.out.keep hb67)
            replace HD4 := Lib.hid (HD4.out.keep (Keeps.of_below hb67))
            replace HTZ := Lib.hid (HTZ.out.keep (Keeps.of_below hb67))
            replace KL := Lib.hid (KL.out.trans (hb67.mono KL.out.size))
            clear hb67
            have C68 := rsame_any w67 zA zc zz HTZ.out yA yc zz HTYL.out
            rw [decide_eq_true (rfl : zz = zz)] at C68
            have C68 := Lib.hid C68
            go_wp2_with fail
            refine C68.out.mono ?_
            rintro e w68 ⟨rfl, hb68⟩
            clear C68
            replace VDL := Lib.hid (VDL.out.keep hb68)
            replace HXL := Lib.hid (HXL.out.keep hb68)
            replace HTXL := Lib.hid (HTXL.out.keep (Keeps.of_below hb68))
            replace HTYL := Lib.hid (HTYL.out.keep (Keeps.of_below hb68))
            replace HPP := Lib.hid (HPP.out.keep (Keeps.of_below hb68))
            replace HQQ := Lib.hid (HQQ.out.keep (Keeps.of_below hb68))
            replace V3 := Lib.hid (V3.out.keep hb68)
            replace HD4 := Lib.hid (HD4.out.keep (Keeps.of_below hb68))
            replace HTZ := Lib.hid (HTZ.out.keep (Keeps.of_below hb68))
            replace KL := Lib.hid (KL.out.trans (hb68.mono KL.out.size))
            clear hb68
            have C69 := Lib.hid (awake_any w68)
            go_wp2_with fail
            refine C69.out.mono ?_
            rintro e w69 ⟨rfl, hb69⟩
            clear C69
            replace VDL := Lib.hid (VDL.out.keep hb69)
            replace HXL := Lib.hid (HXL.out.keep hb69)
            replace HTXL := Lib.hid (HTXL.out.keep (Keeps.of_below hb69))
            replace HTYL := Lib.hid (HTYL.out.keep (Keeps.of_below hb69))
            replace HPP := Lib.hid (HPP.out.keep (Keeps.of_below hb69))
            replace HQQ := Lib.hid (HQQ.out.keep (Keeps.of_below hb69))
            replace V3 := Lib.hid (V3.out.keep hb69)
            replace HD4 := Lib.hid (HD4.out.keep (Keeps.of_below hb69))
            replace HTZ := Lib.hid (HTZ.out.keep (Keeps.of_below hb69))
            replace KL := Lib.hid (KL.out.trans (hb69.mono KL.out.size))
            clear hb69
            go_wp2
            go_ret
            exact ⟨rfl, KL.out⟩
end Go.Proofs.Ytockmhhiomdlkaa
