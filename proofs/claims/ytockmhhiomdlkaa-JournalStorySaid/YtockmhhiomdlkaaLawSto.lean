/- Law: JournalStory. -/
import Derived.Test.YtockmhhiomdlkaaLawCon
namespace Go.Proofs.Ytockmhhiomdlkaa
set_option linter.unusedVariables false
set_option linter.unusedSimpArgs false
open Go.RowKit

theorem txs_put4 {w : World} {g : Nat} {A P A' P' : Option Addr} {c cp c' cp' : Nat} {d d' : Dk} (hv : Var w g A c P cp d) {v : Value} {l : List Txt} (h : Txs w v l) : Txs (put4 w g A' c' P' cp' d') v l :=
  (((Strs.setBox h (nostr4 hv.blk) _).setBox (nostr4 (hv.blk.set 0 (.int .i64 d'.size))) _).setBox (nostr4 ((hv.blk.set 0 (.int .i64 d'.size)).set 1 (.slice A' d'.secs.length c'))) _).setBox (nostr4 (((hv.blk.set 0 (.int .i64 d'.size)).set 1 (.slice A' d'.secs.length c')).set 2 (.slice P' d'.pend.length cp'))) _
theorem blk_put4 {w : World} {g b : Nat} {t : TypeId} {cs : Array Value} (h : Blk w b t cs) (hne : b ≠ g) {A' P' : Option Addr} {c' cp' : Nat} {d' : Dk} : Blk (put4 w g A' c' P' cp' d') b t cs :=
  (((h.far (p := ⟨g, 0, none⟩) hne _).far (p := ⟨g, 1, none⟩) hne _).far (p := ⟨g, 2, none⟩) hne _).far (p := ⟨g, 3, none⟩) hne _
def unO (b : Bool) (u : List Txt) : Option (List Txt) := if b = true then some u else none
section
variable {D : Dk} {s u : List Txt} {b : Bool} {x : ActJ}
theorem sto_ok (h : Jst D s (unO b u)) (hk : x.kind = 0 ∨ x.kind = 1) (h0 : (doD D x).2 = 0) : Jst (doD D x).1 (after s x) (unO b u) := by
  have := (h.step x).1
  unfold sureN undN at this
  rw [if_pos hk, if_pos hk, if_pos h0, if_neg (fun e => e.1 h0)] at this
  exact this
theorem sto_lost (h : Jst D s (unO b u)) (hk : x.kind = 0 ∨ x.kind = 1) (h0 : (doD D x).2 = 20) (hl : D.left ≠ 0) : Jst (doD D x).1 s (unO true (after s x)) := by
  have := (h.step x).1
  unfold sureN undN at this
  rw [if_pos hk, if_pos hk, if_neg (by omega), if_pos ⟨by omega, h0, hl⟩] at this
  exact this
theorem sto_bad (h : Jst D s (unO b u)) (hk : x.kind = 0 ∨ x.kind = 1) (h0 : (doD D x).2 ≠ 0) (hl : ¬ ((doD D x).2 = 20 ∧ D.left ≠ 0)) : Jst (doD D x).1 s (unO b u) := by
  have := (h.step x).1
  unfold sureN undN at this
  rw [if_pos hk, if_pos hk, if_neg h0, if_neg (fun e => hl e.2)] at this
  exact this
theorem sto_cut (h : Jst D s (unO b u)) (hk : x.kind = 3) : ∃ r, recD (doD D x).1 = (r, 0) ∧ Jst (doD D x).1 r (unO false u) ∧ ((b = true ∧ r = u) ∨ (¬ (b = true ∧ r = u) ∧ r = s)) := by
  have h1 := h.step x
  obtain ⟨h2, -, -, h3⟩ := h1
  have h3 := h3 hk
  have hu : undN D s (unO b u) x = none := by unfold undN; rw [if_neg (by omega), if_pos hk]
  rw [hu] at h2
  refine ⟨_, h3, h2, ?_⟩
  have hs : sureN D s (unO b u) x = if unO b u = some (recD (doD D x).1).1 then (recD (doD D x).1).1 else s := by unfold sureN; rw [if_neg (by omega), if_pos hk]
  rw [h3] at hs
  simp only at hs
  generalize sureN D s (unO b u) x = r at *
  by_cases hc : unO b u = some r
  · left
    unfold unO at hc
    cases b with
    | true => exact ⟨rfl, (Option.some.inj hc).symm⟩
    | false => simp at hc
  · right
    refine ⟨?_, by rw [if_neg hc] at hs; exact hs⟩
    rintro ⟨rfl, rfl⟩
    exact hc rfl
theorem sto_none (h : Jst D s (unO b u)) (h0 : x.kind ≠ 0) (h1 : x.kind ≠ 1) (h3 : x.kind ≠ 3) : Jst (doD D x).1 s (unO b u) := by
  have := (h.step x).1
  unfold sureN undN at this
  rw [if_neg (by omega), if_neg h3, if_neg (by omega), if_neg h3] at this
  exact this
end
theorem after_app {s : List Txt} {x : ActJ} (h : x.kind ≠ 1) : after s x = s ++ x.recs := if_neg h
theorem after_rew {s : List Txt} {x : ActJ} (h : x.kind = 1) : after s x = x.recs := if_pos h
set_option maxRecDepth 100000 in
set_option maxHeartbeats 4000000 in
theorem law_story (W : World) (n z : Int) (hz0 : -9223372036854775808 ≤ z) (B : Option Addr) (lc : Nat) (acts : List ActJ) (h : Acts W (.slice B acts.length lc) acts) :
    Calls Try.prog 10 #[.agg #[.int .i64 n, .int .i64 z, .slice B acts.length lc]] W fun e w' => e = .returned (.bool true) ∧ Below W.heap.size W w' := by
  have K := Lib.hid (Below.refl W.heap.size W)
  obtain ⟨_, _, el, hlc, hlm⟩ := h.form
  cases el
  have HA := Lib.hid h
  go_enter Try.func10, Try.ntmps10
  have al1 : Below W.heap.size W (W.alloc (.cells #[.int .i64 n, .int .i64 z, .slice B acts.length lc] 42)) := (Below.refl _ _).alloc (Nat.le_refl _) _
  have HB := Lib.hid (Blk.new W #[.int .i64 n, .int .i64 z, .slice B acts.length lc] 42)
  have gl1 := K.out.size
  replace HA := Lib.hid (HA.out.keep (Keeps.of_below al1))
  replace K := Lib.hid (K.out.trans (al1.mono K.out.size))
  clear al1
  go_upto_region 1 with (fail)
  generalize W.alloc (.cells #[.int .i64 n, .int .i64 z, .slice B acts.length lc] 42) = w1 at *
  have C2 := Lib.hid (fine_any w1 n z hz0 B lc acts HA.out)
  obtain ⟨o00, o01, o02, _, _, _⟩ := blk3 HB.out
  go_wp2_with fail
  refine C2.out.mono ?_
  rintro e w2 ⟨rfl, hb2⟩
  clear C2 o00 o01 o02
  replace HA := Lib.hid (HA.out.keep (Keeps.of_below hb2))
  replace HB := Lib.hid (HB.out.keep hb2)
  replace K := Lib.hid (K.out.trans (hb2.mono K.out.size))
  clear hb2
  cases hf : fineB n z acts with
  | false =>
    clear hf
    have C3 := Lib.hid (awake_any w2)
    go_wp2_with fail
    refine C3.out.mono ?_
    rintro e w3 ⟨rfl, hb3⟩
    clear C3
    replace HA := Lib.hid (HA.out.keep (Keeps.of_below hb3))
    replace HB := Lib.hid (HB.out.keep hb3)
    replace K := Lib.hid (K.out.trans (hb3.mono K.out.size))
    clear hb3
    go_wp2
    go_ret
    exact ⟨rfl, K.out⟩
  | true =>
    obtain ⟨⟨f1, f2, f3, f4, f5⟩, f6⟩ := fineB_true hf
    have HFI := Lib.hid f6
    clear hf f6
    obtain ⟨m, rfl⟩ := Int.eq_ofNat_of_zero_le (show 0 ≤ n by omega)
    obtain ⟨y, rfl⟩ := Int.eq_ofNat_of_zero_le (show 0 ≤ z by omega)
    obtain ⟨j1, j2, j3, j4⟩ := fmt_jst (n := m) (z := y) (by omega) (by omega) (by omega) (by omega)
    clear j3 j4
    have HZP : Hid ((zD m y).pend.length ≤ 10000) := by show _ ≤ _; simp [zD]
    have HJ1 := Lib.hid j1
    have HJ2 := Lib.hid j2
    clear j1 j2
    have C4 := Lib.hid (zerosL_any w2 m y (by omega) (by omega) (by omega) (by omega))
    obtain ⟨o00, o01, o02, _, _, _⟩ := blk3 HB.out
    go_wp2_with fail
    refine C4.out.mono ?_
    rintro e w4 ⟨vs4, vp4, rfl, hD4, hb4⟩
    clear C4 o00 o01 o02
    have HD0 := Lib.hid hD4
    clear hD4
    generalize zD m y = d0 at *
    replace HA := Lib.hid (HA.out.keep (Keeps.of_below hb4))
    replace HB := Lib.hid (HB.out.keep hb4)
    replace K := Lib.hid (K.out.trans (hb4.mono K.out.size))
    clear hb4
    have C5 := format_any w4 _ _ d0 HD0.out HZP.out
    rw [HJ1.out] at C5
    have C5 := Lib.hid C5
    go_wp2_with fail
    refine C5.out.mono ?_
    rintro e w5 ⟨vs5, vp5, rfl, hD5, hb5⟩
    clear C5
    generalize (fmtD d0).1 = D at *
    obtain ⟨A, c, P, cp, rfl, rfl, _, _, _, _⟩ := hD5.form
    have HD1 := Lib.hid hD5
    clear hD5
    replace HA := Lib.hid (HA.out.keep (Keeps.of_below hb5))
    replace HB := Lib.hid (HB.out.keep hb5)
    replace HD0 := Lib.hid (HD0.out.keep (Keeps.of_below hb5))
    replace K := Lib.hid (K.out.trans (hb5.mono K.out.size))
    clear hb5
    have al6 : Below w5.heap.size w5 (w5.alloc (.cells #[.int .i64 D.size, .slice A D.secs.length c, .slice P D.pend.length cp, .int .i64 D.left] 25)) := (Below.refl _ _).alloc (Nat.le_refl _) _
    have VD := Lib.hid (Var.new HD1.out)
    have gl6 := K.out.size
    replace HA := Lib.hid (HA.out.keep (Keeps.of_below al6))
    replace HB := Lib.hid (HB.out.keep al6)
    replace K := Lib.hid (K.out.trans (al6.mono K.out.size))
    clear al6
    go_upto_region 4 with (fail)
    generalize w5.alloc (.cells #[.int .i64 D.size, .slice A D.secs.length c, .slice P D.pend.length cp, .int .i64 D.left] 25) = w6 at *
    generalize w5.heap.size = g6 at *
    clear HD1
    clear HD0 HJ1 HZP
    have HS := Lib.hid (txs_ownS (l := []) rfl (own_empty w6 9 1))
    have al7 : Below w6.heap.size w6 (w6.alloc (.cells #[] 9)) := (Below.refl _ _).alloc (Nat.le_refl _) _
    have gl7 := K.out.size
    replace HA := Lib.hid (HA.out.keep (Keeps.of_below al7))
    replace HB := Lib.hid (HB.out.keep al7)
    replace VD := Lib.hid (VD.out.keep al7)
    replace K := Lib.hid (K.out.trans (al7.mono K.out.size))
    clear al7
    go_upto_region 5 with (fail)
    generalize w6.alloc (.cells #[] 9) = w7 at *
    generalize w6.heap.size = g7 at *
    obtain ⟨o00, o01, o02, _, _, _⟩ := blk3 HB.out
    go_upto_region 8 with (fail)
    clear o00 o01 o02
    go_loopw [5, 6, 7, 32] (fun sv uv bv ti wr => ∃ (k : Nat) (D : Dk) (A : Option Addr) (c : Nat) (P : Option Addr) (cp : Nat) (s u : List Txt) (b : Bool) (sA : Option Addr) (sc : Nat) (uA : Option Addr) (uc : Nat), k ≤ acts.length ∧ ti = .int .i64 k ∧ sv = .slice sA s.length sc ∧ uv = .slice uA u.length uc ∧ bv = .bool b ∧ Hid (Var wr g6 A c P cp D) ∧ Hid (Txs wr (.slice sA s.length sc) s) ∧ Hid (Txs wr (.slice uA u.length uc) u) ∧ Hid (Jst D s (unO b u)) ∧ Hid (s.length ≤ 20 * k ∧ u.length ≤ 20 * k) ∧ Hid (Below W.heap.size W wr)) (fun _ _ _ ti _ => acts.length - (intOf ti).toNat)
    case atStart => exact ⟨0, D, A, c, P, cp, [], [], false, _, _, none, 0, by omega, rfl, rfl, rfl, rfl, VD, HS, Txs.nil _, HJ2, ⟨by simp, by simp⟩, K⟩
    case round =>
      clear VD HS HJ2 K HB HA
      obtain ⟨k, D, A, c, P, cp, s, u, b, sA, sc, uA, uc, hk, rfl, rfl, rfl, rfl, VD, HS, HU, HJ, HLE, K⟩ := hrel
      by_cases hlt : k < acts.length
      · obtain ⟨b0, off, rA, rc, iA, ic, rfl, a0, a1, a2, a3, hp⟩ := (h.keep (Keeps.of_below K.out)).get hlt
        have HGX := Lib.hid (HFI.out acts[k] (List.getElem_mem hlt))
        have HP := Lib.hid hp
        clear hp
        generalize acts[k] = x at *
        have hlt3 := VD.out.blk.lt
        have al9 : Below wr.heap.size wr (wr.alloc (.cells #[.int .i64 x.kind, .slice rA x.recs.length rc, .int .i64 x.left, .slice iA x.ps.length ic] 49)) := (Below.refl _ _).alloc (Nat.le_refl _) _
        have HX := Lib.hid (Blk.new wr #[.int .i64 x.kind, .slice rA x.recs.length rc, .int .i64 x.left, .slice iA x.ps.length ic] 49)
        have gl9 := K.out.size
        replace VD := Lib.hid (VD.out.keep al9)
        replace HS := Lib.hid (HS.out.keep (Keeps.of_below al9))
        replace HU := Lib.hid (HU.out.keep (Keeps.of_below al9))
        replace HP := Lib.hid (HP.out.keep (Keeps.of_below al9))
        replace K := Lib.hid (K.out.trans (al9.mono K.out.size))
        clear al9
        go_upto_region 10 with (fail)
        generalize wr.alloc (.cells #[.int .i64 x.kind, .slice rA x.recs.length rc, .int .i64 x.left, .slice iA x.ps.length ic] 49) = w9 at *
        generalize wr.heap.size = g9 at *
        clear a0 a1 a2 a3
        have HPN := Lib.hid HJ.out.valid.2.2
        have C10 := Lib.hid (do_any w9 A c P cp D VD.out.dk (by have := HPN.out; omega) rA rc iA ic x HP.out)
        obtain ⟨o00, o01, o02, o03, _⟩ := VD.out.facts
        obtain ⟨o10, o11, o12, o13⟩ := box4 HX.out (Below.refl _ _)
        go_wp2_with fail
        refine C10.out.mono ?_
        rintro e w10 ⟨vs10, vp10, rfl, hD10, hb10⟩
        clear C10 o00 o01 o02 o03 o10 o11 o12 o13
        obtain ⟨A2, c2, P2, cp2, rfl, rfl, _, _, _, _⟩ := hD10.form
        have HD2 := Lib.hid hD10
        clear hD10
        obtain ⟨D2, hD2⟩ : ∃ y, y = (doD D x).1 := ⟨_, rfl⟩
        obtain ⟨N2, hN2⟩ : ∃ y, y = (doD D x).2 := ⟨_, rfl⟩
        have HDE := Lib.hid hD2
        have HNE := Lib.hid hN2
        rw [← hD2] at HD2 ⊢
        rw [← hN2]
        clear hD2 hN2
        replace VD := Lib.hid (VD.out.keep hb10)
        replace HS := Lib.hid (HS.out.keep (Keeps.of_below hb10))
        replace HU := Lib.hid (HU.out.keep (Keeps.of_below hb10))
        replace HP := Lib.hid (HP.out.keep (Keeps.of_below hb10))
        replace HX := Lib.hid (HX.out.keep hb10)
        replace K := Lib.hid (K.out.trans (hb10.mono K.out.size))
        clear hb10
        have al11 : Below w10.heap.size w10 (w10.alloc (.cells #[.int .i64 D2.size, .slice A2 D2.secs.length c2, .slice P2 D2.pend.length cp2, .int .i64 D2.left] 25)) := (Below.refl _ _).alloc (Nat.le_refl _) _
        have V2 := Lib.hid (Var.new HD2.out)
        have gl11 := K.out.size
        replace VD := Lib.hid (VD.out.keep al11)
        replace HS := Lib.hid (HS.out.keep (Keeps.of_below al11))
        replace HU := Lib.hid (HU.out.keep (Keeps.of_below al11))
        replace HP := Lib.hid (HP.out.keep (Keeps.of_below al11))
        replace HX := Lib.hid (HX.out.keep al11)
        replace K := Lib.hid (K.out.trans (al11.mono K.out.size))
        clear al11
        go_upto_region 11 with (fail)
        generalize w10.alloc (.cells #[.int .i64 D2.size, .slice A2 D2.secs.length c2, .slice P2 D2.pend.length cp2, .int .i64 D2.left] 25) = w11 at *
        generalize w10.heap.size = g11 at *
        clear HD2
        have HPX := Lib.hid HP.out.recs
        obtain ⟨i1, hi1, hy0, hy1, hy2⟩ := info_parts Try.info_str
        have HSS0 : ∀ w', Below w11.heap.size w11 w' → w'.cell? ⟨g9, 1, none⟩ = some (.slice rA x.recs.length rc) := fun w' hb => (box4 (HX.out.keep hb) (Below.refl _ _)).2.1
        have HSS := Lib.hid HSS0
        clear HSS0
        have HDR := Lib.hid (below_drew1 (Below.refl w11.heap.size w11))
        refine AtS.start (S := fun w => w.cell? ⟨g9, 1, none⟩ = some (.slice rA x.recs.length rc)) (by kernel_rfl) (HSS.out _ HDR.out) 5 ?_
        simp only [List.size_toArray, List.length_cons, List.length_nil]
        (refine AtS.free (i := 1) (v := ?_) (by simp only [List.getElem?_toArray, List.getElem?_cons_succ, List.getElem?_cons_zero]; rfl) (by kernel_rfl) (by kernel_rfl) (by kernel_rfl) (fun _ _ _ h => h) (by kernel_rfl) (Or.inl ⟨by rfl, fun w _ => ?_⟩) ?_; rotate_left; (go_simp; try with_reducible rfl); simp only [Act.put, List.setIfInBounds_toArray, List.set_cons_zero, List.set_cons_succ])
        (refine AtS.free (i := 3) (v := ?_) (by simp only [List.getElem?_toArray, List.getElem?_cons_succ, List.getElem?_cons_zero]; rfl) (by kernel_rfl) (by kernel_rfl) (by kernel_rfl) (fun _ _ _ h => h) (by kernel_rfl) (Or.inl ⟨by rfl, fun w _ => ?_⟩) ?_; rotate_left; (go_simp; try with_reducible rfl); simp only [Act.put, List.setIfInBounds_toArray, List.set_cons_zero, List.set_cons_succ])
        (refine AtS.load (i := 4) (v := ?_) (by simp only [List.getElem?_toArray, List.getElem?_cons_succ, List.getElem?_cons_zero]; rfl) (by kernel_rfl) (by kernel_rfl) (by kernel_rfl) (fun _ _ _ h => h) [] (by kernel_rfl) (Or.inl ⟨by rfl, fun w hSw => ?_⟩) ?_; rotate_left; ((try dsimp only at hSw); go_split_ands; go_simp; try with_reducible rfl); simp only [Act.put, List.setIfInBounds_toArray, List.set_cons_zero, List.set_cons_succ])
        generalize hwd : w11.drew = wd at *
        clear hwd
        refine AtS.only (i := 0) (by simp only [List.getElem?_toArray, List.getElem?_cons_succ, List.getElem?_cons_zero]; rfl) (by kernel_rfl) (by rfl) ?_
        intro K0 hK0
        go_simp
        have al1 : Below wd.heap.size wd (wd.alloc (.cells #[] 9)) := (Below.refl _ _).alloc (Nat.le_refl _) _
        have KD := Lib.hid (HDR.out.trans (al1.mono HDR.out.size))
        refine hK0 _ _ (HSS.out _ KD.out) ?_
        clear hK0 K0
        try simp only [Act.put, List.setIfInBounds_toArray, List.set_cons_zero, List.set_cons_succ]
        have hge : w11.heap.size ≤ wd.heap.size := HDR.out.size
        have HE0 := Lib.hid (own_empty wd 9 1)
        have hwe0 : wd.heap.size ≤ (wd.alloc (.cells #[] 9)).heap.size := al1.size
        generalize wd.alloc (.cells #[] 9) = we at *
        generalize wd.heap.size = ge at *
        have hle := HLE.out
        have hgx := (grtT_false HGX.out.1).1
        refine AtS.lawS (i := 2) (by simp only [List.getElem?_toArray, List.getElem?_cons_succ, List.getElem?_cons_zero]; rfl) (by kernel_rfl) ?_
        refine step_append_any _ rfl _ _ _ rfl ge 9 i1 _ 1 16 Try.underlying22 hi1 hy0 hy1 hy2 rfl (by omega) (.slice (some ⟨ge, 0, none⟩) 0 0) 0 _ rfl HE0.out sA s.length sc (s.map fun t => .string (strB t)) rfl (by simp) (txs_one (HS.out.keep (Keeps.of_below KD.out))) (by simp [Value.oneCell']) (by omega) (by omega) hwe0 ?_
        intro va wa howna hgra hata
        have kba := Lib.hid (KD.out.grown hgra KD.out.size (fun g hg => by cases hg; exact hge))
        have hwa0 : ge ≤ wa.heap.size := Nat.le_trans hwe0 hgra.size
        obtain ⟨aA, ac, rfl⟩ := own_form howna
        simp only [Nat.zero_add, List.nil_append] at howna
        refine ⟨HSS.out _ kba.out, ?_⟩
        try simp only [Act.put, List.setIfInBounds_toArray, List.set_cons_zero, List.set_cons_succ]
        try simp only [Nat.zero_add]
        refine AtS.law (i := 5) (by simp only [List.getElem?_toArray, List.getElem?_cons_succ, List.getElem?_cons_zero]; rfl) (by kernel_rfl) (by kernel_rfl) ?_
        refine step_append_any _ rfl _ _ _ rfl ge 9 i1 _ 1 16 Try.underlying22 hi1 hy0 hy1 hy2 rfl (by omega) (.slice aA s.length ac) s.length _ rfl howna rA x.recs.length rc (x.recs.map fun t => .string (strB t)) rfl (by simp) (txs_one (HPX.out.keep (Keeps.of_below kba.out))) (by simp [Value.oneCell']) (by omega) (by omega) hwa0 ?_
        intro vb wb hownb hgrb hatb
        have kbb := kba.out.grown hgrb kba.out.size (fun g hg => Nat.le_trans hge (World.ownsRow.lt howna g hg).1)
        obtain ⟨bA, bc, rfl⟩ := own_form hownb
        have HLL : Hid (s.length + x.recs.length = (s ++ x.recs).length) := by show _ = _; rw [List.length_append]
        have HTJ := Lib.hid (txs_ownS (l := s ++ x.recs) HLL.out (by rw [List.map_append]; exact hownb))
        clear howna hgra hata hownb hgrb hatb kba HE0 KD HDR HSS hwe0 hwa0 al1 hle hgx hge
        try simp only [Act.put, List.setIfInBounds_toArray, List.set_cons_zero, List.set_cons_succ]
        refine AtS.late (i := 6) (by simp only [List.getElem?_toArray, List.getElem?_cons_succ, List.getElem?_cons_zero]; rfl) (by kernel_rfl) (by kernel_rfl) (by kernel_rfl) ?_
        intro K0 hK0
        go_simp
        refine hK0 _ _ (AtS.done (by kernel_rfl) (NoPanic.normal ?_))
        clear hK0 K0
        replace VD := Lib.hid (VD.out.keep kbb)
        replace HS := Lib.hid (HS.out.keep (Keeps.of_below kbb))
        replace HU := Lib.hid (HU.out.keep (Keeps.of_below kbb))
        replace HP := Lib.hid (HP.out.keep (Keeps.of_below kbb))
        replace HX := Lib.hid (HX.out.keep kbb)
        replace V2 := Lib.hid (V2.out.keep kbb)
        replace HPX := Lib.hid (HPX.out.keep (Keeps.of_below kbb))
        replace K := Lib.hid (K.out.trans (kbb.mono K.out.size))
        clear kbb
        by_cases hk : x.kind = 0
        · have kb0 : (x.kind == 0) = true := by simpa using hk
          have kb1 : (x.kind == 1) = false := by simp [hk]
          have kb3 : (x.kind == 3) = false := by simp [hk]
          have hk01 : x.kind = 0 ∨ x.kind = 1 := .inl hk
          have HAF := Lib.hid (after_app (s := s) (x := x) (by omega))
          by_cases hN0 : N2 = 0
          · have n0 : (N2 == 0) = true := by simpa using hN0
            have HJ2 : Hid (Jst D2 (s ++ x.recs) (unO b (u))) := by
              have h9 := sto_ok HJ.out hk01 (HNE.out.symm.trans hN0)
              rw [← HDE.out] at h9
              try rw [HAF.out] at h9
              exact h9
            have hgx := (grtT_false HGX.out.1).1
            clear hk hk01
            obtain ⟨o00, o01, o02, o03⟩ := box4 HX.out (Below.refl _ _)
            obtain ⟨o10, o11, o12, o13, _⟩ := VD.out.facts
            go_upto_region 19 with (fail)
            clear o00 o01 o02 o03 o10 o11 o12 o13
            obtain ⟨o00, o01, o02, o03, _⟩ := V2.out.facts
            obtain ⟨t0, t1, t2, t3, r0, r1, r2, r3⟩ := VD.out.facts
            have HXP := Lib.hid (blk_put4 (g := g6) (A' := A2) (c' := c2) (P' := P2) (cp' := cp2) (d' := D2) HX.out (by omega))
            have VDP := Lib.hid (VD.out.assign V2.out.dk)
            have HSP := Lib.hid (txs_put4 (A' := A2) (c' := c2) (P' := P2) (cp' := cp2) (d' := D2) VD.out HTJ.out)
            have HUP := Lib.hid (txs_put4 (A' := A2) (c' := c2) (P' := P2) (cp' := cp2) (d' := D2) VD.out HU.out)
            have KP := Lib.hid (put4_below (A := A2) (c := c2) (P := P2) (cp := cp2) (d := D2) K.out (show W.heap.size ≤ g6 by omega))
            go_upto_region 20 with (fail)
            change Code.wp _ _ _ _ (put4 wb g6 A2 c2 P2 cp2 D2)
            clear t0 t1 t2 t3 r0 r1 r2 r3 o00 o01 o02 o03 VD V2 HX HS HU HP HPX HTJ K
            generalize put4 wb g6 A2 c2 P2 cp2 D2 = wp at *
            obtain ⟨o00, o01, o02, o03⟩ := box4 HXP.out (Below.refl _ _)
            go_upto_region 27 with (fail)
            clear o00 o01 o02 o03
            go_wp2
            go_roundw
            case rel => exact ⟨k + 1, D2, A2, c2, P2, cp2, s ++ x.recs, u, b, bA, bc, uA, uc, by omega, by go_num, by simp, rfl, rfl, VDP, (by rw [List.length_append]; exact HSP), HUP, HJ2, ⟨by have := HLE.out; first | omega | (rw [List.length_append]; omega), by have := HLE.out; omega⟩, KP⟩
            case measure => simp [intOf]; omega
          have n0 : (N2 == 0) = false := by simpa using hN0
          by_cases hN20 : N2 = 20
          · have n20 : (N2 == 20) = true := by simpa using hN20
            by_cases hl : D.left = 0
            · have nl : (D.left != 0) = false := by simpa using hl
              have HJ2 : Hid (Jst D2 (s) (unO b (u))) := by
                have h9 := sto_bad HJ.out hk01 (fun e => hN0 (HNE.out.trans e)) (fun e => e.2 hl)
                rw [← HDE.out] at h9
                try rw [HAF.out] at h9
                exact h9
              have hgx := (grtT_false HGX.out.1).1
              clear hk hk01
              obtain ⟨o00, o01, o02, o03⟩ := box4 HX.out (Below.refl _ _)
              obtain ⟨o10, o11, o12, o13, _⟩ := VD.out.facts
              go_upto_region 19 with (fail)
              clear o00 o01 o02 o03 o10 o11 o12 o13
              obtain ⟨o00, o01, o02, o03, _⟩ := V2.out.facts
              obtain ⟨t0, t1, t2, t3, r0, r1, r2, r3⟩ := VD.out.facts
              have HXP := Lib.hid (blk_put4 (g := g6) (A' := A2) (c' := c2) (P' := P2) (cp' := cp2) (d' := D2) HX.out (by omega))
              have VDP := Lib.hid (VD.out.assign V2.out.dk)
              have HSP := Lib.hid (txs_put4 (A' := A2) (c' := c2) (P' := P2) (cp' := cp2) (d' := D2) VD.out HS.out)
              have HUP := Lib.hid (txs_put4 (A' := A2) (c' := c2) (P' := P2) (cp' := cp2) (d' := D2) VD.out HU.out)
              have KP := Lib.hid (put4_below (A := A2) (c := c2) (P := P2) (cp := cp2) (d := D2) K.out (show W.heap.size ≤ g6 by omega))
              go_upto_region 20 with (fail)
              change Code.wp _ _ _ _ (put4 wb g6 A2 c2 P2 cp2 D2)
              clear t0 t1 t2 t3 r0 r1 r2 r3 o00 o01 o02 o03 VD V2 HX HS HU HP HPX HTJ K
              generalize put4 wb g6 A2 c2 P2 cp2 D2 = wp at *
              obtain ⟨o00, o01, o02, o03⟩ := box4 HXP.out (Below.refl _ _)
              go_upto_region 27 with (fail)
              clear o00 o01 o02 o03
              go_wp2
              go_roundw
              case rel => exact ⟨k + 1, D2, A2, c2, P2, cp2, s, u, b, sA, sc, uA, uc, by omega, by go_num, rfl, rfl, rfl, VDP, HSP, HUP, HJ2, ⟨by have := HLE.out; omega, by have := HLE.out; omega⟩, KP⟩
              case measure => simp [intOf]; omega
            · have nl : (D.left != 0) = true := by simpa using hl
              have HJ2 : Hid (Jst D2 (s) (unO true (s ++ x.recs))) := by
                have h9 := sto_lost HJ.out hk01 (HNE.out.symm.trans hN20) hl
                rw [← HDE.out] at h9
                try rw [HAF.out] at h9
                exact h9
              have hgx := (grtT_false HGX.out.1).1
              clear hk hk01
              obtain ⟨o00, o01, o02, o03⟩ := box4 HX.out (Below.refl _ _)
              obtain ⟨o10, o11, o12, o13, _⟩ := VD.out.facts
              go_upto_region 19 with (fail)
              clear o00 o01 o02 o03 o10 o11 o12 o13
              obtain ⟨o00, o01, o02, o03, _⟩ := V2.out.facts
              obtain ⟨t0, t1, t2, t3, r0, r1, r2, r3⟩ := VD.out.facts
              have HXP := Lib.hid (blk_put4 (g := g6) (A' := A2) (c' := c2) (P' := P2) (cp' := cp2) (d' := D2) HX.out (by omega))
              have VDP := Lib.hid (VD.out.assign V2.out.dk)
              have HSP := Lib.hid (txs_put4 (A' := A2) (c' := c2) (P' := P2) (cp' := cp2) (d' := D2) VD.out HS.out)
              have HUP := Lib.hid (txs_put4 (A' := A2) (c' := c2) (P' := P2) (cp' := cp2) (d' := D2) VD.out HTJ.out)
              have KP := Lib.hid (put4_below (A := A2) (c := c2) (P := P2) (cp := cp2) (d := D2) K.out (show W.heap.size ≤ g6 by omega))
              go_upto_region 20 with (fail)
              change Code.wp _ _ _ _ (put4 wb g6 A2 c2 P2 cp2 D2)
              clear t0 t1 t2 t3 r0 r1 r2 r3 o00 o01 o02 o03 VD V2 HX HS HU HP HPX HTJ K
              generalize put4 wb g6 A2 c2 P2 cp2 D2 = wp at *
              obtain ⟨o00, o01, o02, o03⟩ := box4 HXP.out (Below.refl _ _)
              go_upto_region 27 with (fail)
              clear o00 o01 o02 o03
              go_wp2
              go_roundw
              case rel => exact ⟨k + 1, D2, A2, c2, P2, cp2, s, s ++ x.recs, true, sA, sc, bA, bc, by omega, by go_num, rfl, by simp, rfl, VDP, HSP, (by rw [List.length_append]; exact HUP), HJ2, ⟨by have := HLE.out; omega, by have := HLE.out; first | omega | (rw [List.length_append]; omega)⟩, KP⟩
              case measure => simp [intOf]; omega
          · have n20 : (N2 == 20) = false := by simpa using hN20
            have HJ2 : Hid (Jst D2 (s) (unO b (u))) := by
              have h9 := sto_bad HJ.out hk01 (fun e => hN0 (HNE.out.trans e)) (fun e => hN20 (HNE.out.trans e.1))
              rw [← HDE.out] at h9
              try rw [HAF.out] at h9
              exact h9
            have hgx := (grtT_false HGX.out.1).1
            clear hk hk01
            obtain ⟨o00, o01, o02, o03⟩ := box4 HX.out (Below.refl _ _)
            obtain ⟨o10, o11, o12, o13, _⟩ := VD.out.facts
            go_upto_region 19 with (fail)
            clear o00 o01 o02 o03 o10 o11 o12 o13
            obtain ⟨o00, o01, o02, o03, _⟩ := V2.out.facts
            obtain ⟨t0, t1, t2, t3, r0, r1, r2, r3⟩ := VD.out.facts
            have HXP := Lib.hid (blk_put4 (g := g6) (A' := A2) (c' := c2) (P' := P2) (cp' := cp2) (d' := D2) HX.out (by omega))
            have VDP := Lib.hid (VD.out.assign V2.out.dk)
            have HSP := Lib.hid (txs_put4 (A' := A2) (c' := c2) (P' := P2) (cp' := cp2) (d' := D2) VD.out HS.out)
            have HUP := Lib.hid (txs_put4 (A' := A2) (c' := c2) (P' := P2) (cp' := cp2) (d' := D2) VD.out HU.out)
            have KP := Lib.hid (put4_below (A := A2) (c := c2) (P := P2) (cp := cp2) (d := D2) K.out (show W.heap.size ≤ g6 by omega))
            go_upto_region 20 with (fail)
            change Code.wp _ _ _ _ (put4 wb g6 A2 c2 P2 cp2 D2)
            clear t0 t1 t2 t3 r0 r1 r2 r3 o00 o01 o02 o03 VD V2 HX HS HU HP HPX HTJ K
            generalize put4 wb g6 A2 c2 P2 cp2 D2 = wp at *
            obtain ⟨o00, o01, o02, o03⟩ := box4 HXP.out (Below.refl _ _)
            go_upto_region 27 with (fail)
            clear o00 o01 o02 o03
            go_wp2
            go_roundw
            case rel => exact ⟨k + 1, D2, A2, c2, P2, cp2, s, u, b, sA, sc, uA, uc, by omega, by go_num, rfl, rfl, rfl, VDP, HSP, HUP, HJ2, ⟨by have := HLE.out; omega, by have := HLE.out; omega⟩, KP⟩
            case measure => simp [intOf]; omega
        have hk0 := hk
        clear hk
        by_cases hk : x.kind = 1
        · have kb0 : (x.kind == 0) = false := by simp [hk]
          have kb1 : (x.kind == 1) = true := by simpa using hk
          have kb3 : (x.kind == 3) = false := by simp [hk]
          have hk01 : x.kind = 0 ∨ x.kind = 1 := .inr hk
          have HAF := Lib.hid (after_rew (s := s) (x := x) hk)
          by_cases hN0 : N2 = 0
          · have n0 : (N2 == 0) = true := by simpa using hN0
            have HJ2 : Hid (Jst D2 (x.recs) (unO b (u))) := by
              have h9 := sto_ok HJ.out hk01 (HNE.out.symm.trans hN0)
              rw [← HDE.out] at h9
              try rw [HAF.out] at h9
              exact h9
            have hgx := (grtT_false HGX.out.1).1
            clear hk hk01
            obtain ⟨o00, o01, o02, o03⟩ := box4 HX.out (Below.refl _ _)
            obtain ⟨o10, o11, o12, o13, _⟩ := VD.out.facts
            go_upto_region 19 with (fail)
            clear o00 o01 o02 o03 o10 o11 o12 o13
            obtain ⟨o00, o01, o02, o03, _⟩ := V2.out.facts
            obtain ⟨t0, t1, t2, t3, r0, r1, r2, r3⟩ := VD.out.facts
            have HXP := Lib.hid (blk_put4 (g := g6) (A' := A2) (c' := c2) (P' := P2) (cp' := cp2) (d' := D2) HX.out (by omega))
            have VDP := Lib.hid (VD.out.assign V2.out.dk)
            have HSP := Lib.hid (txs_put4 (A' := A2) (c' := c2) (P' := P2) (cp' := cp2) (d' := D2) VD.out HPX.out)
            have HUP := Lib.hid (txs_put4 (A' := A2) (c' := c2) (P' := P2) (cp' := cp2) (d' := D2) VD.out HU.out)
            have KP := Lib.hid (put4_below (A := A2) (c := c2) (P := P2) (cp := cp2) (d := D2) K.out (show W.heap.size ≤ g6 by omega))
            go_upto_region 20 with (fail)
            change Code.wp _ _ _ _ (put4 wb g6 A2 c2 P2 cp2 D2)
            clear t0 t1 t2 t3 r0 r1 r2 r3 o00 o01 o02 o03 VD V2 HX HS HU HP HPX HTJ K
            generalize put4 wb g6 A2 c2 P2 cp2 D2 = wp at *
            obtain ⟨o00, o01, o02, o03⟩ := box4 HXP.out (Below.refl _ _)
            go_upto_region 27 with (fail)
            clear o00 o01 o02 o03
            go_wp2
            go_roundw
            case rel => exact ⟨k + 1, D2, A2, c2, P2, cp2, x.recs, u, b, rA, rc, uA, uc, by omega, by go_num, rfl, rfl, rfl, VDP, HSP, HUP, HJ2, ⟨by have := HLE.out; first | omega | (rw [List.length_append]; omega), by have := HLE.out; omega⟩, KP⟩
            case measure => simp [intOf]; omega
          have n0 : (N2 == 0) = false := by simpa using hN0
          by_cases hN20 : N2 = 20
          · have n20 : (N2 == 20) = true := by simpa using hN20
            by_cases hl : D.left = 0
            · have nl : (D.left != 0) = false := by simpa using hl
              have HJ2 : Hid (Jst D2 (s) (unO b (u))) := by
                have h9 := sto_bad HJ.out hk01 (fun e => hN0 (HNE.out.trans e)) (fun e => e.2 hl)
                rw [← HDE.out] at h9
                try rw [HAF.out] at h9
                exact h9
              have hgx := (grtT_false HGX.out.1).1
              clear hk hk01
              obtain ⟨o00, o01, o02, o03⟩ := box4 HX.out (Below.refl _ _)
              obtain ⟨o10, o11, o12, o13, _⟩ := VD.out.facts
              go_upto_region 19 with (fail)
              clear o00 o01 o02 o03 o10 o11 o12 o13
              obtain ⟨o00, o01, o02, o03, _⟩ := V2.out.facts
              obtain ⟨t0, t1, t2, t3, r0, r1, r2, r3⟩ := VD.out.facts
              have HXP := Lib.hid (blk_put4 (g := g6) (A' := A2) (c' := c2) (P' := P2) (cp' := cp2) (d' := D2) HX.out (by omega))
              have VDP := Lib.hid (VD.out.assign V2.out.dk)
              have HSP := Lib.hid (txs_put4 (A' := A2) (c' := c2) (P' := P2) (cp' := cp2) (d' := D2) VD.out HS.out)
              have HUP := Lib.hid (txs_put4 (A' := A2) (c' := c2) (P' := P2) (cp' := cp2) (d' := D2) VD.out HU.out)
              have KP := Lib.hid (put4_below (A := A2) (c := c2) (P := P2) (cp := cp2) (d := D2) K.out (show W.heap.size ≤ g6 by omega))
              go_upto_region 20 with (fail)
              change Code.wp _ _ _ _ (put4 wb g6 A2 c2 P2 cp2 D2)
              clear t0 t1 t2 t3 r0 r1 r2 r3 o00 o01 o02 o03 VD V2 HX HS HU HP HPX HTJ K
              generalize put4 wb g6 A2 c2 P2 cp2 D2 = wp at *
              obtain ⟨o00, o01, o02, o03⟩ := box4 HXP.out (Below.refl _ _)
              go_upto_region 27 with (fail)
              clear o00 o01 o02 o03
              go_wp2
              go_roundw
              case rel => exact ⟨k + 1, D2, A2, c2, P2, cp2, s, u, b, sA, sc, uA, uc, by omega, by go_num, rfl, rfl, rfl, VDP, HSP, HUP, HJ2, ⟨by have := HLE.out; omega, by have := HLE.out; omega⟩, KP⟩
              case measure => simp [intOf]; omega
            · have nl : (D.left != 0) = true := by simpa using hl
              have HJ2 : Hid (Jst D2 (s) (unO true (x.recs))) := by
                have h9 := sto_lost HJ.out hk01 (HNE.out.symm.trans hN20) hl
                rw [← HDE.out] at h9
                try rw [HAF.out] at h9
                exact h9
              have hgx := (grtT_false HGX.out.1).1
              clear hk hk01
              obtain ⟨o00, o01, o02, o03⟩ := box4 HX.out (Below.refl _ _)
              obtain ⟨o10, o11, o12, o13, _⟩ := VD.out.facts
              go_upto_region 19 with (fail)
              clear o00 o01 o02 o03 o10 o11 o12 o13
              obtain ⟨o00, o01, o02, o03, _⟩ := V2.out.facts
              obtain ⟨t0, t1, t2, t3, r0, r1, r2, r3⟩ := VD.out.facts
              have HXP := Lib.hid (blk_put4 (g := g6) (A' := A2) (c' := c2) (P' := P2) (cp' := cp2) (d' := D2) HX.out (by omega))
              have VDP := Lib.hid (VD.out.assign V2.out.dk)
              have HSP := Lib.hid (txs_put4 (A' := A2) (c' := c2) (P' := P2) (cp' := cp2) (d' := D2) VD.out HS.out)
              have HUP := Lib.hid (txs_put4 (A' := A2) (c' := c2) (P' := P2) (cp' := cp2) (d' := D2) VD.out HPX.out)
              have KP := Lib.hid (put4_below (A := A2) (c := c2) (P := P2) (cp := cp2) (d := D2) K.out (show W.heap.size ≤ g6 by omega))
              go_upto_region 20 with (fail)
              change Code.wp _ _ _ _ (put4 wb g6 A2 c2 P2 cp2 D2)
              clear t0 t1 t2 t3 r0 r1 r2 r3 o00 o01 o02 o03 VD V2 HX HS HU HP HPX HTJ K
              generalize put4 wb g6 A2 c2 P2 cp2 D2 = wp at *
              obtain ⟨o00, o01, o02, o03⟩ := box4 HXP.out (Below.refl _ _)
              go_upto_region 27 with (fail)
              clear o00 o01 o02 o03
              go_wp2
              go_roundw
              case rel => exact ⟨k + 1, D2, A2, c2, P2, cp2, s, x.recs, true, sA, sc, rA, rc, by omega, by go_num, rfl, rfl, rfl, VDP, HSP, HUP, HJ2, ⟨by have := HLE.out; omega, by have := HLE.out; first | omega | (rw [List.length_append]; omega)⟩, KP⟩
              case measure => simp [intOf]; omega
          · have n20 : (N2 == 20) = false := by simpa using hN20
            have HJ2 : Hid (Jst D2 (s) (unO b (u))) := by
              have h9 := sto_bad HJ.out hk01 (fun e => hN0 (HNE.out.trans e)) (fun e => hN20 (HNE.out.trans e.1))
              rw [← HDE.out] at h9
              try rw [HAF.out] at h9
              exact h9
            have hgx := (grtT_false HGX.out.1).1
            clear hk hk01
            obtain ⟨o00, o01, o02, o03⟩ := box4 HX.out (Below.refl _ _)
            obtain ⟨o10, o11, o12, o13, _⟩ := VD.out.facts
            go_upto_region 19 with (fail)
            clear o00 o01 o02 o03 o10 o11 o12 o13
            obtain ⟨o00, o01, o02, o03, _⟩ := V2.out.facts
            obtain ⟨t0, t1, t2, t3, r0, r1, r2, r3⟩ := VD.out.facts
            have HXP := Lib.hid (blk_put4 (g := g6) (A' := A2) (c' := c2) (P' := P2) (cp' := cp2) (d' := D2) HX.out (by omega))
            have VDP := Lib.hid (VD.out.assign V2.out.dk)
            have HSP := Lib.hid (txs_put4 (A' := A2) (c' := c2) (P' := P2) (cp' := cp2) (d' := D2) VD.out HS.out)
            have HUP := Lib.hid (txs_put4 (A' := A2) (c' := c2) (P' := P2) (cp' := cp2) (d' := D2) VD.out HU.out)
            have KP := Lib.hid (put4_below (A := A2) (c := c2) (P := P2) (cp := cp2) (d := D2) K.out (show W.heap.size ≤ g6 by omega))
            go_upto_region 20 with (fail)
            change Code.wp _ _ _ _ (put4 wb g6 A2 c2 P2 cp2 D2)
            clear t0 t1 t2 t3 r0 r1 r2 r3 o00 o01 o02 o03 VD V2 HX HS HU HP HPX HTJ K
            generalize put4 wb g6 A2 c2 P2 cp2 D2 = wp at *
            obtain ⟨o00, o01, o02, o03⟩ := box4 HXP.out (Below.refl _ _)
            go_upto_region 27 with (fail)
            clear o00 o01 o02 o03
            go_wp2
            go_roundw
            case rel => exact ⟨k + 1, D2, A2, c2, P2, cp2, s, u, b, sA, sc, uA, uc, by omega, by go_num, rfl, rfl, rfl, VDP, HSP, HUP, HJ2, ⟨by have := HLE.out; omega, by have := HLE.out; omega⟩, KP⟩
            case measure => simp [intOf]; omega
        have hk1 := hk
        clear hk
        have kb0 : (x.kind == 0) = false := by simpa using hk0
        have kb1 : (x.kind == 1) = false := by simpa using hk1
        by_cases hk : x.kind = 3
        · have kb3 : (x.kind == 3) = true := by simpa using hk
          obtain ⟨q, hr0, hj0, hor⟩ := sto_cut HJ.out hk
          rw [← HDE.out] at hr0 hj0
          have HR0 := Lib.hid hr0
          have HJ2 := Lib.hid hj0
          have HOR := Lib.hid hor
          clear hr0 hj0 hor hk hk0 hk1
          obtain ⟨o00, o01, o02, o03⟩ := box4 HX.out (Below.refl _ _)
          obtain ⟨o10, o11, o12, o13, _⟩ := VD.out.facts
          go_upto_region 19 with (fail)
          clear o00 o01 o02 o03 o10 o11 o12 o13
          obtain ⟨o00, o01, o02, o03, _⟩ := V2.out.facts
          obtain ⟨t0, t1, t2, t3, r0, r1, r2, r3⟩ := VD.out.facts
          have HXP := Lib.hid (blk_put4 (g := g6) (A' := A2) (c' := c2) (P' := P2) (cp' := cp2) (d' := D2) HX.out (by omega))
          have VDP := Lib.hid (VD.out.assign V2.out.dk)
          have HSP := Lib.hid (txs_put4 (A' := A2) (c' := c2) (P' := P2) (cp' := cp2) (d' := D2) VD.out HS.out)
          have HUP := Lib.hid (txs_put4 (A' := A2) (c' := c2) (P' := P2) (cp' := cp2) (d' := D2) VD.out HU.out)
          have KP := Lib.hid (put4_below (A := A2) (c := c2) (P := P2) (cp := cp2) (d := D2) K.out (show W.heap.size ≤ g6 by omega))
          go_upto_region 20 with (fail)
          change Code.wp _ _ _ _ (put4 wb g6 A2 c2 P2 cp2 D2)
          clear t0 t1 t2 t3 r0 r1 r2 r3 o00 o01 o02 o03 VD V2 HX HS HU HP HPX HTJ K
          generalize put4 wb g6 A2 c2 P2 cp2 D2 = wp at *
          have C12 := records_any wp _ _ D2 VDP.out.dk
          rw [HR0.out] at C12
          have C12 := Lib.hid C12
          obtain ⟨o00, o01, o02, o03⟩ := box4 HXP.out (Below.refl _ _)
          obtain ⟨o10, o11, o12, o13, _⟩ := VDP.out.facts
          go_wp2_with fail
          refine C12.out.mono ?_
          rintro e w12 ⟨v12, rfl, ht12, hb12⟩
          clear C12 o00 o01 o02 o03 o10 o11 o12 o13
          obtain ⟨qA, qc, rfl, hql, hqm⟩ := Txs.form ht12
          have HQT := Lib.hid ht12
          simp only at HQT
          clear ht12
          replace VDP := Lib.hid (VDP.out.keep hb12)
          replace HSP := Lib.hid (HSP.out.keep (Keeps.of_below hb12))
          replace HUP := Lib.hid (HUP.out.keep (Keeps.of_below hb12))
          replace HXP := Lib.hid (HXP.out.keep hb12)
          replace KP := Lib.hid (KP.out.trans (hb12.mono KP.out.size))
          clear hb12
          rcases HOR.out with ⟨rfl, rfl⟩ | ⟨hno, rfl⟩
          · clear HOR
            have C13 := rsame_any w12 qA qc q HQT.out uA uc q HUP.out
            rw [decide_eq_true (rfl : q = q)] at C13
            have C13 := Lib.hid C13
            go_wp2_with fail
            refine C13.out.mono ?_
            rintro e w13 ⟨rfl, hb13⟩
            clear C13
            replace VDP := Lib.hid (VDP.out.keep hb13)
            replace HSP := Lib.hid (HSP.out.keep (Keeps.of_below hb13))
            replace HUP := Lib.hid (HUP.out.keep (Keeps.of_below hb13))
            replace HXP := Lib.hid (HXP.out.keep hb13)
            replace HQT := Lib.hid (HQT.out.keep (Keeps.of_below hb13))
            replace KP := Lib.hid (KP.out.trans (hb13.mono KP.out.size))
            clear hb13
            have C14 := rsame_any w13 qA qc q HQT.out uA uc q HUP.out
            rw [decide_eq_true (rfl : q = q)] at C14
            have C14 := Lib.hid C14
            go_wp2_with fail
            refine C14.out.mono ?_
            rintro e w14 ⟨rfl, hb14⟩
            clear C14
            replace VDP := Lib.hid (VDP.out.keep hb14)
            replace HSP := Lib.hid (HSP.out.keep (Keeps.of_below hb14))
            replace HUP := Lib.hid (HUP.out.keep (Keeps.of_below hb14))
            replace HXP := Lib.hid (HXP.out.keep hb14)
            replace HQT := Lib.hid (HQT.out.keep (Keeps.of_below hb14))
            replace KP := Lib.hid (KP.out.trans (hb14.mono KP.out.size))
            clear hb14
            go_wp2
            go_roundw
            case rel => exact ⟨k + 1, D2, A2, c2, P2, cp2, q, q, false, uA, uc, uA, uc, by omega, by go_num, rfl, rfl, rfl, VDP, HUP, HUP, HJ2, ⟨by have := HLE.out; omega, by have := HLE.out; omega⟩, KP⟩
            case measure => simp [intOf]; omega
          · clear HOR
            cases b with
            | true =>
              have hqu : ¬ q = u := fun e => hno ⟨rfl, e⟩
              clear hno
              have C15 := rsame_any w12 qA qc q HQT.out uA uc u HUP.out
              rw [decide_eq_false hqu] at C15
              have C15 := Lib.hid C15
              go_wp2_with fail
              refine C15.out.mono ?_
              rintro e w15 ⟨rfl, hb15⟩
              clear C15
              replace VDP := Lib.hid (VDP.out.keep hb15)
              replace HSP := Lib.hid (HSP.out.keep (Keeps.of_below hb15))
              replace HUP := Lib.hid (HUP.out.keep (Keeps.of_below hb15))
              replace HXP := Lib.hid (HXP.out.keep hb15)
              replace HQT := Lib.hid (HQT.out.keep (Keeps.of_below hb15))
              replace KP := Lib.hid (KP.out.trans (hb15.mono KP.out.size))
              clear hb15
              have C16 := rsame_any w15 qA qc q HQT.out sA sc q HSP.out
              rw [decide_eq_true (rfl : q = q)] at C16
              have C16 := Lib.hid C16
              go_wp2_with fail
              refine C16.out.mono ?_
              rintro e w16 ⟨rfl, hb16⟩
              clear C16
              replace VDP := Lib.hid (VDP.out.keep hb16)
              replace HSP := Lib.hid (HSP.out.keep (Keeps.of_below hb16))
              replace HUP := Lib.hid (HUP.out.keep (Keeps.of_below hb16))
              replace HXP := Lib.hid (HXP.out.keep hb16)
              replace HQT := Lib.hid (HQT.out.keep (Keeps.of_below hb16))
              replace KP := Lib.hid (KP.out.trans (hb16.mono KP.out.size))
              clear hb16
              go_wp2
              go_roundw
              case rel => exact ⟨k + 1, D2, A2, c2, P2, cp2, q, u, false, sA, sc, uA, uc, by omega, by go_num, rfl, rfl, rfl, VDP, HSP, HUP, HJ2, ⟨by have := HLE.out; omega, by have := HLE.out; omega⟩, KP⟩
              case measure => simp [intOf]; omega
            | false =>
              clear hno
              have C17 := rsame_any w12 qA qc q HQT.out sA sc q HSP.out
              rw [decide_eq_true (rfl : q = q)] at C17
              have C17 := Lib.hid C17
              go_wp2_with fail
              refine C17.out.mono ?_
              rintro e w17 ⟨rfl, hb17⟩
              clear C17
              replace VDP := Lib.hid (VDP.out.keep hb17)
              replace HSP := Lib.hid (HSP.out.keep (Keeps.of_below hb17))
              replace HUP := Lib.hid (HUP.out.keep (Keeps.of_below hb17))
              replace HXP := Lib.hid (HXP.out.keep hb17)
              replace HQT := Lib.hid (HQT.out.keep (Keeps.of_below hb17))
              replace KP := Lib.hid (KP.out.trans (hb17.mono KP.out.size))
              clear hb17
              go_wp2
              go_roundw
              case rel => exact ⟨k + 1, D2, A2, c2, P2, cp2, q, u, false, sA, sc, uA, uc, by omega, by go_num, rfl, rfl, rfl, VDP, HSP, HUP, HJ2, ⟨by have := HLE.out; omega, by have := HLE.out; omega⟩, KP⟩
              case measure => simp [intOf]; omega
        · have kb3 : (x.kind == 3) = false := by simpa using hk
          have HJ2 : Hid (Jst D2 s (unO b u)) := by
            have h9 := sto_none HJ.out hk0 hk1 hk
            rw [← HDE.out] at h9
            exact h9
          clear hk hk0 hk1
          obtain ⟨o00, o01, o02, o03⟩ := box4 HX.out (Below.refl _ _)
          obtain ⟨o10, o11, o12, o13, _⟩ := VD.out.facts
          go_upto_region 19 with (fail)
          clear o00 o01 o02 o03 o10 o11 o12 o13
          obtain ⟨o00, o01, o02, o03, _⟩ := V2.out.facts
          obtain ⟨t0, t1, t2, t3, r0, r1, r2, r3⟩ := VD.out.facts
          have HXP := Lib.hid (blk_put4 (g := g6) (A' := A2) (c' := c2) (P' := P2) (cp' := cp2) (d' := D2) HX.out (by omega))
          have VDP := Lib.hid (VD.out.assign V2.out.dk)
          have HSP := Lib.hid (txs_put4 (A' := A2) (c' := c2) (P' := P2) (cp' := cp2) (d' := D2) VD.out HS.out)
          have HUP := Lib.hid (txs_put4 (A' := A2) (c' := c2) (P' := P2) (cp' := cp2) (d' := D2) VD.out HU.out)
          have KP := Lib.hid (put4_below (A := A2) (c := c2) (P := P2) (cp := cp2) (d := D2) K.out (show W.heap.size ≤ g6 by omega))
          go_upto_region 20 with (fail)
          change Code.wp _ _ _ _ (put4 wb g6 A2 c2 P2 cp2 D2)
          clear t0 t1 t2 t3 r0 r1 r2 r3 o00 o01 o02 o03 VD V2 HX HS HU HP HPX HTJ K
          generalize put4 wb g6 A2 c2 P2 cp2 D2 = wp at *
          obtain ⟨o00, o01, o02, o03⟩ := box4 HXP.out (Below.refl _ _)
          go_upto_region 27 with (fail)
          clear o00 o01 o02 o03
          go_wp2
          go_roundw
          case rel => exact ⟨k + 1, D2, A2, c2, P2, cp2, s, u, b, sA, sc, uA, uc, by omega, by go_num, rfl, rfl, rfl, VDP, HSP, HUP, HJ2, ⟨by have := HLE.out; omega, by have := HLE.out; omega⟩, KP⟩
          case measure => simp [intOf]; omega
      · clear VD HS HU HJ HLE
        have C19 := Lib.hid (awake_any wr)
        go_wp2_with fail
        refine C19.out.mono ?_
        rintro e w19 ⟨rfl, hb19⟩
        clear C19
        replace K := Lib.hid (K.out.trans (hb19.mono K.out.size))
        clear hb19
        go_wp2
        go_ret
        exact ⟨rfl, K.out⟩
theorem law_storyP (W : World) (v : Value) (x : Int × Int × List ActJ) (s : RunP W v x) :
    Calls Try.prog 10 #[v] W fun e w' => e = .returned (.bool true) ∧ Below W.heap.size W w' := by
  obtain ⟨B, lc, rfl, h, hr, hz⟩ := s
  exact law_story W _ _ hz.1 B lc _ h
end Go.Proofs.Ytockmhhiomdlkaa
