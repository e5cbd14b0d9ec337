/- delta: extend. -/
import Derived.Test.YtiioebpmfjipeaaDeSplit
namespace Go.Proofs.Ytiioebpmfjipeaa
set_option linter.unusedVariables false
set_option linter.unusedSimpArgs false
open Go.RowKit

/-- The loop of extend. -/
def PathR (A : Aut) (L : Nat → List UInt8) (t : List UInt8) (c : UInt8) (whole : Nat) (B g m : Nat) (p' : Option Nat) (b : Nat) (w0 w : World) : Prop :=
  ∃ ns es own D, IdxM w B g ns es ∧ Rep ns es own D ∧ Path A L t c whole p' b D ∧ ns.length = m ∧ Below B w0 w
/-- An index of a text. -/
def ExtR (t : List UInt8) (B g m last : Nat) (w : World) : Prop :=
  ∃ ns es own A L, IdxM w B g ns es ∧ Rep ns es own A ∧ A.Inv L t last ∧ ns.length ≤ m
theorem PathR.keep {A : Aut} {L : Nat → List UInt8} {t : List UInt8} {c : UInt8} {whole B g m b : Nat} {p' : Option Nat} {w0 w w' : World} (h : PathR A L t c whole B g m p' b w0 w) (k : Below w.heap.size w w') (hB : B ≤ w.heap.size) : PathR A L t c whole B g m p' b w0 w' := by
  obtain ⟨ns, es, own, D, ⟨vn, ve, h1⟩, h2, h3, h4, h5⟩ := h
  exact ⟨ns, es, own, D, ⟨vn, ve, h1.keep k⟩, h2, h3, h4, h5.trans (k.mono hB)⟩
def ExtE (t : List UInt8) (B g m : Nat) (w0 : World) (e : Ending) (w : World) : Prop := ∃ last', e = .returned (.int .i64 (last' : Nat)) ∧ ExtR t B g m last' w ∧ Below B w0 w

set_option maxRecDepth 100000 in
set_option maxHeartbeats 4000000 in
theorem extend_any (w : World) {B g : Nat} {ns : List Nd} {es : List Ed} {own : Nat → Nat} {A : Aut} {L : Nat → List UInt8} {t : List UInt8} {last : Nat} {c : UInt8}
    (M : IdxM w B g ns es) (R : Rep ns es own A) (h : A.Inv L t last) (hn : ns.length ≤ 199998) (ht : t.length ≤ 1000000) :
    Calls Try.prog 69 #[.pointer (some ⟨g, 0, none⟩), .int .i64 last, .int .u8 c.toNat] w (ExtE (t ++ [c]) B g (ns.length + 2) w) := by
  obtain ⟨i1, hi1, hy0, hy1, hy2⟩ := info_parts Try.info_node
  have hvl : last < ns.length := (R.V last).1 h.last.1
  have hf : ¬ A.V ns.length := fun e => by have := (R.V ns.length).1 e; omega
  have hlx := List.getElem?_eq_getElem hvl
  generalize ns[last] = lx at hlx
  have hll : lx.len = t.length := by rw [(R.node last lx hlx).1, ← h.len last h.last.1, h.last.2]
  obtain ⟨vn, ve, hV⟩ := M
  obtain ⟨gn, cn, rfl, _, hc1, hc2, n0, _⟩ := hV.node_at hlx
  rw [hll] at n0
  have b0 : w.cell? ⟨g, 0, none⟩ = some (.slice (some ⟨gn, 0, none⟩) ns.length cn) := hV.box.cell rfl
  have hgs := hV.box.lt
  have hbs := hV.base
  have hon := hV.nodes
  have hbox := hV.box
  have hgl := (hon.lt gn rfl).2
  have hP := Path.start (c := c) h hf
  have hR := R.node' (t.length + 1) (some 0) (t.length + 1)
  have HH := Lib.hid h
  have Hf := Lib.hid hf
  have H := Lib.hid hV
  have HP := Lib.hid hP
  have HR := Lib.hid hR
  clear h hf hV hP hR R hlx hll
  have hbB : B ≤ w.heap.size := by omega
  go_enter Try.func69, Try.ntmps69
  go_wp2_with (at_builtin; go_must (refine wpList_append_any _ rfl (.tmp 24) (.tmp 28) _ rfl B 82 i1 _ 4 32 Try.underlying83 hi1 hy0 hy1 hy2 rfl (by omega) (.slice (some ⟨gn, 0, none⟩) ns.length cn) ns.length _ rfl (World.ownsRow.alloc hon _) _ 1 1 [.int .i64 ((t.length : Int) + 1), .int .i64 0, .int .i64 ((t.length : Int) + 1), .int .i64 (-1)] rfl rfl (CellsAt.of_new _ _ _ _) (by simp [Value.oneCell']) (by omega) (by omega) (by simp; omega) ?_))
  intro v1 w2 hown1 hgr hat
  obtain ⟨A', c', rfl⟩ := own_form hown1
  have hkw := (Below.refl w.heap.size w).alloc (Nat.le_refl _) (.cells #[.int .i64 ((t.length : Int) + 1), .int .i64 0, .int .i64 ((t.length : Int) + 1), .int .i64 (-1)] 82)
  have hbk2 := Blk.grown (Blk.alloc hbox (.cells #[.int .i64 ((t.length : Int) + 1), .int .i64 0, .int .i64 ((t.length : Int) + 1), .int .i64 (-1)] 82)) hgr (own_ne_type hon hbox (by decide)).symm
  have p1 : w2.cell? ⟨g, 0, none⟩ = some (.slice (some ⟨gn, 0, none⟩) ns.length cn) := hbk2.cell (j := 0) rfl
  have f1 := hbk2.frozen 0
  have H2 := (H.out.keep hkw).grow_nodes (x := ⟨t.length + 1, some 0, t.length + 1, none⟩) hown1 hgr (own_ne_type hon hbox (by decide))
  have hd3 := ((hkw.mono (show B ≤ w.heap.size by omega)).grown hgr (by simp; omega) (fun g' h => (hon.lt g' h).1)).setCell (p := ⟨g, 0, none⟩) hbs (.slice A' (ns.length + 1) c')
  have hs3 : B ≤ (w2.setCell ⟨g, 0, none⟩ (.slice A' (ns.length + 1) c')).heap.size := by have := hd3.size; omega
  have c0 : (w2.setCell ⟨g, 0, none⟩ (.slice A' (ns.length + 1) c')).cell? ⟨g, 0, none⟩ = some (.slice A' (ns.length + 1) c') := H2.box.cell (j := 0) rfl
  have HC : PathR A L t c ns.length B g (ns.length + 1) (some last) (t.length + 1) w (w2.setCell ⟨g, 0, none⟩ (.slice A' (ns.length + 1) c')) := ⟨_, _, _, _, ⟨_, _, H2⟩, HR.out, HP.out, by simp, hd3⟩
  have HC' := Lib.hid HC
  have hw1 : IntKind.i64.wrap (((ns.length + 1 : Nat) : Int) - 1) = (ns.length : Int) := by rw [i64w (by omega) (by omega)]; omega
  clear HC H2 hd3 hown1 hgr hat hkw hbk2 H HP HR hi1 hy0 hy1 hy2 hon hbox n0 b0
  go_upto_region 3 with (fail)
  clear p1 f1
  generalize w2.setCell ⟨g, 0, none⟩ (.slice A' (ns.length + 1) c') = w3 at *
  go_wp2
  go_loopw [9] (fun i wr => ∃ p' : Option Nat, i = .int .i64 (optI p') ∧ ∃ b, PathR A L t c ns.length B g (ns.length + 1) p' b w wr) (fun i _ => stepM i A)
  case atStart => exact ⟨some last, rfl, _, HC'.out⟩
  case round =>
    obtain ⟨p', rfl, b, HC⟩ := hrel
    clear HC' c0
    obtain ⟨ns3, es3, own3, D, M3, R3, P3, hm3, hb3⟩ := HC
    cases p' with
    | none =>
      obtain ⟨k1, k2⟩ := P3.end_none HH.out Hf.out
      have HE : ExtE (t ++ [c]) B g (ns.length + 2) w (.returned (.int .i64 ns.length)) wr := ⟨_, rfl, ⟨_, _, _, _, _, M3, R3.congr k1, k2, by omega⟩, hb3⟩
      have HE' := Lib.hid HE
      clear HE k1 k2 M3 R3 P3 hm3 hb3
      simp only [optI_none]
      go_wp2
      go_ret
      exact HE'.out
    | some r =>
      obtain ⟨vr, hrt, hrb⟩ := P3.pos
      have hr3 : r < ns3.length := (R3.V r).1 ((P3.V r).2 (.inl vr))
      have hxr := List.getElem?_eq_getElem hr3
      generalize ns3[r] = xr at hxr
      have CF := Lib.hid (find_any _ M3 R3 hxr c)
      have HM3 := Lib.hid M3
      have HR3 := Lib.hid R3
      have HP3 := Lib.hid P3
      have Hm := Lib.hid hm3
      have Hb := Lib.hid hb3
      have HX := Lib.hid hxr
      clear M3 R3 P3 hm3 hb3 hxr hrt hrb
      simp only [optI_some]
      go_wp2_with fail
      refine CF.out.mono ?_
      rintro e w1 ⟨rfl, e0, rfl, hf⟩
      cases e0 with
      | none =>
        have hd := hf.none HR3.out hr3
        obtain ⟨b2, hb2, HN⟩ := HP3.out.next HH.out Hf.out hd
        have hlk := (HR3.out.node r xr HX.out).2.1
        have hfew := HR3.out.few
        have CA := Lib.hid (add_any _ HM3.out HX.out c ns.length (by have := Hm.out; omega))
        have hk := HR3.out.add HX.out (u := ns.length) (by have := Hm.out; omega) hd
        have hms : stepM (.int .i64 (optI xr.link)) A < A.len r + 1 := by
          rw [hlk]
          have hp1 := HN.pos
          obtain ⟨_, _, hb1⟩ := HP3.out.pos
          cases hq : D.link r with
          | none => rw [stepM_none]; omega
          | some u => rw [hq] at hp1; obtain ⟨_, _, hp2⟩ := hp1; rw [stepM_some]; omega
        rw [← hlk] at HN
        have HN' := Lib.hid HN
        have Hk := Lib.hid hk
        have Hms := Lib.hid hms
        clear HN hk hms hlk hd hf hb2 CF
        simp only [optI_none]
        go_wp2_with fail
        refine CA.out.mono ?_
        rintro e w4 ⟨rfl, ⟨vn4, ve4, HV4⟩, hb4⟩
        have hx4 : (ns3.set r { xr with edge := some es3.length })[r]? = some { xr with edge := some es3.length } := List.getElem?_set_self hr3
        obtain ⟨gn4, cn4, rfl, hj4, hc41, hc42, f0, f1, f2, f3⟩ := HV4.node_at hx4
        rw [List.length_set] at hj4 hc41
        have d1 : w4.cell? ⟨g, 0, none⟩ = some (.slice (some ⟨gn4, 0, none⟩) (ns3.set r { xr with edge := some es3.length }).length cn4) := HV4.box.cell rfl
        rw [List.length_set] at d1
        have HC4 : PathR A L t c ns.length B g (ns.length + 1) xr.link b2 w w4 := ⟨_, _, _, _, ⟨_, _, HV4⟩, Hk.out, HN'.out, by rw [List.length_set]; exact Hm.out, Hb.out.trans hb4⟩
        have HC4' := Lib.hid HC4
        clear HC4 HV4 hb4 hx4 Hk HN' CA HM3 HR3 HP3 Hm Hb HX
        go_wp2
        go_roundw
        case rel => exact ⟨_, rfl, _, HC4'.out⟩
        case measure => rw [← optI_some, stepM_some]; exact Hms.out
      | some j =>
        obtain ⟨y, hy, ho, hl', hd⟩ := hf.some HR3.out
        clear hf hy ho hl' CF
        generalize y.to = q at *
        obtain ⟨vq, hge⟩ := HP3.out.len_ge HH.out hd
        have hq3 : q < ns3.length := (HR3.out.V q).1 ((HP3.out.V q).2 (.inl vq))
        have CS := step_any _ HM3.out HR3.out hr3 c
        rw [hd] at CS
        have CS' := Lib.hid CS
        have HD := Lib.hid hd
        clear CS hd
        simp only [optI_some]
        go_wp2_with fail
        refine CS'.out.mono ?_
        rintro e w4 ⟨rfl, rfl⟩
        simp only [optI_some]
        obtain ⟨vn5, ve5, HV5⟩ := HM3.out
        have hxq := List.getElem?_eq_getElem hq3
        generalize ns3[q] = xq at hxq
        have hw3 : ns.length < ns3.length := by have := Hm.out; omega
        have hxw := List.getElem?_eq_getElem hw3
        generalize ns3[ns.length] = xw at hxw
        have l1 : xr.len = A.len r := by rw [(HR3.out.node r xr HX.out).1, HP3.out.len]; exact upd_ne _ _ fun e => by subst e; exact Hf.out vr
        have l2 : xq.len = A.len q := by rw [(HR3.out.node q xq hxq).1, HP3.out.len]; exact upd_ne _ _ fun e => by subst e; exact Hf.out vq
        obtain ⟨gn5, cn5, rfl, _, hc51, hc52, m0, _⟩ := HV5.node_at HX.out
        obtain ⟨gn6, cn6, e6, _, _, _, q0, _⟩ := HV5.node_at hxq
        injection e6 with e6 _ e7
        injection e6 with e6
        injection e6 with e6 _ _
        subst e6
        subst e7
        obtain ⟨gn6, cn6, e6, _, _, _, _, z1, _⟩ := HV5.node_at hxw
        injection e6 with e6 _ e7
        injection e6 with e6
        injection e6 with e6 _ _
        subst e6
        subst e7
        have d0 : w4.cell? ⟨g, 0, none⟩ = some (.slice (some ⟨gn5, 0, none⟩) ns3.length cn5) := HV5.box.cell rfl
        have fz : w4.frozen? ⟨gn5, ns.length * 4 + 1, none⟩ = false := HV5.nodes.frozenAt _
        have b1 := HH.out.len_le vr
        have b2 := HH.out.len_le vq
        rw [l1] at m0
        rw [l2] at q0
        have hm5 := Hm.out
        by_cases hl : A.len q ≤ A.len r + 1
        · obtain ⟨k1, k2⟩ := HP3.out.end_some HH.out Hf.out HD.out hl
          have HS : ∀ n, ExtE (t ++ [c]) B g (ns.length + 2) w (.returned (.int .i64 ns.length)) ((w4.drewN n).setCell ⟨gn5, ns.length * 4 + 1, none⟩ (.int .i64 q)) := fun n => by
            have kb := ((Drawn.refl w4).drewN n).below w4.heap.size
            obtain ⟨gn6, cn6, e6, h1, h2, _, HW⟩ := (HV5.keep kb).put_node hxw (k := 1) (by omega) (x' := { xw with link := some q }) (u := .int .i64 q) rfl
            injection e6 with e6 _ _
            injection e6 with e6
            injection e6 with e6 _ _
            subst e6
            exact ⟨_, rfl, ⟨_, _, _, _, _, ⟨_, _, HW⟩, (HR3.out.setLink hxw (some q)).congr k1, k2, by rw [List.length_set]; omega⟩, (Hb.out.trans (((Drawn.refl w4).drewN n).below B)).setCell (p := ⟨gn5, ns.length * 4 + 1, none⟩) h1 _⟩
          have HS' := Lib.hid HS
          have hz1 : IntKind.i64.wrap ((A.len r : Int) + 1) = (A.len r : Int) + 1 := i64w (by omega) (by omega)
          clear HS k1 k2 HV5 hxq hxw l1 l2 CS' HD HM3 HR3 HP3 Hm Hb HX vr vq hge
          have g1 : ¬ (A.len r : Int) + 1 < A.len q := by omega
          go_wp2
          go_quiet (fail)
          go_wp2
          go_ret
          exact HS'.out _
        · have CP : ∀ n, Calls Try.prog 77 #[.pointer (some ⟨g, 0, none⟩), .int .i64 r, .int .i64 q, .int .u8 c.toNat] (w4.drewN n) fun e w' =>
              e = .returned (.int .i64 ns3.length) ∧ SplitR A L t c ns.length r q ns3.length D B g w' ∧ Below B (w4.drewN n) w' := fun n =>
            split_any _ ⟨_, _, HV5.keep (((Drawn.refl w4).drewN n).below w4.heap.size)⟩ HR3.out HH.out Hf.out HP3.out HD.out (by omega) (by omega) (by omega)
          have CP' := Lib.hid CP
          have hz1 : IntKind.i64.wrap ((A.len r : Int) + 1) = (A.len r : Int) + 1 := i64w (by omega) (by omega)
          have hfp : ¬ A.V ns3.length := fun e => by have := (HR3.out.V ns3.length).1 ((HP3.out.V _).2 (.inl e)); omega
          have Hfp := Lib.hid hfp
          have Hvr := Lib.hid vr
          clear CP HV5 hxq hxw l1 l2 CS' HM3 HR3 Hm HX vr vq hge hfp fz z1
          have g1 : (A.len r : Int) + 1 < A.len q := by omega
          have Hm5 := Lib.hid hm5
          clear hm5
          go_wp2
          go_quiet (fail)
          go_wp2_with fail
          have hm5 := Hm5.out
          refine (CP'.out _).mono ?_
          rintro e w5 ⟨rfl, HS, hb5⟩
          have hb6 := Hb.out.trans ((((Drawn.refl w4).drewN _).below B).trans hb5)
          obtain ⟨ns6, es6, own6, D6, p6, b6, M6, R6, hm6, T6, TT⟩ := HS
          obtain ⟨k1, k2⟩ := T6.fin' HH.out Hf.out Hfp.out (by omega) HP3.out HD.out (by omega) TT
          have hw6 : ns.length < ns6.length := by omega
          have hxw := List.getElem?_eq_getElem hw6
          generalize ns6[ns.length] = xw at hxw
          obtain ⟨vn6, ve6, HV6⟩ := M6
          obtain ⟨gn6, cn6, rfl, _, hc61, hc62, _, z1, _⟩ := HV6.node_at hxw
          have d0 : w5.cell? ⟨g, 0, none⟩ = some (.slice (some ⟨gn6, 0, none⟩) ns6.length cn6) := HV6.box.cell rfl
          have fz : w5.frozen? ⟨gn6, ns.length * 4 + 1, none⟩ = false := HV6.nodes.frozenAt _
          have HS : ExtE (t ++ [c]) B g (ns.length + 2) w (.returned (.int .i64 ns.length)) (w5.setCell ⟨gn6, ns.length * 4 + 1, none⟩ (.int .i64 ns3.length)) := by
            obtain ⟨gn7, cn7, e6, h1, h2, _, HW⟩ := HV6.put_node hxw (k := 1) (by omega) (x' := { xw with link := some ns3.length }) (u := .int .i64 ns3.length) rfl
            injection e6 with e6 _ _
            injection e6 with e6
            injection e6 with e6 _ _
            subst e6
            exact ⟨_, rfl, ⟨_, _, _, _, _, ⟨_, _, HW⟩, (R6.setLink hxw (some ns3.length)).congr k1, k2, by rw [List.length_set]; omega⟩, hb6.setCell (p := ⟨gn6, ns.length * 4 + 1, none⟩) h1 _⟩
          have HS' := Lib.hid HS
          clear HS k1 k2 HV6 hxw R6 T6 TT hb5 hb6 CP' HD HP3 Hb Hfp Hvr hm6
          clear hm5
          go_wp2
          go_ret
          exact HS'.out
end Go.Proofs.Ytiioebpmfjipeaa
