/- The law DeltaComposition, walked. (Printed by wip/gen/gen_delaws2.py.) -/
import Derived.Test.YtiioebpmfjipeaaDeAwake
import Derived.Test.YtiioebpmfjipeaaDeComp
import Derived.Test.YtiioebpmfjipeaaCompL
import Derived.Test.YtiioebpmfjipeaaDeApply
import Derived.Test.YtiioebpmfjipeaaDeGreat
import Derived.BigRegion
namespace Go.Proofs.Ytiioebpmfjipeaa
set_option linter.unusedVariables false
set_option linter.unusedSimpArgs false
open Go.RowKit

set_option maxRecDepth 100000 in
set_option maxHeartbeats 4000000 in
theorem law_compo (w : World) (xa : ByteArray) (ha0 : xa.size ≤ 9223372036854775807) (va : Value) (xs : List DOp) (hv : Dls w va xs ∧ ∀ x ∈ xs, Int64 x.off ∧ Int64 x.len) (vb : Value) (ys : List DOp) (hv2 : Dls w vb ys ∧ ∀ x ∈ ys, Int64 x.off ∧ Int64 x.len) :
    Calls Try.prog 12 #[.string xa, va, vb] w fun e w' => e = .returned (.bool true) ∧ Below w.heap.size w w' := by
  have K0 := Lib.hid (Below.refl w.heap.size w)
  by_cases hbig : 200 < xa.size
  · have h1 : decide ((200 : Int) < (xa.size : Int)) = true := by simp; omega
    go_enter Try.func12, Try.ntmps12
    have C1 := Lib.hid (awake_any w)
    go_wp2_with fail
    refine C1.out.mono ?_
    rintro e w1 ⟨rfl, hb1⟩
    have K1 := Lib.hid (K0.out.trans (hb1.mono K0.out.size))
    clear C1 hb1 K0
    go_wp2
    go_ret
    exact ⟨rfl, K1.out⟩
  · have h1 : decide ((200 : Int) < (xa.size : Int)) = false := by simp; omega
    obtain ⟨ha, hi64⟩ := hv
    obtain ⟨hb, hj64⟩ := hv2
    have CG := Lib.hid (great_any w ha)
    have CH := Lib.hid (great_any w hb)
    obtain ⟨A, c, rfl, hac, _⟩ := ha.form
    obtain ⟨B, d, rfl, hbc, _⟩ := hb.form
    by_cases hg : greatB xs = true
    · rw [hg] at CG
      clear ha hi64 hb hj64 hg CH
      go_enter Try.func12, Try.ntmps12
      have C1 := Lib.hid (CG.out)
      go_wp2_with fail
      refine C1.out.mono ?_
      rintro e v1 ⟨rfl, rfl⟩
      clear C1
      have C2 := Lib.hid (awake_any w)
      go_wp2_with fail
      refine C2.out.mono ?_
      rintro e w2 ⟨rfl, hb2⟩
      have K2 := Lib.hid (K0.out.trans (hb2.mono K0.out.size))
      clear C2 hb2 K0
      go_wp2
      go_ret
      exact ⟨rfl, K2.out⟩
    · have hg' : greatB xs = false := by simpa using hg
      have HI := Lib.hid (show ∀ x ∈ xs, Int64 x.off ∧ Int64 x.len ∧ x.data.length ≤ 9000000000000000000 from fun x hx => ⟨(hi64 x hx).1, (hi64 x hx).2, by have := ((greatB_false hg').2 x hx).1; omega⟩)
      rw [hg'] at CG
      by_cases hg2 : greatB ys = true
      · rw [hg2] at CH
        clear ha hi64 hb hj64 hg hg' hg2
        go_enter Try.func12, Try.ntmps12
        have C1 := Lib.hid (CG.out)
        go_wp2_with fail
        refine C1.out.mono ?_
        rintro e v1 ⟨rfl, rfl⟩
        clear C1
        have C2 := Lib.hid (CH.out)
        go_wp2_with fail
        refine C2.out.mono ?_
        rintro e v2 ⟨rfl, rfl⟩
        clear C2
        have C3 := Lib.hid (awake_any w)
        go_wp2_with fail
        refine C3.out.mono ?_
        rintro e w3 ⟨rfl, hb3⟩
        have K3 := Lib.hid (K0.out.trans (hb3.mono K0.out.size))
        clear C3 hb3 K0
        go_wp2
        go_ret
        exact ⟨rfl, K3.out⟩
      · have hg2' : greatB ys = false := by simpa using hg2
        have HI2 := Lib.hid (show ∀ x ∈ ys, Int64 x.off ∧ Int64 x.len ∧ x.data.length ≤ 9000000000000000000 from fun x hx => ⟨(hj64 x hx).1, (hj64 x hx).2, by have := ((greatB_false hg2').2 x hx).1; omega⟩)
        rw [hg2'] at CH
        have HA := Lib.hid ha
        have HB := Lib.hid hb
        clear ha hi64 hb hj64 hg hg' hg2 hg2'
        have hsa : xa.data.toList.length = xa.size := rfl
        obtain ⟨g1, g2, g3⟩ := compo_all (a := xa.data.toList) (xs := xs) (ys := ys)
        have hcl := composeD_len xa.data.toList.length xs ys
        have hml : (applyD xa.data.toList xs).1.length ≤ 65536 := by
          unfold applyD
          split
          · rename_i h
            have e := appL_len xa.data.toList xs (checkD_iff.1 h).2.1
            have := (checkD_iff.1 h).2.2
            simp only
            omega
          · simp
        have CA1 := Lib.hid (fun (w' : World) (h : Dls w' (.slice A xs.length c) xs) => apply_any w' xa h HI.out (by omega))
        have CA2 := fun (w' : World) (h : Dls w' (.slice B ys.length d) ys) => apply_any w' (strB (applyD xa.data.toList xs).1) h HI2.out (by rw [strB_size]; omega)
        rw [strB_data] at CA2
        have CA3 := Lib.hid (fun (w' : World) (v : Value) (hc : checkD (composeD xa.data.toList.length xs ys).1 xa.data.toList.length = 0) (h : Dls w' v (composeD xa.data.toList.length xs ys).1) => apply_any w' xa h (chk64 hc) (by omega))
        have CC := Lib.hid (fun (w' : World) (h : Dls w' (.slice A xs.length c) xs) (h' : Dls w' (.slice B ys.length d) ys) => compose_any w' (xa.size : Int) h h' HI.out HI2.out)
        rw [hsa] at g1 g2 g3 hcl CA3
        have CA2' := Lib.hid CA2
        have G1 := Lib.hid g1
        have G2 := Lib.hid g2
        have G3 := Lib.hid g3
        clear CA2 g1 g2 g3 hsa
        generalize composeD (xa.size : Int) xs ys = cm at *
        generalize applyD xa.data.toList xs = m1 at *
        generalize applyD m1.1 ys = m2 at *
        go_enter Try.func12, Try.ntmps12
        have C1 := Lib.hid (CG.out)
        go_wp2_with fail
        refine C1.out.mono ?_
        rintro e v1 ⟨rfl, rfl⟩
        clear C1
        have C2 := Lib.hid (CH.out)
        go_wp2_with fail
        refine C2.out.mono ?_
        rintro e v2 ⟨rfl, rfl⟩
        clear C2
        have C3 := Lib.hid (CC.out w HA.out HB.out)
        clear CC
        go_wp2_with fail
        refine C3.out.mono ?_
        rintro e w3 ⟨v3, rfl, hv3, hb3⟩
        have K3 := Lib.hid (K0.out.trans (hb3.mono K0.out.size))
        have F1 := Lib.hid (HA.out.keep (Keeps.of_below hb3))
        clear HA
        have F2 := Lib.hid (HB.out.keep (Keeps.of_below hb3))
        clear HB
        clear C3 hb3 K0
        have F3 := Lib.hid (hv3)
        obtain ⟨A1, c1, rfl, hlc⟩ : ∃ A c, v3 = .slice A cm.1.length c ∧ cm.1.length ≤ c := by obtain ⟨A, c, e, e2, _⟩ := hv3.form; exact ⟨A, c, e, e2⟩
        clear hv3
        have C4x := CA1.out w3 F1.out
        unfold EncE at C4x
        have C4 := Lib.hid C4x
        clear C4x
        clear F1
        clear CA1
        go_wp2_with fail
        refine C4.out.mono ?_
        rintro e w4 ⟨rfl, hb4⟩
        have K4 := Lib.hid (K3.out.trans (hb4.mono K3.out.size))
        have F4 := Lib.hid (F2.out.keep (Keeps.of_below hb4))
        clear F2
        have F5 := Lib.hid (F3.out.keep (Keeps.of_below hb4))
        clear F3
        clear C4 hb4 K3
        by_cases hf : m1.2 = 0
        · have hf1 : (m1.2 != 0) = false := by rw [hf]; rfl
          have HF := Lib.hid hf
          have C5x := CA2'.out w4 F4.out
          unfold EncE at C5x
          have C5 := Lib.hid C5x
          clear C5x
          clear F4
          clear CA2'
          go_wp2_with fail
          refine C5.out.mono ?_
          rintro e w5 ⟨rfl, hb5⟩
          have K5 := Lib.hid (K4.out.trans (hb5.mono K4.out.size))
          have F6 := Lib.hid (F5.out.keep (Keeps.of_below hb5))
          clear F5
          clear C5 hb5 K4
          by_cases hg : m2.2 = 0
          · have hg1 : (m2.2 != 0) = false := by rw [hg]; rfl
            obtain ⟨e1, e2, e3, e4⟩ := G3.out hf hg
            have HJN := Lib.hid e2
            have HCK := Lib.hid e3
            have HAP := Lib.hid e4
            have he1 : (cm.2 == 0) = true := by rw [e1]; rfl
            clear e1 e2 e3 e4 G1 G2 G3 hf hg
            have CA4 := Lib.hid (fun (w' : World) (v : Value) (h : Dls w' v cm.1) => CA3.out w' v HCK.out h)
            clear CA3
            have C6x := CA4.out w5 _ F6.out
            unfold EncE at C6x
            rw [HAP.out] at C6x
            simp only at C6x
            have C6 := Lib.hid C6x
            clear C6x
            clear CA4
            go_wp2_with fail
            refine C6.out.mono ?_
            rintro e w6 ⟨rfl, hb6⟩
            have K6 := Lib.hid (K5.out.trans (hb6.mono K5.out.size))
            have F7 := Lib.hid (F6.out.keep (Keeps.of_below hb6))
            clear F6
            clear C6 hb6 K5
            generalize hL : cm.1 = L at *
            clear hL
            go_wp2
            go_loopw [15] (fun ii wr => ∃ j : Nat, j ≤ L.length ∧ ii = .int .i64 ((j : Int) + 1) ∧ Below w.heap.size w wr ∧ Hid (Dls wr (.slice A1 L.length c1) L)) (fun ii _ => L.length + 1 - (intOf ii).toNat)
            case atStart => exact ⟨0, by omega, rfl, K6.out, F7⟩
            case round =>
              obtain ⟨j, hj, rfl, hbw, HL⟩ := hrel
              have hsz := hbw.size
              by_cases hlt : j + 1 < L.length
              · obtain ⟨x, hx⟩ : ∃ x, L[j]? = some x := ⟨_, List.getElem?_eq_getElem (by omega)⟩
                obtain ⟨y, hy⟩ : ∃ y, L[j + 1]? = some y := ⟨_, List.getElem?_eq_getElem hlt⟩
                obtain ⟨b1, o1, hA1, p0, p1, p2⟩ := HL.out.get hx
                obtain ⟨b2, o2, hA2, q0, q1, q2⟩ := HL.out.get hy
                rw [hA1] at hA2
                cases hA2
                subst hA1
                obtain ⟨k1, k2⟩ := HJN.out j x y hx hy
                have hvx := (checkD_iff.1 HCK.out).2.1 x (List.mem_of_getElem? hx)
                have hvy := (checkD_iff.1 HCK.out).2.1 y (List.mem_of_getElem? hy)
                have hx0 := hvx.len0
                have hy0 := hvy.len0
                have hb64 := chk64 HCK.out x (List.mem_of_getElem? hx)
                have hltI : (j : Int) + 1 < (L.length : Int) := by omega
                have z1 : ((j : Int) + 1).toNat = j + 1 := by omega
                have hb1 : b1 < wr.heap.size := World.block_lt_of_cell? wr _ p0
                have hb2 : b1 < (wr.alloc (.cells #[.int .i64 0, .int .i64 0, .string ⟨#[]⟩] 28)).heap.size := by simp; omega
                go_upto_region 14 with (fail)
                go_region
                · have e1 := Blk.drew ((Blk.new wr #[.int .i64 x.off, .int .i64 x.len, .string (strB x.data)] 28).alloc (.cells #[.int .i64 y.off, .int .i64 y.len, .string (strB y.data)] 28))
                  have e2 := Blk.drew (Blk.new (wr.alloc (.cells #[.int .i64 x.off, .int .i64 x.len, .string (strB x.data)] 28)) #[.int .i64 y.off, .int .i64 y.len, .string (strB y.data)] 28)
                  rw [show (wr.alloc (.cells #[.int .i64 x.off, .int .i64 x.len, .string (strB x.data)] 28)).heap.size = wr.heap.size + 1 by simp] at e2
                  have kb := (((Below.refl wr.heap.size wr).alloc (Nat.le_refl _) (.cells #[.int .i64 x.off, .int .i64 x.len, .string (strB x.data)] 28)).alloc (by simp) (.cells #[.int .i64 y.off, .int .i64 y.len, .string (strB y.data)] 28)).drew
                  generalize ((wr.alloc (.cells #[.int .i64 x.off, .int .i64 x.len, .string (strB x.data)] 28)).alloc (.cells #[.int .i64 y.off, .int .i64 y.len, .string (strB y.data)] 28)).drew = W at *
                  have HBW := Lib.hid (hbw.trans (kb.mono hsz))
                  have HL2 := Lib.hid (HL.out.keep (Keeps.of_below kb))
                  have d0 := e1.cell (j := 0) rfl
                  have d1 := e1.cell (j := 1) rfl
                  have f0 := e2.cell (j := 0) rfl
                  have f1 := e2.cell (j := 1) rfl
                  clear hbw HL e1 e2 kb p0 p1 p2 q0 q1 q2 hb1 hb2
                  by_cases hx1 : x.len = 0
                  · have u1 : (x.len == 0) = true := by simpa using hx1
                    have u2 : (y.len == 0) = false := by simp; omega
                    have u3 : decide ((0 : Int) < x.len) = false := by simp; omega
                    clear k1 k2 hvx hvy hx1
                    go_wp2
                    go_roundw
                    case rel => exact ⟨j + 1, by omega, by go_num, HBW.out, HL2.out⟩
                    case measure => simp [intOf]; omega
                  · have u1 : (x.len == 0) = false := by simpa using hx1
                    have u3 : decide ((0 : Int) < x.len) = true := by simp; omega
                    by_cases hy1 : 0 < y.len
                    · have u4 : decide ((0 : Int) < y.len) = true := by simp; omega
                      have hne : ¬ x.off + x.len = y.off := fun e => k2 ⟨by omega, hy1, e⟩
                      have hcx : x.cp := hvx.1.resolve_right fun h => by have := h.1; omega
                      have hv2 := hvx.2 hcx
                      have u5 : IntKind.i64.wrap (x.off + x.len) = x.off + x.len := i64w (by omega) (by omega)
                      have u6 : ((x.off + x.len) == y.off) = false := by simpa using hne
                      clear k1 k2 hvx hvy hx1 hy1 hne hcx hv2
                      go_wp2
                      go_roundw
                      case rel => exact ⟨j + 1, by omega, by go_num, HBW.out, HL2.out⟩
                      case measure => simp [intOf]; omega
                    · have u4 : decide ((0 : Int) < y.len) = false := by simp; omega
                      clear k1 k2 hvx hvy hx1 hy1
                      go_wp2
                      go_roundw
                      case rel => exact ⟨j + 1, by omega, by go_num, HBW.out, HL2.out⟩
                      case measure => simp [intOf]; omega
                · have e1 := Blk.drew ((Blk.new wr #[.int .i64 y.off, .int .i64 y.len, .string (strB y.data)] 28).alloc (.cells #[.int .i64 x.off, .int .i64 x.len, .string (strB x.data)] 28))
                  have e2 := Blk.drew (Blk.new (wr.alloc (.cells #[.int .i64 y.off, .int .i64 y.len, .string (strB y.data)] 28)) #[.int .i64 x.off, .int .i64 x.len, .string (strB x.data)] 28)
                  rw [show (wr.alloc (.cells #[.int .i64 y.off, .int .i64 y.len, .string (strB y.data)] 28)).heap.size = wr.heap.size + 1 by simp] at e2
                  have kb := (((Below.refl wr.heap.size wr).alloc (Nat.le_refl _) (.cells #[.int .i64 y.off, .int .i64 y.len, .string (strB y.data)] 28)).alloc (by simp) (.cells #[.int .i64 x.off, .int .i64 x.len, .string (strB x.data)] 28)).drew
                  generalize ((wr.alloc (.cells #[.int .i64 y.off, .int .i64 y.len, .string (strB y.data)] 28)).alloc (.cells #[.int .i64 x.off, .int .i64 x.len, .string (strB x.data)] 28)).drew = W at *
                  have HBW := Lib.hid (hbw.trans (kb.mono hsz))
                  have HL2 := Lib.hid (HL.out.keep (Keeps.of_below kb))
                  have d0 := e1.cell (j := 0) rfl
                  have d1 := e1.cell (j := 1) rfl
                  have f0 := e2.cell (j := 0) rfl
                  have f1 := e2.cell (j := 1) rfl
                  clear hbw HL e1 e2 kb p0 p1 p2 q0 q1 q2 hb1 hb2
                  by_cases hx1 : x.len = 0
                  · have u1 : (x.len == 0) = true := by simpa using hx1
                    have u2 : (y.len == 0) = false := by simp; omega
                    have u3 : decide ((0 : Int) < x.len) = false := by simp; omega
                    clear k1 k2 hvx hvy hx1
                    go_wp2
                    go_roundw
                    case rel => exact ⟨j + 1, by omega, by go_num, HBW.out, HL2.out⟩
                    case measure => simp [intOf]; omega
                  · have u1 : (x.len == 0) = false := by simpa using hx1
                    have u3 : decide ((0 : Int) < x.len) = true := by simp; omega
                    by_cases hy1 : 0 < y.len
                    · have u4 : decide ((0 : Int) < y.len) = true := by simp; omega
                      have hne : ¬ x.off + x.len = y.off := fun e => k2 ⟨by omega, hy1, e⟩
                      have hcx : x.cp := hvx.1.resolve_right fun h => by have := h.1; omega
                      have hv2 := hvx.2 hcx
                      have u5 : IntKind.i64.wrap (x.off + x.len) = x.off + x.len := i64w (by omega) (by omega)
                      have u6 : ((x.off + x.len) == y.off) = false := by simpa using hne
                      clear k1 k2 hvx hvy hx1 hy1 hne hcx hv2
                      go_wp2
                      go_roundw
                      case rel => exact ⟨j + 1, by omega, by go_num, HBW.out, HL2.out⟩
                      case measure => simp [intOf]; omega
                    · have u4 : decide ((0 : Int) < y.len) = false := by simp; omega
                      clear k1 k2 hvx hvy hx1 hy1
                      go_wp2
                      go_roundw
                      case rel => exact ⟨j + 1, by omega, by go_num, HBW.out, HL2.out⟩
                      case measure => simp [intOf]; omega
              · have hltI : ¬ (j : Int) + 1 < (L.length : Int) := by omega
                have HBW := Lib.hid hbw
                have CW := Lib.hid (awake_any wr)
                clear hbw HL
                go_wp2_with fail
                refine CW.out.mono ?_
                rintro e wz ⟨rfl, hbz⟩
                have HBZ := Lib.hid (HBW.out.trans (hbz.mono hsz))
                clear CW hbz HBW
                go_wp2
                go_ret
                exact ⟨rfl, HBZ.out⟩
          · have hg1 : (m2.2 != 0) = true := by simpa using hg
            have he1 := G2.out hf hg
            have he2 : (cm.2 == m2.2) = true := by rw [he1]; simp
            clear he1 G1 G2 G3 hf hg CA3
            have C6 := Lib.hid (awake_any w5)
            go_wp2_with fail
            refine C6.out.mono ?_
            rintro e w6 ⟨rfl, hb6⟩
            have K6 := Lib.hid (K5.out.trans (hb6.mono K5.out.size))
            have F7 := Lib.hid (F6.out.keep (Keeps.of_below hb6))
            clear F6
            clear C6 hb6 K5
            go_wp2
            go_ret
            exact ⟨rfl, K6.out⟩
        · have hf1 : (m1.2 != 0) = true := by simpa using hf
          have he1 := G1.out hf
          have he2 : (cm.2 == m1.2) = true := by rw [he1]; simp
          clear he1 G1 G2 G3 hf CA3 CA2'
          have C5 := Lib.hid (awake_any w4)
          go_wp2_with fail
          refine C5.out.mono ?_
          rintro e w5 ⟨rfl, hb5⟩
          have K5 := Lib.hid (K4.out.trans (hb5.mono K4.out.size))
          have F6 := Lib.hid (F4.out.keep (Keeps.of_below hb5))
          clear F4
          have F7 := Lib.hid (F5.out.keep (Keeps.of_below hb5))
          clear F5
          clear C5 hb5 K4
          go_wp2
          go_ret
          exact ⟨rfl, K5.out⟩
end Go.Proofs.Ytiioebpmfjipeaa
