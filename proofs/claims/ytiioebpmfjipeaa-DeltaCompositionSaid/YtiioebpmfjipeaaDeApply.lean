/- delta: Apply, the code's and the reference's. -/
import Derived.Test.YtiioebpmfjipeaaAppP
import Derived.Test.YtiioebpmfjipeaaDeEnc
namespace Go.Proofs.Ytiioebpmfjipeaa
set_option linter.unusedVariables false
set_option linter.unusedSimpArgs false
open Go.RowKit

set_option maxRecDepth 100000 in
set_option maxHeartbeats 4000000 in
theorem apply_any (w : World) (a : ByteArray) {va : Value} {xs : List DOp} (ha : Dls w va xs) (hi : ∀ x ∈ xs, Int64 x.off ∧ Int64 x.len ∧ x.data.length ≤ 9000000000000000000) (hl : a.size ≤ 1000000) :
    Calls Try.prog 22 #[.string a, va] w (EncE (applyD a.data.toList xs) w) := by
  have hal : a.data.toList.length = a.size := rfl
  have CK := Lib.hid (check_any w ha a.size hi)
  obtain ⟨A, c, rfl, h1, h2⟩ := ha.form
  by_cases hc : checkD xs a.size = 0
  · have hr : applyD a.data.toList xs = (appL a.data.toList xs, 0) := if_pos hc
    rw [hr]
    rw [hc] at CK
    obtain ⟨hn, hval, hs⟩ := checkD_ok hc
    have HV := Lib.hid hval
    have HA := Lib.hid ha
    have HL : Hid (∀ k, ((appL a.data.toList (xs.take k)).length : Int) ≤ 65536) := fun k => by
      rw [appL_len _ _ fun x hx => hval x (List.mem_of_mem_take hx)]
      exact Int.le_trans (sumD_prefix xs k) hs
    clear hr hc ha hi hval
    go_enter Try.func22, Try.ntmps22
    go_wp2_with fail
    refine CK.out.mono ?_
    rintro e w1 ⟨rfl, hb1⟩
    have hs1 := hb1.size
    have K1 := Lib.hid hb1
    have hal1 := (Below.refl w1.heap.size w1).alloc (Nat.le_refl _) (.cells #[.pointer none, .slice none 0 0] 57)
    have hbn := Bld.new w1 (Nat.le_refl _)
    have HB0 : Hid (BldE w1.heap.size w1.heap.size (appL a.data.toList (xs.take 0)) (w1.alloc (.cells #[.pointer none, .slice none 0 0] 57)) (w1.alloc (.cells #[.pointer none, .slice none 0 0] 57))) := ⟨hbn, Below.refl _ _, Lib.OthersKept.refl _ _ _⟩
    have HBW := Lib.hid (hb1.trans (hal1.mono hs1))
    have hg1 : w1.heap.size < (w1.alloc (.cells #[.pointer none, .slice none 0 0] 57)).heap.size := by simp
    clear CK hb1 hal1 hbn
    go_upto_region 5 with (fail)
    generalize w1.alloc (.cells #[.pointer none, .slice none 0 0] 57) = W0 at *
    generalize w1.heap.size = b at *
    go_wp2
    go_loopw [19] (fun i wr => ∃ k : Nat, k ≤ xs.length ∧ i = .int .i64 k ∧ BldE b b (appL a.data.toList (xs.take k)) W0 wr) (fun i _ => xs.length - (intOf i).toNat)
    case atStart => exact ⟨0, by omega, rfl, HB0.out⟩
    case round =>
      clear HB0
      obtain ⟨k, hk, rfl, hB⟩ := hrel
      have hsr := hB.bel.size
      have hbw : Below w.heap.size w wr := HBW.out.trans (hB.bel.mono hs1)
      by_cases hlt : k < xs.length
      · obtain ⟨x, hx⟩ : ∃ x, xs[k]? = some x := ⟨_, List.getElem?_eq_getElem hlt⟩
        obtain ⟨b1, o1, rfl, c0, c1, c2⟩ := (HA.out.keep (Keeps.of_below hbw)).get hx
        have hv := HV.out x (List.mem_of_getElem? hx)
        have HNX : Hid (appL a.data.toList (xs.take (k + 1)) = appL a.data.toList (xs.take k) ++ appX a.data.toList x) := take_succ_app hx
        have hp := HL.out k
        have hp1 := HL.out (k + 1)
        rw [HNX.out, List.length_append] at hp1
        generalize appL a.data.toList (xs.take k) = P at *
        have hal := (Below.refl wr.heap.size wr).alloc (Nat.le_refl _) (.cells #[.int .i64 x.off, .int .i64 x.len, .string (strB x.data)] 28)
        have hbx := Blk.new wr #[.int .i64 x.off, .int .i64 x.len, .string (strB x.data)] 28
        have HB3 := Lib.hid (hB.below hal (by omega) hsr)
        have HCX := Lib.hid (fun w' => isCopy_any x w')
        have hgb : b < wr.heap.size := by have := hB.bld.lt; omega
        clear hx hB hbw
        by_cases hcp : x.cp
        · have hcb : cpB x = true := decide_eq_true hcp
          obtain ⟨xo, xl, xd⟩ := x
          obtain ⟨g1, g2⟩ := hv.2 hcp
          have hcl := hcp.1
          simp only at g1 g2 hcl c0 c1 c2 hbx HB3
          obtain ⟨o, rfl⟩ := Int.eq_ofNat_of_zero_le g1
          obtain ⟨l, rfl⟩ := Int.eq_ofNat_of_zero_le (Int.le_of_lt hcl)
          have hol : o + l ≤ a.size := by omega
          have HXV : Hid (appX a.data.toList ⟨o, l, xd⟩ = (a.data.toList.drop o).take l) := by
            show _ = _
            unfold appX
            rw [if_pos (by simpa using hcl)]
            simp
          rw [HXV.out] at hp1
          have hxl : (a.extract o (o + l)).size = l := by rw [extract_app a hol, strB_size, List.length_take, List.length_drop]; omega
          have HX : Hid ((a.extract o (o + l)).data.toList = (a.data.toList.drop o).take l) := by show _ = _; rw [extract_app a hol, strB_data]
          have hz1 : IntKind.i64.wrap ((o : Int) + l) = ((o + l : Nat) : Int) := by rw [i64w (by omega) (by omega)]; omega
          have HCP := Lib.hid hcb
          clear hv hcp hcb g1 hcl
          go_upto_region 8 with (fail)
          have hs3 : W0.heap.size ≤ (wr.alloc (.cells #[.int .i64 o, .int .i64 l, .string (strB xd)] 28)).heap.size := by simp; omega
          generalize wr.alloc (.cells #[.int .i64 o, .int .i64 l, .string (strB xd)] 28) = w3 at *
          generalize wr.heap.size = gx at *
          clear c0 c1 c2 hal hsr
          have q0 : w3.cell? ⟨gx, 0, none⟩ = some (.int .i64 o) := hbx.cell (j := 0) rfl
          have q1 : w3.cell? ⟨gx, 1, none⟩ = some (.int .i64 l) := hbx.cell (j := 1) rfl
          have q2 : w3.cell? ⟨gx, 2, none⟩ = some (.string (strB xd)) := hbx.cell (j := 2) rfl
          have CX := HCX.out w3
          unfold dV at CX
          rw [HCP.out] at CX
          have CX' := Lib.hid CX
          clear CX HCX HCP
          go_wp2_with fail
          refine CX'.out.mono ?_
          rintro e w5 ⟨rfl, hb5⟩
          have kb5 := hbx.keep hb5
          have hs5 := hb5.size
          have r0 : w5.cell? ⟨gx, 0, none⟩ = some (.int .i64 o) := kb5.cell (j := 0) rfl
          have r1 : w5.cell? ⟨gx, 1, none⟩ = some (.int .i64 l) := kb5.cell (j := 1) rfl
          have hB5 := HB3.out.below hb5 (by omega) (by omega)
          have C6 := Lib.hid (ws_any b b P (a.extract o (o + l)) w5 hB5.bld (by omega) (by omega))
          have HB5 := Lib.hid hB5
          clear hB5 hb5 CX' HB3 q0 q1 q2 kb5 hbx
          go_wp2_with fail
          refine C6.out.mono ?_
          rintro e w6 ⟨rfl, hb6, hB6, ko6⟩
          rw [HX.out] at hb6
          have HB6 := Lib.hid (HB5.out.trans ⟨hb6, hB6, ko6⟩)
          clear hb6 hB6 ko6 HB5 C6 r0 r1
          go_wp2
          go_roundw
          case rel => exact ⟨k + 1, by omega, by go_num, by rw [HNX.out, HXV.out]; exact HB6.out⟩
          case measure => simp [intOf]; omega
        · have hcb : cpB x = false := decide_eq_false hcp
          have hcl : ¬ 0 < x.len := fun h => hcp (hv.1.resolve_right fun e => by have := e.1; omega)
          have HXV : Hid (appX a.data.toList x = x.data) := if_neg hcl
          rw [HXV.out] at hp1
          have HCP := Lib.hid hcb
          clear hv hcp hcb hcl
          go_upto_region 8 with (fail)
          have hs3 : W0.heap.size ≤ (wr.alloc (.cells #[.int .i64 x.off, .int .i64 x.len, .string (strB x.data)] 28)).heap.size := by simp; omega
          generalize wr.alloc (.cells #[.int .i64 x.off, .int .i64 x.len, .string (strB x.data)] 28) = w3 at *
          generalize wr.heap.size = gx at *
          clear c0 c1 c2 hal hsr
          have q0 : w3.cell? ⟨gx, 0, none⟩ = some (.int .i64 x.off) := hbx.cell (j := 0) rfl
          have q1 : w3.cell? ⟨gx, 1, none⟩ = some (.int .i64 x.len) := hbx.cell (j := 1) rfl
          have q2 : w3.cell? ⟨gx, 2, none⟩ = some (.string (strB x.data)) := hbx.cell (j := 2) rfl
          have CX := HCX.out w3
          unfold dV at CX
          rw [HCP.out] at CX
          have CX' := Lib.hid CX
          clear CX HCX HCP
          go_wp2_with fail
          refine CX'.out.mono ?_
          rintro e w5 ⟨rfl, hb5⟩
          have kb5 := hbx.keep hb5
          have hs5 := hb5.size
          have r2 : w5.cell? ⟨gx, 2, none⟩ = some (.string (strB x.data)) := kb5.cell (j := 2) rfl
          have hB5 := HB3.out.below hb5 (by omega) (by omega)
          have C6 := Lib.hid (ws_any b b P (strB x.data) w5 hB5.bld (by rw [strB_size]; omega) (by omega))
          have HB5 := Lib.hid hB5
          clear hB5 hb5 CX' HB3 q0 q1 q2 kb5 hbx
          go_wp2_with fail
          refine C6.out.mono ?_
          rintro e w6 ⟨rfl, hb6, hB6, ko6⟩
          rw [strB_data] at hb6
          have HB6 := Lib.hid (HB5.out.trans ⟨hb6, hB6, ko6⟩)
          clear hb6 hB6 ko6 HB5 C6 r2
          go_wp2
          go_roundw
          case rel => exact ⟨k + 1, by omega, by go_num, by rw [HNX.out, HXV.out]; exact HB6.out⟩
          case measure => simp [intOf]; omega
      · have hks : xs.take k = xs := List.take_of_length_le (by omega)
        rw [hks] at hB
        have CS := Lib.hid (str_any b b _ wr hB.bld (by omega))
        have HBR := Lib.hid hbw
        clear hB hks hbw
        go_wp2_with fail
        refine CS.out.mono ?_
        rintro e w3 ⟨rfl, _, hb3, _⟩
        have HE : EncE (appL a.data.toList xs, 0) w (.returned (.tuple #[.string ⟨(appL a.data.toList xs).toArray⟩, .int .i64 0])) w3 := ⟨rfl, HBR.out.trans (hb3.mono (by omega))⟩
        have HE' := Lib.hid HE
        clear HE hb3 HBR CS
        go_wp2
        go_ret2
        exact HE'.out
  · have hr : applyD a.data.toList xs = ([], checkD xs a.size) := if_neg hc
    rw [hr]
    have hne : ((checkD xs a.size) != 0) = true := by simpa using hc
    generalize checkD xs a.size = q at *
    clear hr ha hi hc
    go_enter Try.func22, Try.ntmps22
    go_wp2_with fail
    refine CK.out.mono ?_
    rintro e w1 ⟨rfl, hb1⟩
    have HE := Lib.hid (show EncE ([], q) w (.returned (.tuple #[.string ⟨#[]⟩, .int .i64 q])) w1 from ⟨rfl, hb1⟩)
    clear hb1 CK
    go_wp2
    go_ret2
    exact HE.out

set_option maxRecDepth 100000 in
set_option maxHeartbeats 4000000 in
theorem rapply_any (w : World) (a : ByteArray) {va : Value} {xs : List DOp} (ha : Dls w va xs) (hi : ∀ x ∈ xs, Int64 x.off ∧ Int64 x.len ∧ x.data.length ≤ 9000000000000000000) (hl : a.size ≤ 1000000) :
    Calls Try.prog 23 #[.string a, va] w (EncE (applyD a.data.toList xs) w) := by
  have hal : a.data.toList.length = a.size := rfl
  have CK := Lib.hid (rcheck_any w ha a.size hi)
  obtain ⟨A, c, rfl, h1, h2⟩ := ha.form
  by_cases hc : checkD xs a.size = 0
  · have hr : applyD a.data.toList xs = (appL a.data.toList xs, 0) := if_pos hc
    rw [hr]
    rw [hc] at CK
    obtain ⟨hn, hval, hs⟩ := checkD_ok hc
    have HV := Lib.hid hval
    have HA := Lib.hid ha
    have HL : Hid (∀ k, ((appL a.data.toList (xs.take k)).length : Int) ≤ 65536) := fun k => by
      rw [appL_len _ _ fun x hx => hval x (List.mem_of_mem_take hx)]
      exact Int.le_trans (sumD_prefix xs k) hs
    clear hr hc ha hi hval
    go_enter Try.func23, Try.ntmps23
    go_wp2_with fail
    refine CK.out.mono ?_
    rintro e w1 ⟨rfl, hb1⟩
    have HB1 := Lib.hid hb1
    clear CK hb1
    go_wp2
    go_loopw [7, 8] (fun so i wr => ∃ k : Nat, k ≤ xs.length ∧ i = .int .i64 k ∧ so = .string (strB (appL a.data.toList (xs.take k))) ∧ Below w.heap.size w wr) (fun _ i _ => xs.length - (intOf i).toNat)
    case atStart => exact ⟨0, by omega, rfl, rfl, HB1.out⟩
    case round =>
      clear HB1
      obtain ⟨k, hk, rfl, rfl, hbw⟩ := hrel
      by_cases hlt : k < xs.length
      · obtain ⟨x, hx⟩ : ∃ x, xs[k]? = some x := ⟨_, List.getElem?_eq_getElem hlt⟩
        obtain ⟨b1, o1, rfl, c0, c1, c2⟩ := (HA.out.keep (Keeps.of_below hbw)).get hx
        have hv := HV.out x (List.mem_of_getElem? hx)
        have HNX : Hid (appL a.data.toList (xs.take (k + 1)) = appL a.data.toList (xs.take k) ++ appX a.data.toList x) := take_succ_app hx
        have hp := HL.out k
        have hp1 := HL.out (k + 1)
        rw [HNX.out, List.length_append] at hp1
        have HBD : Hid (∀ m, Below w.heap.size w (wr.drewN m)) := fun m => hbw.trans (((Drawn.refl wr).drewN m).below _)
        generalize appL a.data.toList (xs.take k) = P at *
        have HX := Lib.hid hx
        have HBW := Lib.hid hbw
        clear hx hbw
        by_cases hcl : 0 < x.len
        · have hq : decide ((0 : Int) < x.len) = true := by simp; omega
          have hcp : x.cp := hv.1.resolve_right fun h => by have := h.1; omega
          obtain ⟨xo, xl, xd⟩ := x
          obtain ⟨g1, g2⟩ := hv.2 hcp
          simp only at g1 g2 hcl hq c0 c1 c2
          obtain ⟨o, rfl⟩ := Int.eq_ofNat_of_zero_le g1
          obtain ⟨l, rfl⟩ := Int.eq_ofNat_of_zero_le (Int.le_of_lt hcl)
          have hol : o + l ≤ a.size := by omega
          have HXV : Hid (appX a.data.toList ⟨o, l, xd⟩ = (a.data.toList.drop o).take l) := by
            show _ = _
            unfold appX
            rw [if_pos (by simpa using hcl)]
            simp
          rw [HXV.out] at hp1
          have hex := extract_app a hol
          have hz1 : IntKind.i64.wrap ((o : Int) + l) = ((o + l : Nat) : Int) := by rw [i64w (by omega) (by omega)]; omega
          have hsz : ¬ 9223372036854775807 < (strB P).size + (strB ((a.data.toList.drop o).take l)).size := by rw [strB_size, strB_size]; omega
          have hap := strB_append P ((a.data.toList.drop o).take l)
          go_wp2
          go_quiet (fail)
          go_wp2
          go_roundw
          case rel => exact ⟨k + 1, by omega, by go_num, by rw [HNX.out, HXV.out], HBD.out _⟩
          case measure => simp [intOf]; omega
        · have hq : decide ((0 : Int) < x.len) = false := by simp; omega
          have HXV : Hid (appX a.data.toList x = x.data) := if_neg hcl
          rw [HXV.out] at hp1
          have hsz : ¬ 9223372036854775807 < (strB P).size + (strB x.data).size := by rw [strB_size, strB_size]; omega
          have hap := strB_append P x.data
          clear hv hcl
          go_wp2
          go_roundw
          case rel => exact ⟨k + 1, by omega, by go_num, by rw [HNX.out, HXV.out], HBW.out⟩
          case measure => simp [intOf]; omega
      · have hks : xs.take k = xs := List.take_of_length_le (by omega)
        have HE := Lib.hid (show EncE (appL a.data.toList xs, 0) w (.returned (.tuple #[.string (strB (appL a.data.toList (xs.take k))), .int .i64 0])) wr from ⟨by rw [hks], hbw⟩)
        clear hks hbw HL HV
        go_wp2
        go_ret2
        exact HE.out
  · have hr : applyD a.data.toList xs = ([], checkD xs a.size) := if_neg hc
    rw [hr]
    have hne : ((checkD xs a.size) != 0) = true := by simpa using hc
    generalize checkD xs a.size = q at *
    clear hr ha hi hc
    go_enter Try.func23, Try.ntmps23
    go_wp2_with fail
    refine CK.out.mono ?_
    rintro e w1 ⟨rfl, hb1⟩
    have HE := Lib.hid (show EncE ([], q) w (.returned (.tuple #[.string ⟨#[]⟩, .int .i64 q])) w1 from ⟨rfl, hb1⟩)
    clear hb1 CK
    go_wp2
    go_ret2
    exact HE.out
end Go.Proofs.Ytiioebpmfjipeaa
