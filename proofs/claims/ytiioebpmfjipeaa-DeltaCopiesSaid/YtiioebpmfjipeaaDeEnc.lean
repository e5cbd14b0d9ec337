/- delta: Encode. -/
import Derived.Test.YtiioebpmfjipeaaDeCheck
import Derived.Test.YtiioebpmfjipeaaCodPut
namespace Go.Proofs.Ytiioebpmfjipeaa
set_option linter.unusedVariables false
set_option linter.unusedSimpArgs false
open Go.RowKit

theorem BldE.below {B b : Nat} {l : List UInt8} {w0 w w' : World} (h : BldE B b l w0 w) (k : Below w.heap.size w w') (hB : B ≤ w.heap.size) (hs : w0.heap.size ≤ w.heap.size) : BldE B b l w0 w' :=
  ⟨h.bld.below k, h.bel.trans (k.mono hB), others_below h.oth hs k⟩
theorem BldE.trans {B b : Nat} {l l' : List UInt8} {w0 w w' : World} (h : BldE B b l w0 w) (k : BldE B b l' w w') : BldE B b l' w0 w' := ⟨k.bld, h.bel.trans k.bel, h.oth.trans k.oth⟩
theorem putI_len (n : Int) : (putI n).1.length ≤ 6 := by
  unfold putI
  split
  · rename_i h
    exact digL_len n.toNat 5 (by omega)
  · simp
theorem putT_len (s : List UInt8) : (putT s).1.length ≤ 65542 := by
  unfold putT
  split
  · rename_i h
    have := digL_len s.length 5 (by omega)
    simp only [List.length_append]
    omega
  · simp

set_option maxRecDepth 100000 in
set_option maxHeartbeats 1000000 in
theorem enc1_any (w : World) (B b : Nat) (l : List UInt8) (n : Int) (h : Bld B b l w) (hBw : B ≤ w.heap.size) (hl : l.length ≤ 70368744177664) :
    Calls Try.prog 41 #[.int .i64 n, .pointer (some ⟨b, 0, none⟩)] w fun e w' => e = .returned (.tuple #[]) ∧ BldE B b (l ++ (putI n).1) w w' := by
  have CP := Lib.hid (putInt_any n w)
  have hp := putI_len n
  generalize putI n = r at *
  obtain ⟨s, er⟩ := r
  simp only at CP hp
  have H := Lib.hid h
  clear h
  go_enter Try.func41, Try.ntmps41
  go_wp2_with fail
  refine CP.out.mono ?_
  rintro e w1 ⟨rfl, hb1⟩
  have hs1 := hb1.size
  have CW := Lib.hid (ws_any B b l (strB s) w1 (H.out.below hb1) (by rw [strB_size]; omega) (by omega))
  have K1 := Lib.hid hb1
  clear CP hb1
  go_wp2_with fail
  refine CW.out.mono ?_
  rintro e w2 ⟨rfl, hb2, hB2, ko2⟩
  rw [strB_data] at hb2
  have HE : BldE B b (l ++ s) w w2 := ⟨hb2, (K1.out.mono hBw).trans hB2, (others_below (Lib.OthersKept.refl _ _ w) (Nat.le_refl _) K1.out).trans ko2⟩
  have HE' := Lib.hid HE
  clear HE hb2 hB2 ko2 K1 CW H
  go_wp2
  exact bodyPost_end (results_none rfl _ _ _) rfl ⟨rfl, HE'.out⟩

/-- The encoding of an element. -/
def encX (x : DOp) : List UInt8 := (putI x.len).1 ++ (if x.cp then (putI x.off).1 else (putT x.data).1)
def encodeD (l : List DOp) : List UInt8 × Int := if checkD l 65536 = 0 then ((putI l.length).1 ++ l.flatMap encX, 0) else ([], checkD l 65536)
theorem encX_len (x : DOp) : (encX x).length ≤ 65548 := by
  unfold encX
  have h1 := putI_len x.len
  have h2 := putI_len x.off
  have h3 := putT_len x.data
  rw [List.length_append]
  split <;> omega
theorem encs_len : ∀ (l : List DOp), (l.flatMap encX).length ≤ l.length * 65548
  | [] => by simp
  | x :: l => by
    have := encX_len x
    have := encs_len l
    rw [List.flatMap_cons, List.length_append, List.length_cons]
    omega
def EncE (r : List UInt8 × Int) (w0 : World) (e : Ending) (w : World) : Prop := e = .returned (.tuple #[.string (strB r.1), .int .i64 r.2]) ∧ Below w0.heap.size w0 w
theorem take_succ_flat {xs : List DOp} {k : Nat} {x : DOp} (hx : xs[k]? = some x) : (xs.take (k + 1)).flatMap encX = (xs.take k).flatMap encX ++ encX x := by
  obtain ⟨h, rfl⟩ := List.getElem?_eq_some_iff.1 hx
  rw [List.take_succ_eq_append_getElem h, List.flatMap_append]
  simp

set_option maxRecDepth 100000 in
set_option maxHeartbeats 4000000 in
theorem encode_any (w : World) {va : Value} {xs : List DOp} (ha : Dls w va xs) (hi : ∀ x ∈ xs, Int64 x.off ∧ Int64 x.len ∧ x.data.length ≤ 9000000000000000000) (hl : xs.length ≤ 100000) :
    Calls Try.prog 24 #[va] w (EncE (encodeD xs) w) := by
  have CK := Lib.hid (check_any w ha 65536 hi)
  obtain ⟨A, c, rfl, h1, h2⟩ := ha.form
  by_cases hc : checkD xs 65536 = 0
  · have hr : encodeD xs = ((putI xs.length).1 ++ xs.flatMap encX, 0) := if_pos hc
    rw [hr]
    rw [hc] at CK
    have HA := Lib.hid ha
    clear hr hc ha hi
    go_enter Try.func24, Try.ntmps24
    go_wp2_with fail
    refine CK.out.mono ?_
    rintro e w1 ⟨rfl, hb1⟩
    have hs1 := hb1.size
    have C1 := Lib.hid (enc1_any (w1.alloc (.cells #[.pointer none, .slice none 0 0] 57)) w1.heap.size w1.heap.size [] (xs.length : Int) (Bld.new w1 (Nat.le_refl _)) (by simp) (by simp))
    have K1 := Lib.hid hb1
    have hal := (Below.refl w1.heap.size w1).alloc (Nat.le_refl _) (.cells #[.pointer none, .slice none 0 0] 57)
    have K2 := Lib.hid hal
    have hsz : w1.heap.size + 1 ≤ (w1.alloc (.cells #[.pointer none, .slice none 0 0] 57)).heap.size := by simp
    clear CK hb1 hal
    go_wp2_with fail
    refine C1.out.mono ?_
    rintro e w2 ⟨rfl, hb2⟩
    rw [List.nil_append] at hb2
    have hss := hb2.bel.size
    have HBW := Lib.hid (K1.out.trans (K2.out.mono hs1))
    have hg1 : w1.heap.size < (w1.alloc (.cells #[.pointer none, .slice none 0 0] 57)).heap.size := by simp
    generalize w1.alloc (.cells #[.pointer none, .slice none 0 0] 57) = W0 at *
    generalize w1.heap.size = b at *
    have HB2 := Lib.hid hb2
    have hpl := putI_len (xs.length : Int)
    have HP0 : Hid ((putI (xs.length : Int)).1 ++ (xs.take 0).flatMap encX = (putI (xs.length : Int)).1) := by show _ = _; simp
    clear hb2 C1
    go_wp2
    go_loopw [23] (fun i wr => ∃ k : Nat, k ≤ xs.length ∧ i = .int .i64 k ∧ BldE b b ((putI (xs.length : Int)).1 ++ (xs.take k).flatMap encX) W0 wr) (fun i _ => xs.length - (intOf i).toNat)
    case atStart => exact ⟨0, by omega, rfl, by rw [HP0.out]; exact HB2.out⟩
    case round =>
      clear HB2 HP0 hss
      obtain ⟨k, hk, rfl, hB⟩ := hrel
      have hsr := hB.bel.size
      have hbw : Below w.heap.size w wr := HBW.out.trans (hB.bel.mono hs1)
      by_cases hlt : k < xs.length
      · obtain ⟨x, hx⟩ : ∃ x, xs[k]? = some x := ⟨_, List.getElem?_eq_getElem hlt⟩
        obtain ⟨b1, o1, rfl, c0, c1, c2⟩ := (HA.out.keep (Keeps.of_below hbw)).get hx
        have htl := encs_len (xs.take k)
        have htk : (xs.take k).length ≤ k := List.length_take_le _ _
        have HNX : Hid ((putI (xs.length : Int)).1 ++ (xs.take (k + 1)).flatMap encX = (putI (xs.length : Int)).1 ++ (xs.take k).flatMap encX ++ encX x) := by show _ = _; rw [take_succ_flat hx, List.append_assoc]
        have hPl : ((putI (xs.length : Int)).1 ++ (xs.take k).flatMap encX).length ≤ 6600000000 := by rw [List.length_append]; omega
        generalize (putI (xs.length : Int)).1 ++ (xs.take k).flatMap encX = P at *
        have hal := (Below.refl wr.heap.size wr).alloc (Nat.le_refl _) (.cells #[.int .i64 x.off, .int .i64 x.len, .string (strB x.data)] 28)
        have hbx := Blk.new wr #[.int .i64 x.off, .int .i64 x.len, .string (strB x.data)] 28
        have hB3 := hB.below hal (by omega) hsr
        have HCX := Lib.hid (fun w' => isCopy_any x w')
        have hEX : Hid (encX x = (putI x.len).1 ++ (if x.cp then (putI x.off).1 else (putT x.data).1)) := rfl
        have hi1 := putI_len x.len
        clear hx htl htk hB hbw hpl
        go_upto_region 10 with (fail)
        have hgb : wr.heap.size ≠ b := by have := hB3.bld.lt; omega
        have hs3 : W0.heap.size ≤ (wr.alloc (.cells #[.int .i64 x.off, .int .i64 x.len, .string (strB x.data)] 28)).heap.size := by simp; omega
        generalize wr.alloc (.cells #[.int .i64 x.off, .int .i64 x.len, .string (strB x.data)] 28) = w3 at *
        generalize wr.heap.size = gx at *
        clear c0 c1 c2 hal hsr
        have q1 : w3.cell? ⟨gx, 1, none⟩ = some (.int .i64 x.len) := hbx.cell (j := 1) rfl
        have C4 := Lib.hid (enc1_any w3 b b P x.len hB3.bld (by omega) (by omega))
        have HB3 := Lib.hid hB3
        clear hB3
        go_wp2_with fail
        refine C4.out.mono ?_
        rintro e w4 ⟨rfl, hb4⟩
        have kb4 : Blk w4 gx 28 #[.int .i64 x.off, .int .i64 x.len, .string (strB x.data)] := hb4.oth gx _ hbx (fun e => hgb (by injection e)) fun cs fz e => by injection e with _ e; exact absurd e (by decide)
        have hs4 := hb4.bel.size
        have hB4 := HB3.out.trans hb4
        have r0 : w4.cell? ⟨gx, 0, none⟩ = some (.int .i64 x.off) := kb4.cell (j := 0) rfl
        have r1 : w4.cell? ⟨gx, 1, none⟩ = some (.int .i64 x.len) := kb4.cell (j := 1) rfl
        have r2 : w4.cell? ⟨gx, 2, none⟩ = some (.string (strB x.data)) := kb4.cell (j := 2) rfl
        have HB4 := Lib.hid hB4
        clear hb4 hB4 HB3 C4 q1 hbx
        have CX := HCX.out w4
        unfold dV at CX
        by_cases hcp : x.cp
        · have hcb : cpB x = true := decide_eq_true hcp
          rw [hcb] at CX
          have CX' := Lib.hid CX
          have HEX : Hid (encX x = (putI x.len).1 ++ (putI x.off).1) := by show _ = _; rw [hEX.out, if_pos hcp]
          clear CX hcb hcp hEX HCX
          go_wp2_with fail
          refine CX'.out.mono ?_
          rintro e w5 ⟨rfl, hb5⟩
          have kb5 := kb4.keep hb5
          have hs5 := hb5.size
          have s0 : w5.cell? ⟨gx, 0, none⟩ = some (.int .i64 x.off) := kb5.cell (j := 0) rfl
          have hB5 := HB4.out.below hb5 (by omega) (by omega)
          have C6 := Lib.hid (enc1_any w5 b b (P ++ (putI x.len).1) x.off hB5.bld (by omega) (by rw [List.length_append]; omega))
          have HB5 := Lib.hid hB5
          clear hB5 hb5 CX' HB4 r0 r1 r2
          go_wp2_with fail
          refine C6.out.mono ?_
          rintro e w6 ⟨rfl, hb6⟩
          have HB6 := Lib.hid (HB5.out.trans hb6)
          clear hb6 HB5 C6 s0
          go_wp2
          go_roundw
          case rel => exact ⟨k + 1, by omega, by go_num, by rw [HNX.out, HEX.out, ← List.append_assoc]; exact HB6.out⟩
          case measure => simp [intOf]; omega
        · have hcb : cpB x = false := decide_eq_false hcp
          rw [hcb] at CX
          have CX' := Lib.hid CX
          have HEX : Hid (encX x = (putI x.len).1 ++ (putT x.data).1) := by show _ = _; rw [hEX.out, if_neg hcp]
          have hT := putT_len x.data
          clear CX hcb hcp hEX HCX
          go_wp2_with fail
          refine CX'.out.mono ?_
          rintro e w5 ⟨rfl, hb5⟩
          have kb5 := kb4.keep hb5
          have hs5 := hb5.size
          have s2 : w5.cell? ⟨gx, 2, none⟩ = some (.string (strB x.data)) := kb5.cell (j := 2) rfl
          have hB5 := HB4.out.below hb5 (by omega) (by omega)
          have HB5 := Lib.hid hB5
          have C6 := Lib.hid (putText_any x.data w5)
          clear hB5 hb5 CX' HB4 r0 r1 r2
          go_wp2_with fail
          refine C6.out.mono ?_
          rintro e w6 ⟨rfl, hb6⟩
          have hs6 := hb6.size
          have hB6 := HB5.out.below hb6 (by omega) (by omega)
          have C7 := Lib.hid (ws_any b b (P ++ (putI x.len).1) (strB (putT x.data).1) w6 hB6.bld (by rw [strB_size, List.length_append]; omega) (by omega))
          have HB6 := Lib.hid hB6
          clear hB6 hb6 C6 HB5 s2
          go_wp2_with fail
          refine C7.out.mono ?_
          rintro e w7 ⟨rfl, hb7, hB7, ko7⟩
          rw [strB_data] at hb7
          have HB7 := Lib.hid (HB6.out.trans ⟨hb7, hB7, ko7⟩)
          clear hb7 hB7 ko7 HB6 C7
          go_wp2
          go_roundw
          case rel => exact ⟨k + 1, by omega, by go_num, by rw [HNX.out, HEX.out, ← List.append_assoc]; exact HB7.out⟩
          case measure => simp [intOf]; omega
      · have hks : xs.take k = xs := List.take_of_length_le (by omega)
        rw [hks] at hB
        have CS := Lib.hid (str_any b b _ wr hB.bld (by omega))
        have HBR := Lib.hid hbw
        clear hB hks hbw
        go_wp2_with fail
        refine CS.out.mono ?_
        rintro e w3 ⟨rfl, _, hb3, _⟩
        have HE : EncE ((putI (xs.length : Int)).1 ++ xs.flatMap encX, 0) w (.returned (.tuple #[.string ⟨((putI (xs.length : Int)).1 ++ xs.flatMap encX).toArray⟩, .int .i64 0])) w3 := ⟨rfl, HBR.out.trans (hb3.mono (by omega))⟩
        have HE' := Lib.hid HE
        clear HE hb3 HBR CS
        go_wp2
        go_ret2
        exact HE'.out
  · have hr : encodeD xs = ([], checkD xs 65536) := if_neg hc
    rw [hr]
    have hne : ((checkD xs 65536) != 0) = true := by simpa using hc
    generalize checkD xs 65536 = q at *
    clear hr ha hi hc
    go_enter Try.func24, Try.ntmps24
    go_wp2_with fail
    refine CK.out.mono ?_
    rintro e w1 ⟨rfl, hb1⟩
    have HE := Lib.hid (show EncE ([], q) w (.returned (.tuple #[.string ⟨#[]⟩, .int .i64 q])) w1 from ⟨rfl, hb1⟩)
    clear hb1 CK
    go_wp2
    go_ret2
    exact HE.out
end Go.Proofs.Ytiioebpmfjipeaa
