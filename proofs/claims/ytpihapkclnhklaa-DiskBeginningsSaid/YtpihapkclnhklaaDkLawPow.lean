/- The walk of the law DiskPower: it returns true for any byte, list of operations and byte. -/
import Derived.Test.YtpihapkclnhklaaDkActs
import Derived.Test.YtpihapkclnhklaaDkLawTorn
namespace Go.Proofs.Ytpihapkclnhklaa
open Go.RowKit
attribute [local go_sem] Go.Instr.field Go.asAgg

theorem newD_valid {n z : Nat} (h1 : 1 ≤ n) (h2 : n ≤ 1000) (h3 : 1 ≤ z) (h4 : z ≤ 512) : Valid (newD n z) :=
  ⟨by simp only [newD]; omega, by simp only [newD]; omega, by simp only [newD, List.length_replicate]; omega, by simp only [newD, List.length_replicate]; omega,
    fun s hs => by simp only [newD] at hs ⊢; rw [List.eq_of_mem_replicate hs, nulB_size], fun w hw => (by simp only [newD] at hw; cases hw), by simp only [newD]; omega⟩
theorem shortB_len {l : List ActT} (h : shortB l = true) : l.length ≤ 12 := by
  unfold shortB at h
  rw [Bool.and_eq_true, decide_eq_true_eq] at h
  exact h.1

def PowRel (W : World) (l : List ActT) (n z g : Nat) (s t : Value) (wr : World) : Prop :=
  ∃ (k q r : Nat) (D : Dk) (A : Option Addr) (c : Nat) (P : Option Addr) (cp : Nat), k ≤ l.length ∧ t = .int .i64 k ∧ s = .int .i64 q ∧ q + r = n ∧ Hid (Valid D) ∧ Hid (D.left = (r : Int) ∧ D.size = (z : Int) ∧ D.secs.length = 3 ∧ D.pend.length ≤ k) ∧ Var wr g A c P cp D ∧ Below W.heap.size W wr
theorem PowRel.mk {W : World} {l : List ActT} {n z g : Nat} {s t : Value} {wr : World} (k q r : Nat) (D : Dk) (A : Option Addr) (c : Nat) (P : Option Addr) (cp : Nat) (h1 : k ≤ l.length) (h2 : t = .int .i64 k) (h3 : s = .int .i64 q) (h4 : q + r = n) (h5 : Hid (Valid D))
    (h6 : Hid (D.left = (r : Int) ∧ D.size = (z : Int) ∧ D.secs.length = 3 ∧ D.pend.length ≤ k)) (h7 : Var wr g A c P cp D) (h8 : Below W.heap.size W wr) : PowRel W l n z g s t wr := ⟨k, q, r, D, A, c, P, cp, h1, h2, h3, h4, h5, h6, h7, h8⟩

set_option maxRecDepth 100000 in
set_option maxHeartbeats 8000000 in
theorem law_power (W : World) (b : Int) (hb0 : 0 ≤ b) (hb1 : b ≤ 255) (v : Value) (l : List ActT) (hl : Acts W v l) (m : Int) (hm0 : 0 ≤ m) (hm1 : m ≤ 255) :
    Calls Try.prog 10 #[.int .u8 b, v, .int .u8 m] W fun e w' => e = .returned (.bool true) ∧ Below W.heap.size W w' := by
  obtain ⟨I, ci, rfl, hci, hmi⟩ := hl.form
  have cs := short_any W _ l hl
  go_enter Try.func10, Try.ntmps10
  go_wp2_with fail
  refine cs.mono ?_
  clear cs
  rintro e w3 ⟨rfl, hb5⟩
  cases hsh : shortB l
  · have aw := awake_any w3
    go_wp2_with fail
    refine aw.mono ?_
    clear aw
    rintro e w9 ⟨rfl, hb9⟩
    have hb10 := hb5.trans (hb9.mono hb5.size)
    go_wp2
    go_ret
    exact ⟨rfl, hb10⟩
  · have hl12 := shortB_len hsh
    clear hsh
    obtain ⟨i', rfl⟩ := Int.eq_ofNat_of_zero_le hb0
    obtain ⟨m', rfl⟩ := Int.eq_ofNat_of_zero_le hm0
    obtain ⟨z, hz⟩ : ∃ z, z = 1 + i' % 40 := ⟨_, rfl⟩
    obtain ⟨n, hn⟩ : ∃ n, n = m' % 13 := ⟨_, rfl⟩
    have hz1 : 1 ≤ z := by omega
    have hz2 : z ≤ 40 := by omega
    have hn1 : n ≤ 12 := by omega
    have hzz : 1 + (i' : Int) % 40 = (z : Int) := by omega
    have hnn : (m' : Int) % 13 = (n : Int) := by omega
    clear hz hn
    have cn := new_ok w3 3 z (by omega) (by omega) hz1 hz2
    go_wp2_with fail
    rw [show ((3 : Nat) : Int) = 3 from rfl] at cn
    refine cn.mono ?_
    clear cn hzz hb0 hb1
    rintro e w4 ⟨vs, vp, rfl, hD, hb6⟩
    have HV := Lib.hid (newD_valid (n := 3) (z := z) (by omega) (by omega) hz1 (by omega))
    have HF0 : Hid ((newD 3 z).size = (z : Int) ∧ (newD 3 z).secs.length = 3 ∧ (newD 3 z).pend.length = 0) := ⟨rfl, by simp [newD], rfl⟩
    generalize newD 3 z = d at *
    obtain ⟨A, c, P, cp, rfl, rfl, _, _, _, _⟩ := hD.form
    have hv := Var.new hD
    have hb7 := (hb5.trans (hb6.mono hb5.size))
    have hg := hb7.size
    have hb8 := hb7.alloc hg (.cells #[.int .i64 d.size, .slice A d.secs.length c, .slice P d.pend.length cp, .int .i64 d.left] 26)
    clear hb5 hb6 hb7 hD
    go_upto_region 7 with (fail)
    generalize w4.alloc (.cells #[.int .i64 d.size, .slice A d.secs.length c, .slice P d.pend.length cp, .int .i64 d.left] 26) = w5 at *
    generalize w4.heap.size = g at *
    obtain ⟨q0, q1, q2, q3, f0, f1, f2, f3⟩ := hv.facts
    go_upto_region 8 with (fail)
    have hv5 := hv.left (n : Int) (by omega) (by omega)
    have hb9 := hb8.setCell (p := ⟨g, 3, none⟩) hg (.int .i64 (n : Int))
    have HV5 : Hid (Valid { d with left := (n : Int) }) := Lib.hid (HV.out.left (l := (n : Int)) (by omega))
    have HF5 : Hid (({ d with left := (n : Int) } : Dk).left = (n : Int) ∧ ({ d with left := (n : Int) } : Dk).size = (z : Int) ∧ ({ d with left := (n : Int) } : Dk).secs.length = 3 ∧ ({ d with left := (n : Int) } : Dk).pend.length ≤ 0) := ⟨rfl, HF0.out.1, HF0.out.2.1, Nat.le_of_eq HF0.out.2.2⟩
    clear hv hb8 q0 q1 q2 q3 f0 f1 f2 f3 HF0
    generalize w5.setCell ⟨g, 3, none⟩ (.int .i64 (n : Int)) = w6 at *
    generalize ({ d with left := (n : Int) } : Dk) = d5 at *
    obtain ⟨q0, q1, q2, q3, _⟩ := hv5.facts
    have hl6 := hl.keep (Keeps.of_below hb9)
    go_wp2
    clear q0 q1 q2 q3 hl6
    try simp only [hnn]
    clear hnn
    go_loopw [10, 40] (fun s t wr => PowRel W l n z g s t wr) (fun _ t _ => l.length - (intOf t).toNat)
    case atStart => exact PowRel.mk (W := W) (l := l) (n := n) (z := z) (g := g) (0) (0) (n) (d5) (A) (c) (P) (cp) (by omega) (rfl) (rfl) (by omega) (HV5) (HF5) (hv5) (hb9)
    case round =>
      clear hv5 hb9 HV5 HF5
      obtain ⟨k, q, r, D, A, c, P, cp, hk, rfl, rfl, hqr, HVD, HF, hv, hb⟩ := hrel
      have HFs : Hid (D.left = (r : Int) ∧ D.size = (z : Int) ∧ D.secs.length = 3 ∧ D.pend.length ≤ k + 1) := ⟨HF.out.1, HF.out.2.1, HF.out.2.2.1, Nat.le_succ_of_le HF.out.2.2.2⟩
      by_cases hlt : k < l.length
      · obtain ⟨b, off, rfl, a1, a2, a3, a4, a5⟩ := (hl.keep (Keeps.of_below hb)).get hlt
        generalize l[k] = a at *
        have hv2 := hv.alloc (.cells #[.bool a.1, .int .i64 a.2.1, .string a.2.2] 50)
        have hba := Blk.new wr #[.bool a.1, .int .i64 a.2.1, .string a.2.2] 50
        have hb2 := hb.alloc hb.size (.cells #[.bool a.1, .int .i64 a.2.1, .string a.2.2] 50)
        clear hv hb
        go_upto_region 11 with (fail)
        clear a1 a2 a3
        generalize wr.alloc (.cells #[.bool a.1, .int .i64 a.2.1, .string a.2.2] 50) = w1 at *
        generalize wr.heap.size = ga at *
        have c1 := do_any w1 _ _ _ _ D hv2.dk (by have := HF.out.2.2.2; omega) a a4 a5
        have hDC := do_cases HVD.out HF.out.1 a
        have HDC := Lib.hid hDC
        clear hDC
        obtain ⟨q0, q1, q2, q3, _⟩ := hv2.facts
        have a1 := hba.cell (j := 0) rfl
        have a2 := hba.cell (j := 1) rfl
        have a3 := hba.cell (j := 2) rfl
        go_wp2_with fail
        clear a1 a2 a3 q0 q1 q2 q3 hba
        rcases HDC.out with ⟨e1, e2, e3, e4, e5, e6, e7⟩ | ⟨e1, e2, e3⟩ | e1
        · have HV2 := Lib.hid e3
          have HF2 : Hid ((doD D a).left = ((r - 1 : Nat) : Int) ∧ (doD D a).size = (z : Int) ∧ (doD D a).secs.length = 3 ∧ (doD D a).pend.length ≤ k + 1) := ⟨e4, e5.trans HF.out.2.1, e6.trans HF.out.2.2.1, by have := HF.out.2.2.2; omega⟩
          clear e4 e5 e6 e7
          rw [e1] at c1
          clear e1 e3 HDC
          generalize doD D a = D2 at *
          refine c1.mono ?_
          clear c1
          rintro e w2 ⟨vs2, vp2, rfl, hD2, hb3⟩
          obtain ⟨A2, c2, P2, cp2, rfl, rfl, _, _, _, _⟩ := hD2.form
          have hvk := hv2.keep hb3
          have hne : g ≠ w2.heap.size := by have := hvk.blk.lt; omega
          have hv3 := hvk.alloc (.cells #[.int .i64 D2.size, .slice A2 D2.secs.length c2, .slice P2 D2.pend.length cp2, .int .i64 D2.left] 26)
          have hx := Var.new hD2
          have hb4 := hb2.trans (hb3.mono hb2.size)
          have hb5 := hb4.alloc hb4.size (.cells #[.int .i64 D2.size, .slice A2 D2.secs.length c2, .slice P2 D2.pend.length cp2, .int .i64 D2.left] 26)
          clear hvk hv2 hb2 hb3 hb4 hD2
          go_upto_region 12 with (fail)
          generalize w2.alloc (.cells #[.int .i64 D2.size, .slice A2 D2.secs.length c2, .slice P2 D2.pend.length cp2, .int .i64 D2.left] 26) = w3 at *
          generalize w2.heap.size = gx at *
          obtain ⟨q0, q1, q2, q3, f0, f1, f2, f3⟩ := hv3.facts
          obtain ⟨p0, p1, p2, p3, _⟩ := hx.facts
          have hgt : ¬ (n : Int) < (q : Int) + 1 := by omega
          have hxl : (D2.left != (n : Int) - ((q : Int) + 1)) = false := by rw [bne_eq_false_iff_eq]; have := HF2.out.1; omega
          have hvx := hv3.assign hx.dk
          have hbx := put4_below (A := A2) (c := c2) (P := P2) (cp := cp2) (d := D2) hb5 hg
          go_wp2
          go_roundw
          case rel => exact PowRel.mk (W := W) (l := l) (n := n) (z := z) (g := g) (k + 1) (q + 1) (r - 1) (D2) (A2) (c2) (P2) (cp2) (by omega) (by go_num) (by go_num) (by omega) (HV2) (HF2) (hvx) (hbx)
          case measure => simp [intOf]; omega
        · rw [e1, e3] at c1
          clear e1 e3 HDC
          refine c1.mono ?_
          clear c1
          rintro e w2 ⟨vs2, vp2, rfl, hD2, hb3⟩
          obtain ⟨A2, c2, P2, cp2, rfl, rfl, _, _, _, _⟩ := hD2.form
          have hvk := hv2.keep hb3
          have hne : g ≠ w2.heap.size := by have := hvk.blk.lt; omega
          have hv3 := hvk.alloc (.cells #[.int .i64 D.size, .slice A2 D.secs.length c2, .slice P2 D.pend.length cp2, .int .i64 D.left] 26)
          have hx := Var.new hD2
          have hb4 := hb2.trans (hb3.mono hb2.size)
          have hb5 := hb4.alloc hb4.size (.cells #[.int .i64 D.size, .slice A2 D.secs.length c2, .slice P2 D.pend.length cp2, .int .i64 D.left] 26)
          clear hvk hv2 hb2 hb3 hb4 hD2
          go_upto_region 12 with (fail)
          generalize w2.alloc (.cells #[.int .i64 D.size, .slice A2 D.secs.length c2, .slice P2 D.pend.length cp2, .int .i64 D.left] 26) = w3 at *
          generalize w2.heap.size = gx at *
          obtain ⟨q0, q1, q2, q3, _⟩ := hv3.facts
          obtain ⟨p0, p1, p2, p3, _⟩ := hx.facts
          have hqn : ((q : Int) != (n : Int)) = false := by rw [bne_eq_false_iff_eq]; omega
          have cs := same_any _ _ _ _ _ D hx.dk hv3.dk
          go_wp2_with fail
          refine cs.mono ?_
          clear cs q0 q1 q2 q3 p0 p1 p2 p3
          rintro e w4 ⟨rfl, hb6⟩
          have hv4 := hv3.keep hb6
          have hb7 := hb5.trans (hb6.mono hb5.size)
          clear hv3 hx hb5 hb6
          go_wp2
          go_roundw
          case rel => exact PowRel.mk (W := W) (l := l) (n := n) (z := z) (g := g) (k + 1) (q) (r) (D) (A) (c) (P) (cp) (by omega) (by go_num) (rfl) (hqr) (HVD) (HFs) (hv4) (hb7)
          case measure => simp [intOf]; omega
        · clear HDC
          rcases e1 with e1 | e1
          all_goals
            rw [e1] at c1
            clear e1
            generalize doD D a = D2 at *
            refine c1.mono ?_
            clear c1
            rintro e w2 ⟨vs2, vp2, rfl, hD2, hb3⟩
            obtain ⟨A2, c2, P2, cp2, rfl, rfl, _, _, _, _⟩ := hD2.form
            have hvk := hv2.keep hb3
            have hne : g ≠ w2.heap.size := by have := hvk.blk.lt; omega
            have hv3 := hvk.alloc (.cells #[.int .i64 D2.size, .slice A2 D2.secs.length c2, .slice P2 D2.pend.length cp2, .int .i64 D2.left] 26)
            have hx := Var.new hD2
            have hb4 := hb2.trans (hb3.mono hb2.size)
            have hb5 := hb4.alloc hb4.size (.cells #[.int .i64 D2.size, .slice A2 D2.secs.length c2, .slice P2 D2.pend.length cp2, .int .i64 D2.left] 26)
            clear hvk hv2 hb2 hb3 hb4 hD2
            go_upto_region 12 with (fail)
            generalize w2.alloc (.cells #[.int .i64 D2.size, .slice A2 D2.secs.length c2, .slice P2 D2.pend.length cp2, .int .i64 D2.left] 26) = w3 at *
            generalize w2.heap.size = gx at *
            clear hx
            go_wp2
            go_roundw
            case rel => exact PowRel.mk (W := W) (l := l) (n := n) (z := z) (g := g) (k + 1) (q) (r) (D) (A) (c) (P) (cp) (by omega) (by go_num) (rfl) (hqr) (HVD) (HFs) (hv3) (hb5)
            case measure => simp [intOf]; omega
      · by_cases hqn : (q : Int) < (n : Int)
        · clear hv
          have aw := awake_any wr
          go_wp2_with fail
          refine aw.mono ?_
          clear aw
          rintro e w9 ⟨rfl, hb9⟩
          have hb10 := hb.trans (hb9.mono hb.size)
          go_wp2
          go_ret
          exact ⟨rfl, hb10⟩
        · have hl0 : D.left = 0 := by have := HF.out.1; omega
          have hpl : D.pend.length ≤ 100000 := by have := HF.out.2.2.2; omega
          have hrz := rd_size HVD.out (i := 1) (by have := HF.out.2.2.1; omega)
          rw [show ((1 : Nat) : Int) = 1 from rfl] at hrz
          have HSY := Lib.hid (sy_lost (chk_zero.2 HVD.out) hl0)
          clear hl0
          have hcl := (cutD_len HVD.out []).2.2
          obtain ⟨q12_0, q12_1, q12_2, q12_3, q12_4, q12_5, q12_6, q12_7⟩ := hv.facts
          go_wp2_with fail
          have c11 := read_in _ _ _ D hv.dk 1 (chk_zero.2 HVD.out) (by have := HF.out.2.2.1; omega) hpl
          rw [show ((1 : Nat) : Int) = 1 from rfl] at c11
          refine c11.mono ?_
          clear c11
          clear q12_0 q12_1 q12_2 q12_3 q12_4 q12_5 q12_6 q12_7
          rintro e w11 ⟨rfl, hb11⟩
          have f13 := hv.keep hb11
          have hB14 := hb.trans (hb11.mono (by first | exact hb.size | (have := hb.size; omega)))
          clear hv hb hb11
          have hrz2 : (((rdB D 1).size : Int) == D.size) = true := by rw [hrz]; simp
          clear hrz
          generalize rdB D 1 = sr at *
          obtain ⟨q17_0, q17_1, q17_2, q17_3, q17_4, q17_5, q17_6, q17_7⟩ := f13.facts
          go_wp2_with fail
          have c16 := sync_any _ _ _ D f13.dk
          rw [HSY.out.1, HSY.out.2] at c16
          refine c16.mono ?_
          clear c16
          clear q17_0 q17_1 q17_2 q17_3 q17_4 q17_5 q17_6 q17_7
          rintro e w16 ⟨vs15, vp15, rfl, hD15, hb16⟩
          have f18 := f13.keep hb16
          have hB19 := hB14.trans (hb16.mono (by first | exact hB14.size | (have := hB14.size; omega)))
          clear f13 hB14 hb16
          obtain ⟨A15, cc15, P15, cp15, rfl, rfl, _, _, _, _⟩ := hD15.form
          have g20le : W.heap.size ≤ w16.heap.size := by first | exact hB19.size | (have := hB19.size; omega)
          have g20lt := f18.blk.lt
          have f21 := f18.alloc (.cells #[.int .i64 D.size, .slice A15 D.secs.length cc15, .slice P15 D.pend.length cp15, .int .i64 D.left] 26)
          have f22 := Var.new hD15
          have hB23 := hB19.alloc (by first | exact hB19.size | (have := hB19.size; omega)) (.cells #[.int .i64 D.size, .slice A15 D.secs.length cc15, .slice P15 D.pend.length cp15, .int .i64 D.left] 26)
          clear f18 hB19 hD15
          go_upto_region 26 with (fail)
          generalize w16.alloc (.cells #[.int .i64 D.size, .slice A15 D.secs.length cc15, .slice P15 D.pend.length cp15, .int .i64 D.left] 26) = w20 at *
          generalize w16.heap.size = g20 at *
          obtain ⟨q25_0, q25_1, q25_2, q25_3, q25_4, q25_5, q25_6, q25_7⟩ := f21.facts
          obtain ⟨q26_0, q26_1, q26_2, q26_3, q26_4, q26_5, q26_6, q26_7⟩ := f22.facts
          go_wp2_with fail
          have c24 := same_any _ _ _ _ _ D f22.dk f21.dk
          refine c24.mono ?_
          clear c24
          clear q25_0 q25_1 q25_2 q25_3 q25_4 q25_5 q25_6 q25_7 q26_0 q26_1 q26_2 q26_3 q26_4 q26_5 q26_6 q26_7
          rintro e w24 ⟨rfl, hb24⟩
          have f27 := f21.keep hb24
          have f28 := f22.keep hb24
          have hB29 := hB23.trans (hb24.mono (by first | exact hB23.size | (have := hB23.size; omega)))
          clear f21 f22 hB23 hb24
          generalize hDC : cutD D [] = DC at *
          have hcl2 : (DC.left == (-1 : Int)) = true := by rw [hcl]; rfl
          clear hcl
          obtain ⟨q31_0, q31_1, q31_2, q31_3, q31_4, q31_5, q31_6, q31_7⟩ := f27.facts
          obtain ⟨q32_0, q32_1, q32_2, q32_3, q32_4, q32_5, q32_6, q32_7⟩ := f28.facts
          go_wp2_with fail
          have c30 := cut_any _ _ _ (.slice none 0 0) D f27.dk hpl [] (Sl.nil _ _ _)
          rw [hDC] at c30
          refine c30.mono ?_
          clear c30
          clear q31_0 q31_1 q31_2 q31_3 q31_4 q31_5 q31_6 q31_7 q32_0 q32_1 q32_2 q32_3 q32_4 q32_5 q32_6 q32_7
          rintro e w30 ⟨vsC, vpC, rfl, hDC2, hb30⟩
          have f33 := f27.keep hb30
          have f34 := f28.keep hb30
          have hB35 := hB29.trans (hb30.mono (by first | exact hB29.size | (have := hB29.size; omega)))
          clear f27 f28 hB29 hb30
          obtain ⟨A9, c9, P9, cp9, rfl, rfl, _, _, _, _⟩ := hDC2.form
          obtain ⟨q37_0, q37_1, q37_2, q37_3, q37_4, q37_5, q37_6, q37_7⟩ := f33.facts
          obtain ⟨q38_0, q38_1, q38_2, q38_3, q38_4, q38_5, q38_6, q38_7⟩ := f34.facts
          go_wp2_with fail
          have c36 := awake_any w30
          refine c36.mono ?_
          clear c36
          clear q37_0 q37_1 q37_2 q37_3 q37_4 q37_5 q37_6 q37_7 q38_0 q38_1 q38_2 q38_3 q38_4 q38_5 q38_6 q38_7
          rintro e w36 ⟨rfl, hb36⟩
          have f39 := f33.keep hb36
          have f40 := f34.keep hb36
          have hB41 := hB35.trans (hb36.mono (by first | exact hB35.size | (have := hB35.size; omega)))
          clear f33 f34 hB35 hb36
          go_wp2
          go_ret
          exact ⟨rfl, hB41⟩
end Go.Proofs.Ytpihapkclnhklaa
