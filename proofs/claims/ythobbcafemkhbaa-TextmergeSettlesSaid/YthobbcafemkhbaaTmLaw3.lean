/- The walk of the law TextmergeSettles. -/
import Derived.Test.YthobbcafemkhbaaTmGood
import Derived.Test.YthobbcafemkhbaaTmCount
namespace Go.Proofs.Ythobbcafemkhbaa
open Go.RowKit

theorem wf8 {z : Int} (h : (Lit.int .u8 z).wf = true) : 0 ≤ z ∧ z ≤ 255 := by
  simp only [Lit.wf, Bool.and_eq_true, decide_eq_true_eq] at h
  exact h
theorem settle_both {L : List Rg} {i j s t : Nat} (h : i < j) (hj : j < cntL L) : stlF (j - 1) t 0 (stlF i s 0 L []) [] = stlF i s 0 (stlF j t 0 L []) [] := stl_comm' s t i j L h hj

set_option maxRecDepth 100000 in
set_option maxHeartbeats 1000000 in
theorem law_settles (w : World) (a : ByteArray) (ha : a.size ≤ 9223372036854775807) (b : ByteArray) (hb : b.size ≤ 9223372036854775807) (c : ByteArray) (hc : c.size ≤ 9223372036854775807)
    (z3 : Int) (z3l : 0 ≤ z3) (z3h : z3 ≤ 255) (z4 : Int) (z4l : 0 ≤ z4) (z4h : z4 ≤ 255) (z5 : Int) (z5l : 0 ≤ z5) (z5h : z5 ≤ 255) (z6 : Int) (z6l : 0 ≤ z6) (z6h : z6 ≤ 255) :
    Calls Try.prog 7 #[.string a, .string b, .string c, .int .u8 z3, .int .u8 z4, .int .u8 z5, .int .u8 z6] w fun e w' => e = .returned (.bool true) ∧ Below w.heap.size w w' := by
  obtain ⟨p3, rfl⟩ : ∃ p : Nat, z3 = p := ⟨z3.toNat, by omega⟩
  obtain ⟨p4, rfl⟩ : ∃ p : Nat, z4 = p := ⟨z4.toNat, by omega⟩
  obtain ⟨p5, rfl⟩ : ∃ p : Nat, z5 = p := ⟨z5.toNat, by omega⟩
  obtain ⟨p6, rfl⟩ : ∃ p : Nat, z6 = p := ⟨z6.toNat, by omega⟩
  have cf := Lib.hid (few_lit3 w a b c)
  have AW := Lib.hid awake19_any
  cases hf : (few1 a && (few1 b && few1 c))
  · rw [hf] at cf
    clear hf
    go_enter Try.func7, Try.ntmps7
    go_wp2_with fail
    refine cf.out.mono ?_
    rintro e w1 ⟨rfl, b1⟩
    go_wp2_with fail
    refine (AW.out w1).mono ?_
    rintro e w2 ⟨rfl, b2⟩
    have hB := b1.trans (b2.mono b1.size)
    go_wp2
    go_ret
    exact ⟨rfl, hB⟩
  · rw [hf] at cf
    rw [Bool.and_eq_true, Bool.and_eq_true] at hf
    obtain ⟨fa, fb, fc⟩ := hf
    have cm := Lib.hid (merge_len fa fb fc)
    have hg := Good.merge fa fb fc
    clear fa fb fc
    generalize mergeL (lns a) (lns b) (lns c) = full at *
    have hn1 : cntL full ≤ 41 := Nat.le_trans (cntL_le full) hg.n
    have G := Lib.hid hg
    clear hg
    obtain ⟨n, hn⟩ : ∃ n, cntL full = n := ⟨_, rfl⟩
    have HN := Lib.hid hn
    rw [hn] at hn1
    clear hn
    go_enter Try.func7, Try.ntmps7
    go_wp2_with fail
    refine cf.out.mono ?_
    rintro e w1 ⟨rfl, b1⟩
    go_wp2_with fail
    refine (cm.out w1).mono ?_
    rintro e w2 ⟨v2, rfl, r2, b2⟩
    have hB := b1.trans (b2.mono b1.size)
    have cn := conflicts_any w2 v2 full r2
    rw [HN.out] at cn
    have CN := Lib.hid cn
    obtain ⟨A2, c2, rfl, _, _⟩ := r2.form
    clear cf cm b1 b2 cn
    go_wp2_with fail
    refine CN.out.mono ?_
    rintro e w3 ⟨rfl, b3⟩
    have hB := hB.trans (b3.mono hB.size)
    have r3 := r2.keep (Keeps.of_below b3)
    clear CN r2 b3
    by_cases hn0 : n = 0
    · subst hn0
      have cc := good_clean G.out w3 _ r3
      rw [HN.out] at cc
      have CC := Lib.hid cc
      clear cc
      go_wp2_with fail
      refine CC.out.mono ?_
      rintro e w4 ⟨⟨s, rfl⟩, b4⟩
      have hB := hB.trans (b4.mono hB.size)
      clear CC b4 r3
      go_wp2_with fail
      refine (AW.out w4).mono ?_
      rintro e w5 ⟨rfl, b5⟩
      have hB := hB.trans (b5.mono hB.size)
      go_wp2
      go_ret
      exact ⟨rfl, hB⟩
    · have hnn : ((n : Int) == 0) = false := by rw [beq_eq_false_iff_ne]; omega
      have hnz : ¬ (n : Int) = 0 := by omega
      have hi : ((p3 : Int) % (n : Int)) = ((p3 % n : Nat) : Int) := rfl
      have hj : ((p4 : Int) % (n : Int)) = ((p4 % n : Nat) : Int) := rfl
      have hs : ((p5 : Int) % 3) = ((p5 % 3 : Nat) : Int) := rfl
      have ht : ((p6 : Int) % 3) = ((p6 % 3 : Nat) : Int) := rfl
      have hi1 : p3 % n < n := Nat.mod_lt _ (by omega)
      have hj1 : p4 % n < n := Nat.mod_lt _ (by omega)
      have hs1 : p5 % 3 < 3 := Nat.mod_lt _ (by omega)
      have ht1 : p6 % 3 < 3 := Nat.mod_lt _ (by omega)
      generalize p3 % n = i at hi hi1
      generalize p4 % n = j at hj hj1
      generalize p5 % 3 = s at hs hs1
      generalize p6 % 3 = t at ht ht1
      have hNo := HN.out
      have S1 := Lib.hid (good_settle G.out (i := i) (s := s) (by omega) (by omega))
      have S2 := Lib.hid (good_settle G.out (i := j) (s := t) (by omega) (by omega))
      have co : cntL (stlF i s 0 full []) + 1 = cntL full := good_count (by omega)
      have cj : cntL (stlF j t 0 full []) + 1 = cntL full := good_count (by omega)
      have G1 := Lib.hid (G.out.stl i s)
      have G2 := Lib.hid (G.out.stl j t)
      have HB : Hid (i < j → stlF (j - 1) t 0 (stlF i s 0 full []) [] = stlF i s 0 (stlF j t 0 full []) []) := fun h => settle_both h (by omega)
      generalize stlF i s 0 full [] = once at *
      generalize stlF j t 0 full [] = other at *
      have CO := Lib.hid co
      have CJ := Lib.hid cj
      have hm : ((cntL once : Nat) : Int) = (n : Int) - 1 := by omega
      have HM := Lib.hid hm
      clear co cj hm hNo
      go_wp2
      go_quiet (fail)
      simp only [hi, hj]
      have hB := below_drewN' hB nq
      have r3 := r3.keep (Keeps.drewN w3 nq)
      generalize w3.drewN nq = w4 at *
      go_wp2_with fail
      refine (S1.out w4 _ r3).mono ?_
      rintro e w5 ⟨v5, rfl, r5, b5⟩
      have hB := hB.trans (b5.mono hB.size)
      have r3 := r3.keep (Keeps.of_below b5)
      have cn := conflicts_any w5 v5 once r5
      obtain ⟨m, hme⟩ : ∃ m, cntL once = m := ⟨_, rfl⟩
      rw [hme] at HM CO cn
      have HME := Lib.hid hme
      have CN := Lib.hid cn
      clear hme cn
      obtain ⟨A5, c5, rfl, _, _⟩ := r5.form
      clear S1 b5
      go_wp2_with fail
      refine CN.out.mono ?_
      rintro e w6 ⟨rfl, b6⟩
      have hB := hB.trans (b6.mono hB.size)
      have r3 := r3.keep (Keeps.of_below b6)
      have r5 := r5.keep (Keeps.of_below b6)
      clear CN b6
      have hm : ((m : Nat) : Int) = (n : Int) - 1 := HM.out
      have hm2 : ((m : Int) == (n : Int) - 1) = true := by rw [beq_iff_eq]; exact hm
      by_cases hij : i < j
      · have hNo := HN.out
        have hCj := CJ.out
        have e1 : ((j - 1 : Nat) : Int) = (j : Int) - 1 := by omega
        have S3 := good_settle G1.out (i := j - 1) (s := t) (by rw [HME.out]; omega) (by omega)
        rw [e1, HB.out hij] at S3
        have S3 := Lib.hid S3
        have S4 := Lib.hid (good_settle G2.out (i := i) (s := s) (by omega) (by omega))
        have hb : cntL (stlF i s 0 other []) + 1 = cntL other := good_count (by omega)
        have HQ : Hid (((cntL (stlF i s 0 other []) : Nat) : Int) = (n : Int) - 2) := by show _ = _; omega
        clear hb hCj hNo e1
        generalize stlF i s 0 other [] = both at *
        obtain ⟨q, hq⟩ : ∃ q, cntL both = q := ⟨_, rfl⟩
        rw [hq] at HQ
        have HQE := Lib.hid hq
        clear hq
        go_wp2_with fail
        refine (S3.out w6 _ r5).mono ?_
        rintro e w7 ⟨v7, rfl, r7, b7⟩
        have hB := hB.trans (b7.mono hB.size)
        have r3 := r3.keep (Keeps.of_below b7)
        obtain ⟨A7, c7, rfl, _, _⟩ := r7.form
        clear S3 b7 r5
        go_wp2_with fail
        refine (S2.out w7 _ r3).mono ?_
        rintro e w8 ⟨v8, rfl, r8, b8⟩
        have hB := hB.trans (b8.mono hB.size)
        have r7 := r7.keep (Keeps.of_below b8)
        obtain ⟨A8, c8, rfl, _, _⟩ := r8.form
        clear S2 b8 r3
        go_wp2_with fail
        refine (S4.out w8 _ r8).mono ?_
        rintro e w9 ⟨v9, rfl, r9, b9⟩
        have hB := hB.trans (b9.mono hB.size)
        have r7 := r7.keep (Keeps.of_below b9)
        have cs := rgSame_any w9 _ _ _ _ r7 r9
        rw [eqB_true rfl] at cs
        have CS := Lib.hid cs
        obtain ⟨A9, c9, rfl, _, _⟩ := r9.form
        clear S4 b9 r8 cs
        go_wp2_with fail
        refine CS.out.mono ?_
        rintro e w10 ⟨rfl, nn, rfl⟩
        have hB := below_drewN' hB nn
        have r7 := r7.keep (Keeps.drewN w9 nn)
        generalize w9.drewN nn = w10 at *
        have cq := conflicts_any w10 _ both r7
        rw [HQE.out] at cq
        have CQ := Lib.hid cq
        have hq2 : ((q : Int) == (n : Int) - 2) = true := by rw [beq_iff_eq]; exact HQ.out
        have hqv := HQ.out
        clear cq CS
        go_wp2_with fail
        refine CQ.out.mono ?_
        rintro e w11 ⟨rfl, b11⟩
        have hB := hB.trans (b11.mono hB.size)
        clear CQ b11 r7
        go_wp2_with fail
        refine (AW.out w11).mono ?_
        rintro e w12 ⟨rfl, b12⟩
        have hB := hB.trans (b12.mono hB.size)
        go_wp2
        go_ret
        exact ⟨rfl, hB⟩
      · have hij2 : decide ((j : Int) ≤ (i : Int)) = true := by rw [decide_eq_true_eq]; omega
        go_wp2_with fail
        refine (AW.out w6).mono ?_
        rintro e w7 ⟨rfl, b7⟩
        have hB := hB.trans (b7.mono hB.size)
        clear b7 r3 r5
        go_wp2
        go_ret
        exact ⟨rfl, hB⟩
end Go.Proofs.Ythobbcafemkhbaa
