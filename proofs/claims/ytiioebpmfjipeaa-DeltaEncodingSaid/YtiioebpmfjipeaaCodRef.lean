/- The reference's codec: PutInt, PutText, GetInt, GetText, number. -/
import Derived.Test.YtiioebpmfjipeaaCodPutR
import Derived.Test.YtiioebpmfjipeaaDeDec
namespace Go.Proofs.Ytiioebpmfjipeaa
set_option linter.unusedVariables false
set_option linter.unusedSimpArgs false
open Go.RowKit

set_option maxRecDepth 100000 in
set_option maxHeartbeats 1000000 in
theorem rputInt_any (n : Int) (w : World) : Calls Try.prog 44 #[.int .i64 n] w fun e w' => e = .returned (.tuple #[.string (strB (putI n).1), .int .i64 (putI n).2]) ∧ Below w.heap.size w w' := by
  by_cases h : 0 ≤ n ∧ n ≤ 1099511627776
  · have hp : putI n = (digL n.toNat, 0) := if_pos h
    obtain ⟨m, rfl⟩ : ∃ m : Nat, n = m := ⟨n.toNat, by omega⟩
    rw [hp, Int.toNat_natCast]
    have h1 : ¬ (m : Int) < 0 := by omega
    have h2 : ¬ (1099511627776 : Int) < (m : Int) := by omega
    have CP := Lib.hid (rput_any m w (by omega))
    clear hp h
    go_enter Try.func44, Try.ntmps44
    go_wp2_with fail
    refine CP.out.mono ?_
    rintro e w1 ⟨rfl, hb⟩
    have HB := Lib.hid hb
    clear CP hb
    go_wp2
    go_ret2
    exact ⟨rfl, HB.out⟩
  · have hp : putI n = ([], 2) := if_neg h
    rw [hp]
    by_cases h0 : n < 0
    · clear hp h
      go_enter Try.func44, Try.ntmps44
      go_wp2
      go_ret2
      exact ⟨rfl, Below.refl _ _⟩
    · have h1 : (1099511627776 : Int) < n := by omega
      clear hp h
      go_enter Try.func44, Try.ntmps44
      go_wp2
      go_ret2
      exact ⟨rfl, Below.refl _ _⟩
set_option maxRecDepth 100000 in
set_option maxHeartbeats 1000000 in
theorem rputText_any (s : List UInt8) (w : World) (hl : s.length ≤ 1000000000000) : Calls Try.prog 45 #[.string (strB s)] w fun e w' => e = .returned (.tuple #[.string (strB (putT s).1), .int .i64 (putT s).2]) ∧ Below w.heap.size w w' := by
  have hz := strB_size s
  by_cases h : s.length ≤ 65536
  · have hp : putT s = (digL s.length ++ s, 0) := if_pos h
    rw [hp]
    have hd : ¬ (65536 : Int) < ((strB s).size : Int) := by rw [hz]; omega
    have CP := rput_any (strB s).size w (by omega)
    have hdl := digL_len s.length 8 (by omega)
    rw [hz] at CP
    have CP' := Lib.hid CP
    have hap := strB_append (digL s.length) s
    have hsz : ¬ 9223372036854775807 < (strB (digL s.length)).size + (strB s).size := by rw [strB_size, strB_size]; omega
    clear hp h hdl CP
    rw [hz] at hd
    go_enter Try.func45, Try.ntmps45
    go_wp2_with fail
    refine CP'.out.mono ?_
    rintro e w1 ⟨rfl, hb⟩
    have HB := Lib.hid hb
    clear CP' hb
    go_wp2
    go_ret2
    exact ⟨rfl, HB.out⟩
  · have hp : putT s = ([], 4) := if_neg h
    rw [hp]
    have hd : (65536 : Int) < ((strB s).size : Int) := by rw [hz]; omega
    clear hp h hz
    go_enter Try.func45, Try.ntmps45
    go_wp2
    go_ret2
    exact ⟨rfl, Below.refl _ _⟩

set_option maxRecDepth 100000 in
set_option maxHeartbeats 4000000 in
theorem rgetInt_any (s : ByteArray) (w : World) : Calls Try.prog 62 #[.string s] w fun e w' => e = gI (getI s.data.toList) ∧ Drawn w w' := by
  have HL : Hid (s.data.toList.length = s.size) := rfl
  have HR0 : Hid (getF (6 - 0) 0 0 1 (s.data.toList.drop 0) = getI s.data.toList) := rfl
  have HU0 : Hid (P128 0 1) := rfl
  generalize getI s.data.toList = r at *
  go_enter Try.func62, Try.ntmps62
  go_wp2
  go_loopw [5, 6, 7] (fun ni ui ii wr => ∃ i n u : Nat, i ≤ 6 ∧ i ≤ s.size ∧ ni = .int .i64 n ∧ ui = .int .i64 u ∧ ii = .int .i64 i ∧ n < u ∧ Hid (P128 i u) ∧ Hid (getF (6 - i) i n u (s.data.toList.drop i) = r) ∧ Drawn w wr) (fun _ _ ii _ => 6 - (intOf ii).toNat)
  case atStart => exact ⟨0, 0, 1, by omega, by omega, rfl, rfl, rfl, by omega, HU0, HR0, Drawn.refl _⟩
  case round =>
    clear HR0 HU0
    obtain ⟨i, n, u, hi, hsi, rfl, rfl, rfl, hn, HU, HR, hd0⟩ := hrel
    have HDr := Lib.hid hd0
    clear hd0
    by_cases h6 : i < 6
    · have hu : u ≤ 34359738368 := by rw [show u = 128 ^ i from HU.out]; exact pow128 (by omega)
      by_cases hs : i < s.size
      · have hd := s[i].toNat_lt
        obtain ⟨r1, hr1⟩ : ∃ r1, r1 = s[i].toNat % 128 := ⟨_, rfl⟩
        have hr2 : r1 < 128 := by omega
        have wm : ((s[i].toNat : Int)).tmod 128 = (r1 : Int) := by rw [Int.tmod_eq_emod_of_nonneg (by omega)]; omega
        obtain ⟨q, hqe⟩ : ∃ q, q = u * r1 := ⟨_, rfl⟩
        have hq : q ≤ 127 * u := by rw [hqe, Nat.mul_comm 127]; exact Nat.mul_le_mul_left _ (by omega)
        have hw2 : IntKind.i64.wrap ((u : Int) * (r1 : Int)) = (q : Int) := by rw [← Int.natCast_mul, ← hqe, i64w (by omega) (by omega)]
        have hw3 : IntKind.i64.wrap ((n : Int) + (q : Int)) = ((n + q : Nat) : Int) := by rw [← Int.natCast_add, i64w (by omega) (by omega)]
        have hw4 : IntKind.i64.wrap ((u : Int) * 128) = ((u * 128 : Nat) : Int) := by rw [i64w (by omega) (by omega)]; omega
        have hne : ((i : Int) == (s.size : Int)) = false := by simp; omega
        by_cases h128 : 128 ≤ s[i].toNat
        · have hqs : (s[i].toNat - 128) * u = q := by rw [hqe, Nat.mul_comm]; congr 1; omega
          have HR3 : Hid (getF (6 - (i + 1)) (i + 1) (n + q) (u * 128) (s.data.toList.drop (i + 1)) = r) := by
            show _ = _
            rw [← HR.out, show 6 - i = (5 - i) + 1 by omega, getF_at (show i < s.data.toList.length from hs)]
            show _ = if 128 ≤ s[i].toNat then getF (5 - i) (i + 1) (n + (s[i].toNat - 128) * u) (u * 128) (s.data.toList.drop (i + 1)) else _
            rw [if_pos h128, hqs, show 6 - (i + 1) = 5 - i by omega]
          have h128' : ¬ (s[i].toNat : Int) < 128 := by omega
          have HU2 : Hid (P128 (i + 1) (u * 128)) := by show _ = _; rw [show u = 128 ^ i from HU.out, Nat.pow_succ]
          have hn2 : n + q < u * 128 := by omega
          clear HR HU hqe hr1 hqs
          go_wp2
          go_roundw
          case rel => exact ⟨i + 1, n + q, u * 128, by omega, by omega, by go_num, by go_num, by go_num, hn2, HU2, HR3, HDr.out⟩
          case measure => simp [intOf]; omega
        · have hqs : s[i].toNat * u = q := by rw [hqe, Nat.mul_comm]; congr 1; omega
          have h128' : (s[i].toNat : Int) < 128 := by omega
          have HR3 : Hid ((if (s[i].toNat = 0 ∧ 0 < i) ∨ 1099511627776 < n + q then (0, 0, 13) else (n + q, i + 1, 0)) = r) := by
            show _ = _
            rw [← HR.out, show 6 - i = (5 - i) + 1 by omega, getF_at (show i < s.data.toList.length from hs)]
            show _ = if 128 ≤ s[i].toNat then _ else if (s[i].toNat = 0 ∧ 0 < i) ∨ 1099511627776 < n + s[i].toNat * u then (0, 0, 13) else (n + s[i].toNat * u, i + 1, 0)
            rw [if_neg h128, hqs]
          have hd0 : s[i].toNat = 0 → q = 0 := fun h => by rw [← hqs, h, Nat.zero_mul]
          clear HR HU hqe hr1 hqs h128
          by_cases hb : 1099511627776 < n + q
          · have HR4 : Hid (r = (0, 0, 13)) := by show _ = _; rw [← HR3.out, if_pos (.inr hb)]
            have z3 : (1099511627776 : Int) < ((n + q : Nat) : Int) := by omega
            clear HR3 hd0
            go_wp2
            go_ret3
            exact ⟨by rw [HR4.out]; rfl, HDr.out⟩
          · have z3 : ¬ (1099511627776 : Int) < ((n + q : Nat) : Int) := by omega
            by_cases hi0 : 0 < i
            · have z2 : (0 : Int) < (i : Int) := by omega
              by_cases hz : s[i].toNat = 0
              · have HR4 : Hid (r = (0, 0, 13)) := by show _ = _; rw [← HR3.out, if_pos (.inl ⟨hz, hi0⟩)]
                have z1 : ((s[i].toNat : Int) == 0) = true := by simp; exact_mod_cast hz
                clear HR3 hd0 hz hb hi0
                go_wp2
                go_ret3
                exact ⟨by rw [HR4.out]; rfl, HDr.out⟩
              · have HR4 : Hid (r = (n + q, i + 1, 0)) := by show _ = _; rw [← HR3.out, if_neg (by rintro (h | h); exact hz h.1; exact hb h)]
                have z1 : ((s[i].toNat : Int) == 0) = false := by simpa using hz
                clear HR3 hd0 hz hb hi0
                go_wp2
                go_ret3
                exact ⟨by rw [HR4.out]; first | rfl | (simp [gI]; done) | (simp [gI]; omega), HDr.out⟩
            · have HR4 : Hid (r = (n + q, i + 1, 0)) := by show _ = _; rw [← HR3.out, if_neg (by rintro (h | h); exact hi0 h.2; exact hb h)]
              have z2 : ¬ (0 : Int) < (i : Int) := by omega
              clear HR3 hd0 hb hi0
              go_wp2
              go_ret3
              exact ⟨by rw [HR4.out]; first | rfl | (simp [gI]; done) | (simp [gI]; omega), HDr.out⟩
      · have hie : i = s.size := by omega
        have HR2 : Hid (r = (0, 0, 12)) := by
          show _ = _
          rw [← HR.out, show 6 - i = (5 - i) + 1 by omega, getF_end (show s.data.toList.length ≤ i by have := HL.out; omega)]
        have hne : ((i : Int) == (s.size : Int)) = true := by simp; omega
        clear HR HU hs hie
        go_wp2
        go_ret3
        exact ⟨by rw [HR2.out]; rfl, HDr.out⟩
    · have h6' : i = 6 := by omega
      subst h6'
      have HR2 : Hid (r = (0, 0, 13)) := by show _ = _; rw [← HR.out]; rfl
      clear HR HU
      go_wp2
      go_ret3
      exact ⟨by rw [HR2.out]; rfl, HDr.out⟩

set_option maxRecDepth 100000 in
set_option maxHeartbeats 4000000 in
theorem rgetText_any (s : ByteArray) (w : World) (hs : s.size ≤ 9000000000000000000) : Calls Try.prog 49 #[.string s] w fun e w' => e = gT (getT s.data.toList) ∧ Drawn w w' := by
  have CI := Lib.hid (rgetInt_any s w)
  have HL : s.data.toList.length = s.size := rfl
  obtain ⟨b1, b2⟩ := getI_bd s.data.toList
  have HT : Hid (getT s.data.toList = if (getI s.data.toList).2.2 ≠ 0 then ([], 0, (getI s.data.toList).2.2) else if 65536 < (getI s.data.toList).1 then ([], 0, 13) else if s.data.toList.length - (getI s.data.toList).2.1 < (getI s.data.toList).1 then ([], 0, 12) else ((s.data.toList.drop (getI s.data.toList).2.1).take (getI s.data.toList).1, (getI s.data.toList).2.1 + (getI s.data.toList).1, 0)) := rfl
  rw [HL] at b2
  rw [HL] at HT
  generalize getT s.data.toList = r at *
  generalize getI s.data.toList = q at *
  obtain ⟨n, k, e0⟩ := q
  simp only at HT b1 b2
  unfold gI at CI
  simp only at CI
  clear HL
  by_cases he : e0 = 0
  · subst he
    by_cases hn : 65536 < n
    · have HR : Hid (r = ([], 0, 13)) := by show _ = _; rw [HT.out, if_neg (by simp), if_pos hn]
      clear HT
      go_enter Try.func49, Try.ntmps49
      go_wp2_with fail
      refine CI.out.mono ?_
      rintro e w1 ⟨rfl, hdr⟩
      have HDr := Lib.hid hdr
      clear hdr CI
      go_wp2
      go_ret3
      exact ⟨by rw [HR.out]; rfl, HDr.out⟩
    · have hn1 : ¬ (65536 : Int) < (n : Int) := by omega
      by_cases hk : s.size - k < n
      · have HR : Hid (r = ([], 0, 12)) := by show _ = _; rw [HT.out, if_neg (by simp), if_neg hn, if_pos hk]
        have hk1 : (s.size : Int) - k < n := by omega
        have hw : IntKind.i64.wrap ((s.size : Int) - k) = (s.size : Int) - k := i64w (by omega) (by omega)
        clear HT
        go_enter Try.func49, Try.ntmps49
        go_wp2_with fail
        refine CI.out.mono ?_
        rintro e w1 ⟨rfl, hdr⟩
        have HDr := Lib.hid hdr
        clear hdr CI
        go_wp2
        go_ret3
        exact ⟨by rw [HR.out]; rfl, HDr.out⟩
      · have HR : Hid (r = ((s.data.toList.drop k).take n, k + n, 0)) := by show _ = _; rw [HT.out, if_neg (by simp), if_neg hn, if_neg hk]
        have hk1 : ¬ (s.size : Int) - k < n := by omega
        have hw : IntKind.i64.wrap ((s.size : Int) - k) = (s.size : Int) - k := i64w (by omega) (by omega)
        have hz1 : IntKind.i64.wrap ((k : Int) + n) = ((k + n : Nat) : Int) := by rw [i64w (by omega) (by omega)]; omega
        have HX := Lib.hid (extract_app s (o := k) (l := n) (by omega))
        have hle : k + n ≤ s.size := by omega
        clear HT
        go_enter Try.func49, Try.ntmps49
        go_wp2_with fail
        refine CI.out.mono ?_
        rintro e w1 ⟨rfl, hdr⟩
        have HDr := Lib.hid hdr
        clear hdr CI
        go_wp2
        go_ret3
        exact ⟨by rw [HR.out]; unfold gT; rw [← HX.out]; rfl, HDr.out⟩
  · have HR : Hid (r = ([], 0, e0)) := by show _ = _; rw [HT.out, if_pos he]
    have hne : (e0 != 0) = true := by simpa using he
    clear HT
    go_enter Try.func49, Try.ntmps49
    go_wp2_with fail
    refine CI.out.mono ?_
    rintro e w1 ⟨rfl, hdr⟩
    have HDr := Lib.hid hdr
    clear hdr CI
    go_wp2
    go_ret3
    exact ⟨by rw [HR.out]; rfl, HDr.out⟩

set_option maxRecDepth 100000 in
set_option maxHeartbeats 1000000 in
theorem number_any (s : ByteArray) (w : World) : Calls Try.prog 48 #[.string s] w fun e w' => e = .returned (.tuple #[.int .i64 ((getI s.data.toList).1 : Int), .string (s.extract (getI s.data.toList).2.1 s.size), .bool ((getI s.data.toList).2.2 == 0)]) ∧ Drawn w w' := by
  have CI := Lib.hid (rgetInt_any s w)
  obtain ⟨b1, b2⟩ := getI_bd s.data.toList
  rw [show s.data.toList.length = s.size from rfl] at b2
  generalize getI s.data.toList = q at *
  obtain ⟨n, k, e0⟩ := q
  simp only at b1 b2 ⊢
  unfold gI at CI
  simp only at CI
  have c1 : (0 : Int) ≤ (k : Int) := by omega
  have c2 : (k : Int) ≤ (s.size : Int) := by omega
  go_enter Try.func48, Try.ntmps48
  go_wp2_with fail
  refine CI.out.mono ?_
  rintro e w1 ⟨rfl, hd⟩
  have HD := Lib.hid hd
  clear hd CI
  go_wp2_with fail
  go_quiet (fail)
  go_wp2
  go_ret3
  exact ⟨rfl, HD.out.drewN _⟩
end Go.Proofs.Ytiioebpmfjipeaa
