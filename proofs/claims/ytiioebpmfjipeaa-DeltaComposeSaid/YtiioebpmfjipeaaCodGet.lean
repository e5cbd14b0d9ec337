/- codec: GetInt, GetText, the code's and the reference's; the reference's put. -/
import Derived.Test.YtiioebpmfjipeaaCodP
namespace Go.Proofs.Ytiioebpmfjipeaa
set_option linter.unusedVariables false
set_option linter.unusedSimpArgs false
open Go.RowKit

/-- An answer of GetInt. -/
def gI (r : Nat × Nat × Int) : Ending := .returned (.tuple #[.int .i64 (r.1 : Int), .int .i64 (r.2.1 : Int), .int .i64 r.2.2])
def P128 (i u : Nat) : Prop := u = 128 ^ i
def gT (r : List UInt8 × Nat × Int) : Ending := .returned (.tuple #[.string (strB r.1), .int .i64 (r.2.1 : Int), .int .i64 r.2.2])
theorem getF_at {s : List UInt8} {f i n u : Nat} (h : i < s.length) : getF (f + 1) i n u (s.drop i) = if 128 ≤ s[i].toNat then getF f (i + 1) (n + (s[i].toNat - 128) * u) (u * 128) (s.drop (i + 1)) else if (s[i].toNat = 0 ∧ 0 < i) ∨ 1099511627776 < n + s[i].toNat * u then (0, 0, 13) else (n + s[i].toNat * u, i + 1, 0) := by
  rw [List.drop_eq_getElem_cons h]
  rfl
theorem getF_end {s : List UInt8} {f i n u : Nat} (h : s.length ≤ i) : getF (f + 1) i n u (s.drop i) = (0, 0, 12) := by
  rw [List.drop_eq_nil_of_le h]
  rfl
theorem pow128 {i : Nat} (h : i ≤ 5) : 128 ^ i ≤ 34359738368 := Nat.le_trans (Nat.pow_le_pow_right (by omega) h) (by decide)

set_option maxRecDepth 100000 in
set_option maxHeartbeats 4000000 in
theorem getInt_any (s : ByteArray) (w : World) : Calls Try.prog 46 #[.string s] w fun e w' => e = gI (getI s.data.toList) ∧ w' = w := by
  have HL : Hid (s.data.toList.length = s.size) := rfl
  have HR0 : Hid (getF (6 - 0) 0 0 1 (s.data.toList.drop 0) = getI s.data.toList) := rfl
  have HU0 : Hid (P128 0 1) := rfl
  generalize getI s.data.toList = r at *
  go_enter Try.func46, Try.ntmps46
  go_wp2
  go_loopw [5, 6, 9] (fun ni ui ii wr => ∃ i n u : Nat, i ≤ 6 ∧ ni = .int .i64 n ∧ ui = .int .i64 u ∧ ii = .int .i64 i ∧ n < u ∧ Hid (P128 i u) ∧ Hid (getF (6 - i) i n u (s.data.toList.drop i) = r) ∧ wr = w) (fun _ _ ii _ => 6 - (intOf ii).toNat)
  case atStart => exact ⟨0, 0, 1, by omega, rfl, rfl, rfl, by omega, HU0, HR0, rfl⟩
  case round =>
    clear HR0 HU0
    obtain ⟨i, n, u, hi, rfl, rfl, rfl, hn, HU, HR, rfl⟩ := hrel
    by_cases h6 : i < 6
    · have hu : u ≤ 34359738368 := by rw [show u = 128 ^ i from HU.out]; exact pow128 (by omega)
      by_cases hs : i < s.size
      · have hd := s[i].toNat_lt
        have HR2 : Hid ((if 128 ≤ s[i].toNat then getF (5 - i) (i + 1) (n + (s[i].toNat - 128) * u) (u * 128) (s.data.toList.drop (i + 1)) else if (s[i].toNat = 0 ∧ 0 < i) ∨ 1099511627776 < n + s[i].toNat * u then (0, 0, 13) else (n + s[i].toNat * u, i + 1, 0)) = r) := by
          show _ = _
          rw [← HR.out, show 6 - i = (5 - i) + 1 by omega, getF_at (show i < s.data.toList.length from hs)]
          rfl
        have hge : decide ((s.size : Int) ≤ (i : Int)) = false := by simp; omega
        clear HR
        by_cases h128 : 128 ≤ s[i].toNat
        · have hq : (s[i].toNat - 128) * u ≤ 127 * u := Nat.mul_le_mul_right _ (by omega)
          have HR3 : Hid (getF (6 - (i + 1)) (i + 1) (n + (s[i].toNat - 128) * u) (u * 128) (s.data.toList.drop (i + 1)) = r) := by
            show _ = _
            rw [← HR2.out, if_pos h128, show 6 - (i + 1) = 5 - i by omega]
          have hw1 : IntKind.i64.wrap ((s[i].toNat : Int) - 128) = ((s[i].toNat - 128 : Nat) : Int) := by rw [i64w (by omega) (by omega)]; omega
          have hw2 : IntKind.i64.wrap (((s[i].toNat - 128 : Nat) : Int) * (u : Int)) = (((s[i].toNat - 128) * u : Nat) : Int) := by rw [← Int.natCast_mul, i64w (by omega) (by omega)]
          have hw3 : IntKind.i64.wrap ((n : Int) + (((s[i].toNat - 128) * u : Nat) : Int)) = ((n + (s[i].toNat - 128) * u : Nat) : Int) := by rw [← Int.natCast_add, i64w (by omega) (by omega)]
          have hw4 : IntKind.i64.wrap ((u : Int) * 128) = ((u * 128 : Nat) : Int) := by rw [i64w (by omega) (by omega)]; omega
          have h128' : (128 : Int) ≤ (s[i].toNat : Int) := by omega
          have HU2 : Hid (P128 (i + 1) (u * 128)) := by show _ = _; rw [show u = 128 ^ i from HU.out, Nat.pow_succ]
          have hn2 : n + (s[i].toNat - 128) * u < u * 128 := by omega
          clear HR2 HU
          generalize (s[i].toNat - 128) * u = q at *
          generalize s[i].toNat - 128 = d1 at *
          go_wp2
          go_roundw
          case rel => exact ⟨i + 1, _, u * 128, by omega, rfl, rfl, by go_num, hn2, HU2, HR3, trivial⟩
          case measure => simp [intOf]; omega
        · have hq : s[i].toNat * u ≤ 127 * u := Nat.mul_le_mul_right _ (by omega)
          have hw2 : IntKind.i64.wrap ((s[i].toNat : Int) * (u : Int)) = ((s[i].toNat * u : Nat) : Int) := by rw [← Int.natCast_mul, i64w (by omega) (by omega)]
          have hw3 : IntKind.i64.wrap ((n : Int) + ((s[i].toNat * u : Nat) : Int)) = ((n + s[i].toNat * u : Nat) : Int) := by rw [← Int.natCast_add, i64w (by omega) (by omega)]
          have h128' : ¬ (128 : Int) ≤ (s[i].toNat : Int) := by omega
          have HR3 : Hid ((if (s[i].toNat = 0 ∧ 0 < i) ∨ 1099511627776 < n + s[i].toNat * u then (0, 0, 13) else (n + s[i].toNat * u, i + 1, 0)) = r) := by
            show _ = _
            rw [← HR2.out, if_neg h128]
          have hd0 : s[i].toNat = 0 → s[i].toNat * u = 0 := fun h => by rw [h, Nat.zero_mul]
          clear HR2 HU
          generalize s[i].toNat * u = q at *
          by_cases hz : s[i].toNat = 0 ∧ 0 < i
          · have HR4 : Hid (r = (0, 0, 13)) := by show _ = _; rw [← HR3.out, if_pos (.inl hz)]
            have z1 : ((s[i].toNat : Int) == 0) = true := by simp; exact_mod_cast hz.1
            have z2 : (0 : Int) < (i : Int) := by omega
            clear HR3 hd0 hz
            go_wp2
            go_ret3
            exact ⟨by rw [HR4.out]; rfl, rfl⟩
          · by_cases hb : 1099511627776 < n + q
            · have HR4 : Hid (r = (0, 0, 13)) := by show _ = _; rw [← HR3.out, if_pos (.inr hb)]
              have z3 : (1099511627776 : Int) < ((n + q : Nat) : Int) := by omega
              have z0 : ¬ s[i].toNat = 0 := fun e => by have := hd0 e; omega
              have z1 : ((s[i].toNat : Int) == 0) = false := by simpa using z0
              clear HR3 hd0 hz z0
              go_wp2
              go_ret3
              exact ⟨by rw [HR4.out]; rfl, rfl⟩
            · have HR4 : Hid (r = (n + q, i + 1, 0)) := by show _ = _; rw [← HR3.out, if_neg (by rintro (h | h); exact hz h; exact hb h)]
              have z3 : ¬ (1099511627776 : Int) < ((n + q : Nat) : Int) := by omega
              by_cases z0 : s[i].toNat = 0
              · have hi0 : i = 0 := by
                  rcases Nat.eq_zero_or_pos i with h | h
                  · exact h
                  · exact absurd ⟨z0, h⟩ hz
                have z2 : ¬ (0 : Int) < (i : Int) := by omega
                have z1 : ((s[i].toNat : Int) == 0) = true := by simp; exact_mod_cast z0
                clear hi0
                clear HR3 hd0 hz z0
                go_wp2
                go_ret3
                exact ⟨by rw [HR4.out]; first | rfl | (simp [gI]; done) | (simp [gI]; omega), rfl⟩
              · have z1 : ((s[i].toNat : Int) == 0) = false := by simpa using z0
                clear HR3 hd0 hz z0
                go_wp2
                go_ret3
                exact ⟨by rw [HR4.out]; rfl, rfl⟩
      · have HR2 : Hid (r = (0, 0, 12)) := by
          show _ = _
          rw [← HR.out, show 6 - i = (5 - i) + 1 by omega, getF_end (show s.data.toList.length ≤ i by have := HL.out; omega)]
        have hge : (s.size : Int) ≤ (i : Int) := by omega
        clear HR HU hs
        go_wp2
        go_ret3
        exact ⟨by rw [HR2.out]; rfl, rfl⟩
    · have h6' : i = 6 := by omega
      subst h6'
      have HR2 : Hid (r = (0, 0, 13)) := by show _ = _; rw [← HR.out]; rfl
      clear HR HU
      go_wp2
      go_ret3
      exact ⟨by rw [HR2.out]; rfl, rfl⟩

set_option maxRecDepth 100000 in
set_option maxHeartbeats 4000000 in
theorem getText_any (s : ByteArray) (w : World) (hs : s.size ≤ 9000000000000000000) : Calls Try.prog 61 #[.string s] w fun e w' => e = gT (getT s.data.toList) ∧ w' = w := by
  have CI := Lib.hid (getInt_any s w)
  have HL : s.data.toList.length = s.size := rfl
  obtain ⟨b1, b2⟩ := getI_bd s.data.toList
  have HT : Hid (getT s.data.toList = if (getI s.data.toList).2.2 ≠ 0 then ([], 0, (getI s.data.toList).2.2) else if 65536 < (getI s.data.toList).1 then ([], 0, 13) else if s.data.toList.length - (getI s.data.toList).2.1 < (getI s.data.toList).1 then ([], 0, 12) else ((s.data.toList.drop (getI s.data.toList).2.1).take (getI s.data.toList).1, (getI s.data.toList).2.1 + (getI s.data.toList).1, 0)) := rfl
  rw [HL] at b2
  rw [HL] at HT
  generalize getT s.data.toList = r at *
  generalize getI s.data.toList = q at *
  obtain ⟨n, k, e0⟩ := q
  simp only at HT b1 b2
  unfold gI at CI
  simp only at CI
  clear HL
  by_cases he : e0 = 0
  · subst he
    by_cases hn : 65536 < n
    · have HR : Hid (r = ([], 0, 13)) := by show _ = _; rw [HT.out, if_neg (by simp), if_pos hn]
      clear HT
      go_enter Try.func61, Try.ntmps61
      go_wp2_with fail
      refine CI.out.mono ?_
      rintro e w1 ⟨rfl, rfl⟩
      go_wp2
      go_ret3
      exact ⟨by rw [HR.out]; rfl, rfl⟩
    · have hn1 : ¬ (65536 : Int) < (n : Int) := by omega
      by_cases hk : s.size - k < n
      · have HR : Hid (r = ([], 0, 12)) := by show _ = _; rw [HT.out, if_neg (by simp), if_neg hn, if_pos hk]
        have hk1 : (s.size : Int) - k < n := by omega
        have hw : IntKind.i64.wrap ((s.size : Int) - k) = (s.size : Int) - k := i64w (by omega) (by omega)
        clear HT
        go_enter Try.func61, Try.ntmps61
        go_wp2_with fail
        refine CI.out.mono ?_
        rintro e w1 ⟨rfl, rfl⟩
        go_wp2
        go_ret3
        exact ⟨by rw [HR.out]; rfl, rfl⟩
      · have HR : Hid (r = ((s.data.toList.drop k).take n, k + n, 0)) := by show _ = _; rw [HT.out, if_neg (by simp), if_neg hn, if_neg hk]
        have hk1 : ¬ (s.size : Int) - k < n := by omega
        have hw : IntKind.i64.wrap ((s.size : Int) - k) = (s.size : Int) - k := i64w (by omega) (by omega)
        have hz1 : IntKind.i64.wrap ((k : Int) + n) = ((k + n : Nat) : Int) := by rw [i64w (by omega) (by omega)]; omega
        have HX := Lib.hid (extract_app s (o := k) (l := n) (by omega))
        have hle : k + n ≤ s.size := by omega
        clear HT
        go_enter Try.func61, Try.ntmps61
        go_wp2_with fail
        refine CI.out.mono ?_
        rintro e w1 ⟨rfl, rfl⟩
        go_wp2
        go_ret3
        exact ⟨by rw [HR.out]; unfold gT; rw [← HX.out]; rfl, rfl⟩
  · have HR : Hid (r = ([], 0, e0)) := by show _ = _; rw [HT.out, if_pos he]
    have hne : (e0 != 0) = true := by simpa using he
    clear HT
    go_enter Try.func61, Try.ntmps61
    go_wp2_with fail
    refine CI.out.mono ?_
    rintro e w1 ⟨rfl, rfl⟩
    go_wp2
    go_ret3
    exact ⟨by rw [HR.out]; rfl, rfl⟩
end Go.Proofs.Ytiioebpmfjipeaa
