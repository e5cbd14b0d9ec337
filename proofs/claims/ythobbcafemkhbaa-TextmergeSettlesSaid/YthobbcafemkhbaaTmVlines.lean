/- textmerge.validLines: as cordwoodref19.lines. -/
import Derived.Test.YthobbcafemkhbaaTmLines
import Derived.Test.YthobbcafemkhbaaIdx
namespace Go.Proofs.Ythobbcafemkhbaa
open Go.RowKit

theorem lines_len_one {s : List UInt8} (hs : s ≠ []) : (lines s).length = 1 ↔ firstLen s = s.length := by
  rw [lines_step hs, List.length_cons]
  constructor
  · intro h
    have h0 : lines (s.drop (firstLen s)) = [] := List.eq_nil_of_length_eq_zero (by omega)
    have : s.drop (firstLen s) = [] := by
      refine Classical.byContradiction fun hne => ?_
      rw [lines_step hne] at h0
      cases h0
    have h2 := List.drop_eq_nil_iff.1 this
    have := firstLen_le s
    omega
  · intro h
    rw [h, List.drop_of_length_le (Nat.le_refl _)]
    rfl
theorem sz_list (s : ByteArray) : s.data.toList.length = s.size := rfl
/-- Is a line valid? By its first line feed. -/
theorem lineOk_empty {last : Bool} {n i : Nat} {s : ByteArray} (h : s.data.toList = []) : lineOk last n i s = false := by
  have hs : s.size = 0 := by rw [← sz_list, h]; rfl
  unfold lineOk wholeB
  rw [h, hs]
  simp [lines, linesF]
theorem lineOk_none {last : Bool} {n i : Nat} {s : ByteArray} (h0 : s.data.toList ≠ []) (h : Lib.indexByte s.data.toList 10 = -1) : lineOk last n i s = (last && decide (¬ i + 1 < n)) := by
  have h1 : (lines s.data.toList).length = 1 := (lines_len_one h0).2 (by unfold firstLen; rw [if_pos h])
  have h2 : wholeB s = false := by
    unfold wholeB
    have := Lib.indexByte_none h (s.size - 1)
    rw [decide_eq_false this, Bool.and_false]
  unfold lineOk
  rw [h1, h2]
  simp
theorem lineOk_some {last : Bool} {n i o : Nat} {s : ByteArray} (h : Lib.indexByte s.data.toList 10 = (o : Int)) : lineOk last n i s = decide (o + 1 = s.size) := by
  obtain ⟨h1, h2⟩ := Lib.indexByte_some h
  have hlt : o < s.size := by rw [← sz_list]; exact indexByte_lt h
  have h0 : s.data.toList ≠ [] := by intro e; rw [e] at h1; simp at h1
  have hf : firstLen s.data.toList = o + 1 := by unfold firstLen; rw [if_neg (by omega), h]; omega
  by_cases ho : o + 1 = s.size
  · have h3 : (lines s.data.toList).length = 1 := (lines_len_one h0).2 (by rw [hf, ho, sz_list])
    have h4 : wholeB s = true := by
      unfold wholeB
      rw [h3, show s.size - 1 = o by omega, h1]
      simp; omega
    unfold lineOk
    rw [h4, decide_eq_true ho]; rfl
  · have h3 : ¬ (lines s.data.toList).length = 1 := fun e => ho (by have := (lines_len_one h0).1 e; rw [hf, sz_list] at this; exact this)
    unfold lineOk wholeB
    rw [decide_eq_false h3, decide_eq_false ho]
    simp

set_option maxRecDepth 100000 in
set_option maxHeartbeats 1000000 in
theorem validLines_any (w : World) (v : Value) (l : List ByteArray) (last : Bool) (h : Strs w v l) (hsz : ∀ s ∈ l, s.size ≤ 1000000000) :
    Calls Try.prog 62 #[v, .bool last] w fun e w' => e = .returned (.bool (linesB last l)) ∧ w = w' := by
  obtain ⟨A, c, rfl, hc, hm⟩ := h.form
  have HSZ := Lib.hid hsz
  clear hsz
  go_enter Try.func62, Try.ntmps62
  go_wp2
  go_loop [10] (fun i => ∃ k : Nat, k ≤ l.length ∧ i = .int .i64 k ∧ Hid (linesB last l = linF last l.length k (l.drop k))) (fun i => l.length - (intOf i).toNat)
  case atStart => exact ⟨0, by omega, rfl, rfl⟩
  case round =>
    obtain ⟨k, hk, rfl, HK⟩ := hrel
    by_cases hlt : k < l.length
    · obtain ⟨b, off, rfl, a1⟩ := h.get hlt
      have hs := HSZ.out l[k] (List.getElem_mem hlt)
      have HS := Lib.hid (linF_at (last := last) hlt)
      generalize hx : l[k] = s at *
      by_cases he : s.data.toList = []
      · have hz : s.toList = [] := (ByteArray.toList_eq s).trans he
        have hz2 : s.toList.isEmpty = true := by rw [hz]; rfl
        have hz3 : (s.toList == ([] : List UInt8)) = true := by rw [hz]; rfl
        have HE : Hid (linesB last l = false) := by show _ = _; rw [HK.out, HS.out, lineOk_empty he]; rfl
        clear hz he HS HK hx
        go_wp2
        go_ret
        exact ⟨ret_bool HE.out.symm, rfl⟩
      · have hz : (s.toList == ([] : List UInt8)) = false := by
          have : ¬ s.toList = [] := fun h => he ((ByteArray.toList_eq s).symm.trans h)
          simpa using this
        have hz2 : s.toList.isEmpty = false := by
          have : ¬ s.toList = [] := fun h => he ((ByteArray.toList_eq s).symm.trans h)
          simpa using this
        have hpos : 0 < s.size := by rw [← sz_list]; exact List.length_pos_iff.2 he
        have ci := stIndexByte s 10 w
        rw [show (10 : Int).toNat.toUInt8 = 10 from rfl] at ci
        have HN : Hid (Lib.indexByte s.data.toList 10 = -1 → lineOk last l.length k s = (last && decide (¬ k + 1 < l.length))) := fun h => lineOk_none he h
        have HO : Hid (∀ o : Nat, Lib.indexByte s.data.toList 10 = o → lineOk last l.length k s = decide (o + 1 = s.size)) := fun o h => lineOk_some h
        clear he hx
        rcases index_cases s.data.toList with hi | ⟨o, hi, hlo⟩
        · rw [hi] at ci
          have HL := Lib.hid (HN.out hi)
          have hq : ((-1 : Int) == (s.size : Int) - 1) = false := by rw [beq_eq_false_iff_ne]; omega
          clear hi HN HO
          cases last
          · have HE : Hid (linesB false l = false) := by show _ = _; rw [HK.out, HS.out, HL.out]; rfl
            clear HS HK HL
            go_wp2_with fail
            refine ci.mono ?_
            clear ci
            rintro e w1 ⟨rfl, rfl⟩
            go_wp2
            go_ret
            exact ⟨ret_bool HE.out.symm, rfl⟩
          · by_cases hkl : k + 1 < l.length
            · have HE : Hid (linesB true l = false) := by show _ = _; rw [HK.out, HS.out, HL.out]; simp [hkl]
              have hki : ((k : Int) == (l.length : Int) - 1) = false := by rw [beq_eq_false_iff_ne]; omega
              clear HS HK HL
              go_wp2_with fail
              refine ci.mono ?_
              clear ci
              rintro e w1 ⟨rfl, rfl⟩
              go_wp2
              go_ret
              exact ⟨ret_bool HE.out.symm, rfl⟩
            · have HE : Hid (linesB true l = linF true l.length (k + 1) (l.drop (k + 1))) := by show _ = _; rw [HK.out, HS.out, HL.out]; simp [hkl]
              have hki : ((k : Int) == (l.length : Int) - 1) = true := by rw [beq_iff_eq]; omega
              clear HS HK HL
              go_wp2_with fail
              refine ci.mono ?_
              clear ci
              rintro e w1 ⟨rfl, rfl⟩
              go_wp2
              go_round
              case rel => exact ⟨k + 1, by omega, by go_num, HE⟩
              case measure => simp [intOf]; omega
        · rw [hi] at ci
          have HL := Lib.hid (HO.out o hi)
          have hon : ¬ (o : Int) < 0 := by omega
          clear hi HN HO
          by_cases hoe : o + 1 = s.size
          · have HE : Hid (linesB last l = linF last l.length (k + 1) (l.drop (k + 1))) := by show _ = _; rw [HK.out, HS.out, HL.out]; simp [hoe]
            have hq : ((o : Int) == (s.size : Int) - 1) = true := by rw [beq_iff_eq]; omega
            clear HS HK HL hoe
            go_wp2_with fail
            refine ci.mono ?_
            clear ci
            rintro e w1 ⟨rfl, rfl⟩
            go_wp2
            go_round
            case rel => exact ⟨k + 1, by omega, by go_num, HE⟩
            case measure => simp [intOf]; omega
          · have HE : Hid (linesB last l = false) := by show _ = _; rw [HK.out, HS.out, HL.out]; simp [hoe]
            have hq : ((o : Int) == (s.size : Int) - 1) = false := by rw [beq_eq_false_iff_ne]; omega
            clear HS HK HL hoe
            go_wp2_with fail
            refine ci.mono ?_
            clear ci
            rintro e w1 ⟨rfl, rfl⟩
            go_wp2
            go_ret
            exact ⟨ret_bool HE.out.symm, rfl⟩
    · have HE : Hid (linesB last l = true) := by show _ = _; rw [HK.out, List.drop_of_length_le (by omega)]; rfl
      go_wp2
      go_ret
      exact ⟨ret_bool HE.out.symm, rfl⟩
end Go.Proofs.Ythobbcafemkhbaa
