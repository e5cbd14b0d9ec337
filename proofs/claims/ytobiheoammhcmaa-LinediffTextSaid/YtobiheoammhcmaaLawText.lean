/- The walk of the law LinediffText: it returns true for any string. -/
import Derived.Test.YtobiheoammhcmaaLawLines
import Derived.Test.YtobiheoammhcmaaIdx
namespace Go.Proofs.Ytobiheoammhcmaa
open Go.RowKit

/-- What holds of each line of a text: it is not empty, and a line feed stands at its end alone; it stands there but in the last line. -/
def lineOk (last : Bool) (x : List UInt8) : Prop :=
  0 < x.length ∧ (Lib.indexByte x 10 = (x.length : Int) - 1 ∨ (last = true ∧ Lib.indexByte x 10 = -1))
theorem flatten_lines (cur : List UInt8) (s : List UInt8) : (linesF cur s).flatten = cur ++ s := by
  induction s generalizing cur with
  | nil =>
    unfold linesF
    split
    · rename_i h; simp [h]
    · simp
  | cons c s ih =>
    unfold linesF
    split
    · rename_i h
      rw [List.flatten_cons, ih, h]; simp
    · rw [ih]; simp
theorem index_end {cur : List UInt8} (h : ∀ k : Nat, cur[k]? ≠ some 10) : Lib.indexByte (cur ++ [10]) 10 = ((cur ++ [10]).length : Int) - 1 := by
  rcases index_cases (cur ++ [10]) with h1 | ⟨o, h1, hlt⟩
  · exact absurd (by simp) (Lib.indexByte_none h1 cur.length)
  · obtain ⟨h2, h3⟩ := Lib.indexByte_some h1
    rw [h1]
    simp at hlt ⊢
    by_cases ho : o < cur.length
    · rw [List.getElem?_append_left ho] at h2
      exact absurd h2 (h o)
    · omega
theorem linesF_ok : ∀ (s cur : List UInt8), (∀ k : Nat, cur[k]? ≠ some 10) → ∀ (i : Nat) (x : List UInt8), (linesF cur s)[i]? = some x → lineOk (decide (i + 1 = (linesF cur s).length)) x
  | [], cur, hc, i, x, h => by
    unfold linesF at h ⊢
    split at h
    · simp at h
    · rename_i h0
      rw [if_neg h0]
      cases i with
      | zero =>
        simp at h; subst h
        refine ⟨List.length_pos_iff.2 h0, .inr ⟨by simp, ?_⟩⟩
        rcases index_cases cur with h1 | ⟨o, h1, _⟩
        · exact h1
        · exact absurd (Lib.indexByte_some h1).1 (hc o)
      | succ i => simp at h
  | c :: s, cur, hc, i, x, h => by
    unfold linesF at h ⊢
    split at h
    · rename_i h0
      rw [if_pos h0]
      cases i with
      | zero =>
        simp at h; subst h
        exact ⟨by simp, .inl (index_end hc)⟩
      | succ i =>
        have := linesF_ok s [] (by simp) i x (by simpa using h)
        simpa using this
    · rename_i h0
      rw [if_neg h0]
      exact linesF_ok s (cur ++ [c]) (fun k => by
        by_cases hk : k < cur.length
        · rw [List.getElem?_append_left hk]; exact hc k
        · rw [List.getElem?_append_right (by omega)]
          intro e
          have : k - cur.length = 0 := by
            have := (List.getElem?_eq_some_iff.1 e).1
            simp at this; omega
          rw [this] at e
          simp at e
          exact h0 e) i x h
theorem lines_ok {s : List UInt8} {i : Nat} (hi : i < (lines s).length) : lineOk (decide (i + 1 = (lines s).length)) (lines s)[i] := linesF_ok s [] (by simp) i _ (List.getElem?_eq_getElem hi)
theorem textB_mem {l : List ByteArray} {k : Nat} (h : k < l.length) : l[k].size ≤ (textB l).size := by
  have h1 : textB l = textB (l.take (k + 1)) ++ textB (l.drop (k + 1)) := by rw [← textB_append, List.take_append_drop]
  rw [h1, textB_succ h, ByteArray.size_append, ByteArray.size_append]
  omega
theorem linesF_len : ∀ (s cur : List UInt8), (linesF cur s).length ≤ s.length + (if cur = [] then 0 else 1)
  | [], cur => by unfold linesF; split <;> simp_all
  | c :: s, cur => by
    unfold linesF
    split
    · have := linesF_len s []
      simp at this ⊢
      split <;> omega
    · have := linesF_len s (cur ++ [c])
      simp at this ⊢
      split <;> omega
theorem lines_len {s : ByteArray} (hs : s.size ≤ 300) : (lines s.data.toList).length ≤ 300 := by
  have h1 := linesF_len s.data.toList []
  have h2 : s.data.toList.length = s.size := rfl
  unfold lines
  simp at h1
  simp at h2
  omega
theorem textB_lines (s : ByteArray) : textB ((lines s.data.toList).map fun x => (⟨x.toArray⟩ : ByteArray)) = s := by
  apply ByteArray.ext
  unfold textB lines
  simp only [List.map_map]
  rw [show ((fun x : ByteArray => x.data.toList) ∘ fun x : List UInt8 => (⟨x.toArray⟩ : ByteArray)) = id from rfl, List.map_id, flatten_lines]
  rfl

set_option maxRecDepth 100000 in
set_option maxHeartbeats 2000000 in
theorem law_text (w : World) (s : ByteArray) :
    Calls Try.prog 10 #[.string s] w fun e w' => e = .returned (.bool true) ∧ Below w.heap.size w w' := by
  have aw := awake_any w
  by_cases hs : s.size ≤ 300
  · have hs' : decide ((300 : Int) < (s.size : Int)) = false := by simp; omega
    have c1 := lines_any s (by omega) w
    clear aw
    go_enter Try.func10, Try.ntmps10
    go_wp2_with fail
    refine c1.mono ?_
    clear c1
    rintro e w1 ⟨v1, rfl, hv1, hb1⟩
    have s1 := lines_strs hv1
    have hL : Hid (∀ (i : Nat) (hi : i < ((lines s.data.toList).map fun x => (⟨x.toArray⟩ : ByteArray)).length), lineOk (decide (i + 1 = ((lines s.data.toList).map fun x => (⟨x.toArray⟩ : ByteArray)).length)) ((lines s.data.toList).map fun x => (⟨x.toArray⟩ : ByteArray))[i].data.toList) := fun i hi => by
      have := lines_ok (s := s.data.toList) (i := i) (by simpa using hi)
      simpa using this
    have hT : Hid (textB ((lines s.data.toList).map fun x => (⟨x.toArray⟩ : ByteArray)) = s) := textB_lines s
    have hn : ((lines s.data.toList).map fun x => (⟨x.toArray⟩ : ByteArray)).length ≤ 300 := by
      rw [List.length_map]; exact lines_len hs
    clear hv1
    generalize (lines s.data.toList).map (fun x => (⟨x.toArray⟩ : ByteArray)) = L at *
    obtain ⟨A, c, rfl, hc, hm⟩ := s1.form
    go_wp2
    go_loopw [15] (fun t wr => ∃ k : Nat, k ≤ L.length ∧ t = .int .i64 k ∧ w1 = wr) (fun t _ => L.length - (intOf t).toNat)
    case atStart => exact ⟨0, by omega, rfl, rfl⟩
    case round =>
      obtain ⟨k, hk, rfl, rfl⟩ := hrel
      by_cases hlt : k < L.length
      · obtain ⟨b, off, rfl, h1⟩ := s1.get hlt
        have hok := hL.out k hlt
        have hxs : L[k].size ≤ 300 := by
          have := textB_mem hlt
          rw [hT.out] at this
          omega
        have hsz : L[k].data.toList.length = L[k].size := rfl
        generalize L[k] = x at *
        have ci := stIndexByte x 10 w1
        obtain ⟨p1, p2⟩ := hok
        rw [show ((10 : Int).toNat.toUInt8) = 10 from rfl] at ci
        generalize Lib.indexByte x.data.toList 10 = K at *
        have hx1 : x.toList.isEmpty = false := by
          cases h : x.toList with
          | nil =>
            have h0 := str_ne (x := x) (y := ⟨#[]⟩) (by rintro rfl; simp at p1)
            rw [h] at h0
            exact absurd h0 (by decide +kernel)
          | cons a l => rfl
        have z1 : IntKind.i64.wrap ((L.length : Int) - 1) = (L.length : Int) - 1 := i64w (by omega) (by omega)
        have z2 : IntKind.i64.wrap ((x.size : Int) - 1) = (x.size : Int) - 1 := i64w (by omega) (by omega)
        rw [hsz] at p1 p2
        clear hsz
        rcases p2 with p2 | ⟨hl, p2⟩
        · have n1 : (K != (x.size : Int) - 1) = false := by simp [p2]
          have n2 : (0 : Int) ≤ K := by omega
          clear p2
          by_cases hlast : k + 1 < L.length
          · have r1 : (k : Int) < (L.length : Int) - 1 := by omega
            go_wp2_with fail
            refine ci.mono ?_
            clear ci
            rintro e w2 ⟨rfl, rfl⟩
            go_wp2
            go_roundw
            case rel => exact ⟨k + 1, by omega, by go_num, trivial⟩
            case measure => simp [intOf] <;> omega
          · have r1 : decide ((k : Int) < (L.length : Int) - 1) = false := by simp; omega
            go_wp2_with fail
            refine ci.mono ?_
            clear ci
            rintro e w2 ⟨rfl, rfl⟩
            go_wp2
            go_roundw
            case rel => exact ⟨k + 1, by omega, by go_num, trivial⟩
            case measure => simp [intOf] <;> omega
        · have n2 : decide ((0 : Int) ≤ K) = false := by simp; omega
          have hl' := of_decide_eq_true hl
          have r1 : decide ((k : Int) < (L.length : Int) - 1) = false := by simp; omega
          clear hl p2
          go_wp2_with fail
          refine ci.mono ?_
          clear ci
          rintro e w2 ⟨rfl, rfl⟩
          go_wp2
          go_roundw
          case rel => exact ⟨k + 1, by omega, by go_num, trivial⟩
          case measure => simp [intOf] <;> omega
      · have c4 := text_any w1 _ L s1 (by omega) (by rw [hT.out]; omega)
        rw [hT.out] at c4
        go_wp2_with fail
        refine c4.mono ?_
        clear c4
        rintro e w2 ⟨rfl, hb2⟩
        have hB2 := hb1.trans (hb2.mono hb1.size)
        have c6 := awake_any w2
        go_wp2_with fail
        refine c6.mono ?_
        clear c6
        rintro e w6 ⟨rfl, hb6⟩
        have hB6 := hB2.trans (hb6.mono hB2.size)
        go_wp2
        go_ret
        exact ⟨rfl, hB6⟩
  · have hs' : (300 : Int) < (s.size : Int) := by omega
    go_enter Try.func10, Try.ntmps10
    go_wp2_with fail
    refine aw.mono ?_
    clear aw
    rintro e w1 ⟨rfl, hb1⟩
    go_wp2
    go_ret
    exact ⟨rfl, hb1⟩
end Go.Proofs.Ytobiheoammhcmaa
