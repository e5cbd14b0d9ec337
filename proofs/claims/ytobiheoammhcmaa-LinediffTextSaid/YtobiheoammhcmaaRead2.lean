/- More functions that only read lists of lines and hunks. -/
import Derived.Test.YtobiheoammhcmaaRead
import Derived.Test.YtobiheoammhcmaaPlain
namespace Go.Proofs.Ytobiheoammhcmaa
open Go.RowKit

def greatB (xs : List ByteArray) : Bool := decide (12 < xs.length ∨ ∃ s ∈ xs, 40 < s.size)
theorem greatB_len {xs : List ByteArray} (h : 12 < xs.length) : greatB xs = true := decide_eq_true (.inl h)
theorem greatB_at {xs : List ByteArray} {k : Nat} (hk : k < xs.length) (h : 40 < xs[k].size) : greatB xs = true := decide_eq_true (.inr ⟨_, List.getElem_mem hk, h⟩)
theorem greatB_no {xs : List ByteArray} (h : xs.length ≤ 12) (k : Nat) (hk : ¬ k < xs.length) (ha : ∀ i, i < k → ∀ (hi : i < xs.length), xs[i].size ≤ 40) : greatB xs = false :=
  decide_eq_false (by
    rintro (h1 | ⟨s, hs, h2⟩)
    · omega
    · obtain ⟨i, hi, rfl⟩ := List.getElem_of_mem hs
      have := ha i (by omega) hi
      omega)
theorem greatB_false {xs : List ByteArray} (h : greatB xs = false) : xs.length ≤ 12 ∧ ∀ s ∈ xs, s.size ≤ 40 := by
  have h := of_decide_eq_false h
  refine ⟨?_, fun s hs => ?_⟩
  · apply Nat.le_of_not_lt; intro h1; exact h (.inl h1)
  · apply Nat.le_of_not_lt; intro h1; exact h (.inr ⟨s, hs, h1⟩)

set_option maxHeartbeats 400000 in
theorem great_any (w : World) (va : Value) (xs : List ByteArray) (ha : Strs w va xs) :
    Calls Try.prog 11 #[va] w fun e w' => e = .returned (.bool (greatB xs)) ∧ w = w' := by
  obtain ⟨A, c, rfl, hc, hm⟩ := ha.form
  by_cases hl : xs.length ≤ 12
  · go_enter Try.func11, Try.ntmps11
    go_wp2
    go_loop [3] (fun i => ∃ k : Nat, k ≤ xs.length ∧ i = .int .i64 k ∧ Hid (∀ i, i < k → ∀ (hi : i < xs.length), xs[i].size ≤ 40)) (fun i => xs.length - (intOf i).toNat)
    case atStart => exact ⟨0, by omega, rfl, fun i hi => by omega⟩
    case round =>
      obtain ⟨k, hk, rfl, HT⟩ := hrel
      by_cases hlt : k < xs.length
      · obtain ⟨b, off, rfl, ha1⟩ := ha.get hlt
        by_cases hs : xs[k].size ≤ 40
        · go_wp2
          go_round
          case rel => exact ⟨k + 1, by omega, by go_num, fun i hi h => by
            by_cases e : i = k
            · subst e; exact hs
            · exact HT.out i (by omega) h⟩
          case measure => simp [intOf]; omega
        · have hs' : 40 < xs[k].size := by omega
          clear hs
          go_wp2
          go_ret
          exact ⟨ret_bool (greatB_at hlt hs').symm, rfl⟩
      · go_wp2
        go_ret
        exact ⟨ret_bool (greatB_no hl k hlt HT.out).symm, rfl⟩
  · have hl' : 12 < xs.length := by omega
    clear hl
    go_enter Try.func11, Try.ntmps11
    go_wp2
    go_ret
    exact ⟨ret_bool (greatB_len hl').symm, rfl⟩

def greatHB (hs : List Hk) : Bool := decide (8 < hs.length ∨ ∃ h ∈ hs, greatB h.2.1 = true ∨ greatB h.2.2 = true)
theorem greatHB_len {xs : List Hk} (h : 8 < xs.length) : greatHB xs = true := decide_eq_true (.inl h)
theorem greatHB_at {xs : List Hk} {k : Nat} (hk : k < xs.length) (h : greatB xs[k].2.1 = true ∨ greatB xs[k].2.2 = true) : greatHB xs = true := decide_eq_true (.inr ⟨_, List.getElem_mem hk, h⟩)
theorem greatHB_no {xs : List Hk} (h : xs.length ≤ 8) (k : Nat) (hk : ¬ k < xs.length) (ha : ∀ i, i < k → ∀ (hi : i < xs.length), greatB xs[i].2.1 = false ∧ greatB xs[i].2.2 = false) : greatHB xs = false :=
  decide_eq_false (by
    rintro (h1 | ⟨s, hs, h2⟩)
    · omega
    · obtain ⟨i, hi, rfl⟩ := List.getElem_of_mem hs
      have := ha i (by omega) hi
      rw [this.1, this.2] at h2
      rcases h2 with h2 | h2 <;> cases h2)
theorem greatHB_false {xs : List Hk} (h : greatHB xs = false) : xs.length ≤ 8 ∧ ∀ h ∈ xs, greatB h.2.1 = false ∧ greatB h.2.2 = false := by
  have h := of_decide_eq_false h
  refine ⟨?_, fun s hs => ⟨?_, ?_⟩⟩
  · apply Nat.le_of_not_lt; intro h1; exact h (.inl h1)
  · cases h1 : greatB s.2.1
    · rfl
    · exact (h (.inr ⟨s, hs, .inl h1⟩)).elim
  · cases h1 : greatB s.2.2
    · rfl
    · exact (h (.inr ⟨s, hs, .inr h1⟩)).elim

set_option maxHeartbeats 400000 in
theorem greatHunks_any (w : World) (va : Value) (xs : List Hk) (ha : Hks w va xs) :
    Calls Try.prog 19 #[va] w fun e w' => e = .returned (.bool (greatHB xs)) ∧ w = w' := by
  obtain ⟨A, c, rfl, hc, hm⟩ := ha.form
  by_cases hl : xs.length ≤ 8
  · go_enter Try.func19, Try.ntmps19
    go_wp2
    go_loop [3] (fun i => ∃ k : Nat, k ≤ xs.length ∧ i = .int .i64 k ∧ Hid (∀ i, i < k → ∀ (hi : i < xs.length), greatB xs[i].2.1 = false ∧ greatB xs[i].2.2 = false)) (fun i => xs.length - (intOf i).toNat)
    case atStart => exact ⟨0, by omega, rfl, fun i hi => by omega⟩
    case round =>
      obtain ⟨k, hk, rfl, HT⟩ := hrel
      by_cases hlt : k < xs.length
      · obtain ⟨b, off, vo, vn, rfl, a1, a2, a3, a4, a5, a6, a7⟩ := ha.get hlt
        have c1 := great_any _ _ _ a4
        have c2 := great_any _ _ _ a5
        cases h1 : greatB xs[k].2.1
        · rw [h1] at c1
          cases h2 : greatB xs[k].2.2
          · rw [h2] at c2
            have C1 := Lib.hid c1
            have C2 := Lib.hid c2
            have H1 := Lib.hid h1
            have H2 := Lib.hid h2
            clear c1 c2 h1 h2
            go_wp2_with (first
              | (go_at_call_of 11 (vo); refine C1.out.mono ?_; rintro e w' ⟨rfl, rfl⟩)
              | (go_at_call_of 11 (vn); refine C2.out.mono ?_; rintro e w' ⟨rfl, rfl⟩))
            go_round
            case rel => exact ⟨k + 1, by omega, by go_num, fun i hi h => by
              by_cases e : i = k
              · subst e; exact ⟨H1.out, H2.out⟩
              · exact HT.out i (by omega) h⟩
            case measure => simp [intOf]; omega
          · rw [h2] at c2
            have C1 := Lib.hid c1
            have C2 := Lib.hid c2
            have H2 := Lib.hid h2
            clear c1 c2 h1 h2
            go_wp2_with (first
              | (go_at_call_of 11 (vo); refine C1.out.mono ?_; rintro e w' ⟨rfl, rfl⟩)
              | (go_at_call_of 11 (vn); refine C2.out.mono ?_; rintro e w' ⟨rfl, rfl⟩))
            go_ret
            exact ⟨ret_bool (greatHB_at hlt (.inr H2.out)).symm, rfl⟩
        · rw [h1] at c1
          have C1 := Lib.hid c1
          have H1 := Lib.hid h1
          clear c1 c2 h1
          go_wp2_with (go_at_call_of 11 (vo); refine C1.out.mono ?_; rintro e w' ⟨rfl, rfl⟩)
          go_ret
          exact ⟨ret_bool (greatHB_at hlt (.inl H1.out)).symm, rfl⟩
      · go_wp2
        go_ret
        exact ⟨ret_bool (greatHB_no hl k hlt HT.out).symm, rfl⟩
  · have hl' : 8 < xs.length := by omega
    clear hl
    go_enter Try.func19, Try.ntmps19
    go_wp2
    go_ret
    exact ⟨ret_bool (greatHB_len hl').symm, rfl⟩

theorem sizeH_succ {hs : List Hk} {k : Nat} (hk : k < hs.length) : sizeH (hs.take (k + 1)) = sizeH (hs.take k) + (hs[k].2.1.length + hs[k].2.2.length) := by
  unfold sizeH
  rw [List.take_succ_eq_append_getElem hk, List.map_append, List.sum_append]
  simp
theorem sizeH_bd {hs : List Hk} {N : Nat} (h : ∀ x ∈ hs, x.2.1.length + x.2.2.length ≤ N) : ∀ k, sizeH (hs.take k) ≤ k * N
  | 0 => by simp [sizeH]
  | k + 1 => by
    by_cases hk : k < hs.length
    · rw [sizeH_succ hk, Nat.add_mul, Nat.one_mul]
      have := sizeH_bd h k
      have := h _ (List.getElem_mem hk)
      omega
    · have := sizeH_bd h k
      rw [List.take_of_length_le (by omega)] at this ⊢
      rw [Nat.add_mul]; omega

set_option maxHeartbeats 400000 in
/-- Size, of at most 100000 hunks of at most 100000 lines each. -/
theorem size_any (w : World) (va : Value) (xs : List Hk) (ha : Hks w va xs) (hn : xs.length ≤ 100000) (hb : ∀ x ∈ xs, x.2.1.length + x.2.2.length ≤ 100000) :
    Calls Try.prog 21 #[va] w fun e w' => e = .returned (.int .i64 (sizeH xs)) ∧ Drawn w w' := by
  obtain ⟨A, c, rfl, hc, hm⟩ := ha.form
  have HB := Lib.hid hb
  clear hb
  go_enter Try.func21, Try.ntmps21
  go_wp2
  go_loopw [3, 4] (fun s i wr => ∃ k : Nat, k ≤ xs.length ∧ i = .int .i64 k ∧ s = .int .i64 (sizeH (xs.take k)) ∧ Drawn w wr) (fun _ i _ => xs.length - (intOf i).toNat)
  case atStart => exact ⟨0, by omega, rfl, rfl, Drawn.refl _⟩
  case round =>
    obtain ⟨k, hk, rfl, rfl, hd⟩ := hrel
    have ha := ha.keep hd.keeps
    by_cases hlt : k < xs.length
    · obtain ⟨b, off, vo, vn, rfl, a1, a2, a3, a4, a5, a6, a7⟩ := ha.get hlt
      obtain ⟨A1, c1, rfl, e1, e2⟩ := a4.form
      obtain ⟨A2, c2, rfl, e3, e4⟩ := a5.form
      have s1 := sizeH_bd HB.out k
      have s2 := HB.out _ (List.getElem_mem hlt)
      have s3 : k * 100000 ≤ 100000 * 100000 := Nat.mul_le_mul_right _ (by omega)
      have S := Lib.hid (sizeH_succ hlt)
      have s4 : sizeH (xs.take k) ≤ 10000000000 := by omega
      clear s1 s3
      go_wp2
      go_quiet (fail)
      go_wp2
      go_roundw
      case rel => exact ⟨k + 1, by omega, by go_num, by rw [S.out]; go_num, hd.drewN _⟩
      case measure => simp [intOf]; omega
    · go_wp2
      go_ret
      exact ⟨ret_int (by rw [List.take_of_length_le (by omega)]), hd⟩
end Go.Proofs.Ytobiheoammhcmaa
