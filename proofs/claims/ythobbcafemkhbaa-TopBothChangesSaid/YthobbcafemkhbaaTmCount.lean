/- The number of conflicts: cordwoodlaw19.conflicts, cordwoodref19.Conflicts. Lists that are too great: long, Great. Lists that are too great: cordwoodref19.long, Great. -/
import Derived.Test.YthobbcafemkhbaaTmMem
namespace Go.Proofs.Ythobbcafemkhbaa
open Go.RowKit

def cntL (L : List Rg) : Nat := L.countP (·.1)
theorem cntL_succ {L : List Rg} {k : Nat} (h : k < L.length) : cntL (L.take (k + 1)) = cntL (L.take k) + if L[k].1 = true then 1 else 0 := by
  unfold cntL
  rw [List.take_succ_eq_append_getElem h, List.countP_append, List.countP_singleton]
theorem cntL_le (L : List Rg) : cntL L ≤ L.length := List.countP_le_length
theorem ret_nat {n m : Nat} (h : n = m) : Ending.returned (.int .i64 (n : Int)) = .returned (.int .i64 (m : Int)) := by rw [h]

set_option maxHeartbeats 1000000 in
theorem rconflicts_any (w : World) (v : Value) (L : List Rg) (h : Rgs w v L) :
    Calls Try.prog 50 #[v] w fun e w' => e = .returned (.int .i64 (cntL L : Nat)) ∧ w = w' := by
  obtain ⟨A, c, rfl, hc, hm⟩ := h.form
  go_enter Try.func50, Try.ntmps50
  go_wp2
  go_loop [3, 4] (fun n i => ∃ k m : Nat, k ≤ L.length ∧ i = .int .i64 k ∧ n = .int .i64 m ∧ Hid (m = cntL (L.take k)) ∧ m ≤ k) (fun _ i => L.length - (intOf i).toNat)
  case atStart => exact ⟨0, 0, by omega, rfl, rfl, rfl, by omega⟩
  case round =>
    obtain ⟨k, m, hk, rfl, rfl, HM, hmk⟩ := hrel
    by_cases hlt : k < L.length
    · obtain ⟨b, off, v1, v2, v3, rfl, a1, a2, a3, a4, a5, a6, a7⟩ := h.get hlt
      have HS := Lib.hid (cntL_succ hlt)
      generalize L[k] = x at *
      obtain ⟨x1, x2⟩ := x
      clear a2 a3 a4 a5 a6 a7
      simp only at a1
      cases x1
      · have HE : Hid (m = cntL (L.take (k + 1))) := by show _ = _; rw [HS.out, HM.out]; rfl
        go_wp2
        go_round
        case rel => exact ⟨k + 1, m, by omega, by go_num, rfl, HE, by omega⟩
        case measure => simp [intOf]; omega
      · have HE : Hid (m + 1 = cntL (L.take (k + 1))) := by show _ = _; rw [HS.out, HM.out]; rfl
        go_wp2
        go_round
        case rel => exact ⟨k + 1, m + 1, by omega, by go_num, by go_num, HE, by omega⟩
        case measure => simp [intOf]; omega
    · have HE : Hid (m = cntL L) := by show _ = _; rw [HM.out, List.take_of_length_le (by omega)]
      go_wp2
      go_ret
      exact ⟨ret_nat HE.out, rfl⟩

set_option maxHeartbeats 1000000 in
theorem conflicts_any (w : World) (v : Value) (L : List Rg) (h : Rgs w v L) :
    Calls Try.prog 22 #[v] w fun e w' => e = .returned (.int .i64 (cntL L : Nat)) ∧ Below w.heap.size w w' := by
  obtain ⟨A, c, rfl, hc, hm⟩ := h.form
  go_enter Try.func22, Try.ntmps22
  go_wp2
  go_loopw [3, 8] (fun n i wr => ∃ k : Nat, k ≤ L.length ∧ i = .int .i64 k ∧ n = .int .i64 (cntL (L.take k) : Nat) ∧ Below w.heap.size w wr) (fun _ i _ => L.length - (intOf i).toNat)
  case atStart => exact ⟨0, by omega, rfl, rfl, Below.refl _ _⟩
  case round =>
    obtain ⟨k, hk, rfl, rfl, hb⟩ := hrel
    have hcl := cntL_le (L.take k)
    rw [List.length_take] at hcl
    by_cases hlt : k < L.length
    · obtain ⟨b, off, v1, v2, v3, rfl, a1, a2, a3, a4, a5, a6, a7⟩ := (h.keep (Keeps.of_below hb)).get hlt
      have HS := Lib.hid (cntL_succ hlt)
      generalize L[k] = x at *
      obtain ⟨x1, x2⟩ := x
      obtain ⟨A1, c1, rfl, _, _⟩ := a5.form
      obtain ⟨A2, c2, rfl, _, _⟩ := a6.form
      obtain ⟨A3, c3, rfl, _, _⟩ := a7.form
      clear a5 a6 a7
      simp only at a1 a2 a3 a4
      have hb2 := hb.alloc hb.size (.cells #[.bool x1, .slice A1 x2.1.length c1, .slice A2 x2.2.1.length c2, .slice A3 x2.2.2.length c3] 58)
      generalize hct : cntL (L.take k) = m at *
      clear hct
      cases x1
      · have HE : Hid (cntL (L.take (k + 1)) = m) := HS.out
        go_wp2
        go_roundw
        case rel => exact ⟨k + 1, by omega, by go_num, by rw [HE.out], hb2⟩
        case measure => simp [intOf]; omega
      · have HE : Hid (cntL (L.take (k + 1)) = m + 1) := HS.out
        go_wp2
        go_roundw
        case rel => exact ⟨k + 1, by omega, by go_num, by rw [HE.out]; go_num, hb2⟩
        case measure => simp [intOf]; omega
    · have HE : Hid (cntL (L.take k) = cntL L) := by show _ = _; rw [List.take_of_length_le (by omega)]
      go_wp2
      go_ret
      exact ⟨ret_nat HE.out, hb⟩
end Go.Proofs.Ythobbcafemkhbaa

namespace Go.Proofs.Ythobbcafemkhbaa
open Go.RowKit

def longB (xs : List ByteArray) : Bool := decide (20 < xs.length ∨ ∃ s ∈ xs, 40 < s.size)
theorem longB_len {xs : List ByteArray} (h : 20 < xs.length) : longB xs = true := decide_eq_true (.inl h)
theorem longB_at {xs : List ByteArray} {k : Nat} (h : k < xs.length) (hs : 40 < xs[k].size) : longB xs = true := decide_eq_true (.inr ⟨_, List.getElem_mem h, hs⟩)
theorem longB_no {xs : List ByteArray} (h : xs.length ≤ 20) (k : Nat) (hk : ¬ k < xs.length) (ht : ∀ i, i < k → ∀ (hi : i < xs.length), xs[i].size ≤ 40) : longB xs = false := by
  refine decide_eq_false ?_
  rintro (h1 | ⟨s, hs, h1⟩)
  · omega
  · obtain ⟨i, hi, rfl⟩ := List.getElem_of_mem hs
    have := ht i (by omega) hi
    omega
theorem longB_false {xs : List ByteArray} (h : longB xs = false) : xs.length ≤ 20 ∧ ∀ s ∈ xs, s.size ≤ 40 := by
  have h := of_decide_eq_false h
  refine ⟨?_, fun s hs => ?_⟩
  · apply Nat.le_of_not_lt; intro h1; exact h (.inl h1)
  · apply Nat.le_of_not_lt; intro h1; exact h (.inr ⟨s, hs, h1⟩)

set_option maxHeartbeats 400000 in
theorem long_any (w : World) (va : Value) (xs : List ByteArray) (ha : Strs w va xs) :
    Calls Try.prog 48 #[va] w fun e w' => e = .returned (.bool (longB xs)) ∧ w = w' := by
  obtain ⟨A, c, rfl, hc, hm⟩ := ha.form
  go_enter Try.func48, Try.ntmps48
  go_wp2
  go_loop [3] (fun i => ∃ k : Nat, k ≤ xs.length ∧ i = .int .i64 k ∧ Hid (∀ i, i < k → ∀ (hi : i < xs.length), xs[i].size ≤ 40)) (fun i => xs.length - (intOf i).toNat)
  case atStart => exact ⟨0, by omega, rfl, fun i hi => by omega⟩
  case round =>
    obtain ⟨k, hk, rfl, HT⟩ := hrel
    by_cases hlt : k < xs.length
    · obtain ⟨b, off, rfl, ha1⟩ := ha.get hlt
      by_cases hs : xs[k].size ≤ 40
      · go_wp2
        go_round
        case rel => exact ⟨k + 1, by omega, by go_num, fun i hi h => by
          by_cases e : i = k
          · subst e; exact hs
          · exact HT.out i (by omega) h⟩
        case measure => simp [intOf]; omega
      · have hs' : 40 < xs[k].size := by omega
        clear hs
        go_wp2
        go_ret
        exact ⟨ret_bool (longB_at hlt hs').symm, rfl⟩
    · by_cases hl : xs.length ≤ 20
      · have HE := Lib.hid (longB_no hl k hlt HT.out)
        have hd : decide ((20 : Int) < (xs.length : Int)) = false := by simp; omega
        go_wp2
        go_ret
        exact ⟨ret_bool HE.out.symm, rfl⟩
      · have hl' : 20 < xs.length := by omega
        have HE := Lib.hid (longB_len hl')
        have hd : decide ((20 : Int) < (xs.length : Int)) = true := by simp; omega
        go_wp2
        go_ret
        exact ⟨ret_bool HE.out.symm, rfl⟩

def greatR (L : List Rg) : Bool := decide (12 < L.length ∨ ∃ x ∈ L, longB x.2.1 = true ∨ longB x.2.2.1 = true ∨ longB x.2.2.2 = true)
theorem greatR_at {L : List Rg} {k : Nat} (h : k < L.length) (hs : longB L[k].2.1 = true ∨ longB L[k].2.2.1 = true ∨ longB L[k].2.2.2 = true) : greatR L = true := decide_eq_true (.inr ⟨_, List.getElem_mem h, hs⟩)
theorem greatR_no {L : List Rg} (k : Nat) (hk : ¬ k < L.length) (ht : ∀ i, i < k → ∀ (hi : i < L.length), longB L[i].2.1 = false ∧ longB L[i].2.2.1 = false ∧ longB L[i].2.2.2 = false) : greatR L = decide ((12 : Int) < (L.length : Int)) := by
  unfold greatR
  rw [decide_eq_decide]
  constructor
  · rintro (h1 | ⟨x, hx, h1⟩)
    · omega
    · obtain ⟨i, hi, rfl⟩ := List.getElem_of_mem hx
      obtain ⟨t1, t2, t3⟩ := ht i (by omega) hi
      rw [t1, t2, t3] at h1
      simp at h1
  · intro h; exact .inl (by omega)
theorem greatR_false {L : List Rg} (h : greatR L = false) : L.length ≤ 12 ∧ ∀ x ∈ L, longB x.2.1 = false ∧ longB x.2.2.1 = false ∧ longB x.2.2.2 = false := by
  have h := of_decide_eq_false h
  refine ⟨Nat.le_of_not_lt fun h1 => h (.inl h1), fun x hx => ⟨?_, ?_, ?_⟩⟩
  · rw [← Bool.not_eq_true]; exact fun h1 => h (.inr ⟨x, hx, .inl h1⟩)
  · rw [← Bool.not_eq_true]; exact fun h1 => h (.inr ⟨x, hx, .inr (.inl h1)⟩)
  · rw [← Bool.not_eq_true]; exact fun h1 => h (.inr ⟨x, hx, .inr (.inr h1)⟩)

set_option maxRecDepth 100000 in
set_option maxHeartbeats 1000000 in
theorem greatR_any (w : World) (v : Value) (L : List Rg) (h : Rgs w v L) :
    Calls Try.prog 26 #[v] w fun e w' => e = .returned (.bool (greatR L)) ∧ w = w' := by
  obtain ⟨A, c, rfl, hc, hm⟩ := h.form
  go_enter Try.func26, Try.ntmps26
  go_wp2
  go_loop [3] (fun i => ∃ k : Nat, k ≤ L.length ∧ i = .int .i64 k ∧ Hid (∀ i, i < k → ∀ (hi : i < L.length), longB L[i].2.1 = false ∧ longB L[i].2.2.1 = false ∧ longB L[i].2.2.2 = false)) (fun i => L.length - (intOf i).toNat)
  case atStart => exact ⟨0, by omega, rfl, fun i hi => by omega⟩
  case round =>
    obtain ⟨k, hk, rfl, HT⟩ := hrel
    by_cases hlt : k < L.length
    · obtain ⟨b, off, v1, v2, v3, rfl, a1, a2, a3, a4, a5, a6, a7⟩ := h.get hlt
      have c1 := long_any w _ _ a5
      have c2 := long_any w _ _ a6
      have c3 := long_any w _ _ a7
      have HAT := Lib.hid (fun hs => greatR_at hlt hs)
      have HST : Hid (longB L[k].2.1 = false → longB L[k].2.2.1 = false → longB L[k].2.2.2 = false → ∀ i, i < k + 1 → ∀ (hi : i < L.length), longB L[i].2.1 = false ∧ longB L[i].2.2.1 = false ∧ longB L[i].2.2.2 = false) := fun h1 h2 h3 i hi h => by
        by_cases e : i = k
        · subst e; exact ⟨h1, h2, h3⟩
        · exact HT.out i (by omega) h
      clear a5 a6 a7 a1
      generalize L[k] = x at *
      cases h1 : longB x.2.1
      · rw [h1] at c1
        cases h2 : longB x.2.2.1
        · rw [h2] at c2
          cases h3 : longB x.2.2.2
          · rw [h3] at c3
            have HE := Lib.hid (HST.out h1 h2 h3)
            clear h1 h2 h3 HST HAT
            go_wp2_with fail
            refine c1.mono ?_
            rintro e w1 ⟨rfl, rfl⟩
            go_wp2_with fail
            refine c2.mono ?_
            rintro e w1 ⟨rfl, rfl⟩
            go_wp2_with fail
            refine c3.mono ?_
            rintro e w1 ⟨rfl, rfl⟩
            clear c1 c2 c3
            go_wp2
            go_round
            case rel => exact ⟨k + 1, by omega, by go_num, HE.out⟩
            case measure => simp [intOf]; omega
          · rw [h3] at c3
            have HE := Lib.hid (HAT.out (.inr (.inr h3)))
            clear h1 h2 h3 HST HAT
            go_wp2_with fail
            refine c1.mono ?_
            rintro e w1 ⟨rfl, rfl⟩
            go_wp2_with fail
            refine c2.mono ?_
            rintro e w1 ⟨rfl, rfl⟩
            go_wp2_with fail
            refine c3.mono ?_
            rintro e w1 ⟨rfl, rfl⟩
            clear c1 c2 c3
            go_wp2
            go_ret
            exact ⟨ret_bool HE.out.symm, rfl⟩
        · rw [h2] at c2
          have HE := Lib.hid (HAT.out (.inr (.inl h2)))
          clear h1 h2 HST HAT c3
          go_wp2_with fail
          refine c1.mono ?_
          rintro e w1 ⟨rfl, rfl⟩
          go_wp2_with fail
          refine c2.mono ?_
          rintro e w1 ⟨rfl, rfl⟩
          clear c1 c2
          go_wp2
          go_ret
          exact ⟨ret_bool HE.out.symm, rfl⟩
      · rw [h1] at c1
        have HE := Lib.hid (HAT.out (.inl h1))
        clear h1 HST HAT c2 c3
        go_wp2_with fail
        refine c1.mono ?_
        rintro e w1 ⟨rfl, rfl⟩
        clear c1
        go_wp2
        go_ret
        exact ⟨ret_bool HE.out.symm, rfl⟩
    · have HE := Lib.hid (greatR_no k hlt HT.out)
      go_wp2
      go_ret
      exact ⟨ret_bool HE.out.symm, rfl⟩
end Go.Proofs.Ythobbcafemkhbaa
