/- The number of conflicts: cordwoodlaw19.conflicts, cordwoodref19.Conflicts. Lists that are too great: long, Great. -/
import Derived.Test.YthobbcafemkhbaaTmMem
namespace Go.Proofs.Ythobbcafemkhbaa
open Go.RowKit

def cntL (L : List Rg) : Nat := L.countP (·.1)
theorem cntL_succ {L : List Rg} {k : Nat} (h : k < L.length) : cntL (L.take (k + 1)) = cntL (L.take k) + if L[k].1 = true then 1 else 0 := by
  unfold cntL
  rw [List.take_succ_eq_append_getElem h, List.countP_append, List.countP_singleton]
theorem cntL_le (L : List Rg) : cntL L ≤ L.length := List.countP_le_length
theorem ret_nat {n m : Nat} (h : n = m) : Ending.returned (.int .i64 (n : Int)) = .returned (.int .i64 (m : Int)) := by rw [h]

set_option maxHeartbeats 1000000 in
theorem rconflicts_any (w : World) (v : Value) (L : List Rg) (h : Rgs w v L) :
    Calls Try.prog 50 #[v] w fun e w' => e = .returned (.int .i64 (cntL L : Nat)) ∧ w = w' := by
  obtain ⟨A, c, rfl, hc, hm⟩ := h.form
  go_enter Try.func50, Try.ntmps50
  go_wp2
  go_loop [3, 4] (fun n i => ∃ k m : Nat, k ≤ L.length ∧ i = .int .i64 k ∧ n = .int .i64 m ∧ Hid (m = cntL (L.take k)) ∧ m ≤ k) (fun _ i => L.length - (intOf i).toNat)
  case atStart => exact ⟨0, 0, by omega, rfl, rfl, rfl, by omega⟩
  case round =>
    obtain ⟨k, m, hk, rfl, rfl, HM, hmk⟩ := hrel
    by_cases hlt : k < L.length
    · obtain ⟨b, off, v1, v2, v3, rfl, a1, a2, a3, a4, a5, a6, a7⟩ := h.get hlt
      have HS := Lib.hid (cntL_succ hlt)
      generalize L[k] = x at *
      obtain ⟨x1, x2⟩ := x
      clear a2 a3 a4 a5 a6 a7
      simp only at a1
      cases x1
      · have HE : Hid (m = cntL (L.take (k + 1))) := by show _ = _; rw [HS.out, HM.out]; rfl
        go_wp2
        go_round
        case rel => exact ⟨k + 1, m, by omega, by go_num, rfl, HE, by omega⟩
        case measure => simp [intOf]; omega
      · have HE : Hid (m + 1 = cntL (L.take (k + 1))) := by show _ = _; rw [HS.out, HM.out]; rfl
        go_wp2
        go_round
        case rel => exact ⟨k + 1, m + 1, by omega, by go_num, by go_num, HE, by omega⟩
        case measure => simp [intOf]; omega
    · have HE : Hid (m = cntL L) := by show _ = _; rw [HM.out, List.take_of_length_le (by omega)]
      go_wp2
      go_ret
      exact ⟨ret_nat HE.out, rfl⟩

set_option maxHeartbeats 1000000 in
theorem conflicts_any (w : World) (v : Value) (L : List Rg) (h : Rgs w v L) :
    Calls Try.prog 22 #[v] w fun e w' => e = .returned (.int .i64 (cntL L : Nat)) ∧ Below w.heap.size w w' := by
  obtain ⟨A, c, rfl, hc, hm⟩ := h.form
  go_enter Try.func22, Try.ntmps22
  go_wp2
  go_loopw [3, 8] (fun n i wr => ∃ k : Nat, k ≤ L.length ∧ i = .int .i64 k ∧ n = .int .i64 (cntL (L.take k) : Nat) ∧ Below w.heap.size w wr) (fun _ i _ => L.length - (intOf i).toNat)
  case atStart => exact ⟨0, by omega, rfl, rfl, Below.refl _ _⟩
  case round =>
    obtain ⟨k, hk, rfl, rfl, hb⟩ := hrel
    have hcl := cntL_le (L.take k)
    rw [List.length_take] at hcl
    by_cases hlt : k < L.length
    · obtain ⟨b, off, v1, v2, v3, rfl, a1, a2, a3, a4, a5, a6, a7⟩ := (h.keep (Keeps.of_below hb)).get hlt
      have HS := Lib.hid (cntL_succ hlt)
      generalize L[k] = x at *
      obtain ⟨x1, x2⟩ := x
      obtain ⟨A1, c1, rfl, _, _⟩ := a5.form
      obtain ⟨A2, c2, rfl, _, _⟩ := a6.form
      obtain ⟨A3, c3, rfl, _, _⟩ := a7.form
      clear a5 a6 a7
      simp only at a1 a2 a3 a4
      have hb2 := hb.alloc hb.size (.cells #[.bool x1, .slice A1 x2.1.length c1, .slice A2 x2.2.1.length c2, .slice A3 x2.2.2.length c3] 58)
      generalize hct : cntL (L.take k) = m at *
      clear hct
      cases x1
      · have HE : Hid (cntL (L.take (k + 1)) = m) := HS.out
        go_wp2
        go_roundw
        case rel => exact ⟨k + 1, by omega, by go_num, by rw [HE.out], hb2⟩
        case measure => simp [intOf]; omega
      · have HE : Hid (cntL (L.take (k + 1)) = m + 1) := HS.out
        go_wp2
        go_roundw
        case rel => exact ⟨k + 1, by omega, by go_num, by rw [HE.out]; go_num, hb2⟩
        case measure => simp [intOf]; omega
    · have HE : Hid (cntL (L.take k) = cntL L) := by show _ = _; rw [List.take_of_length_le (by omega)]
      go_wp2
      go_ret
      exact ⟨ret_nat HE.out, hb⟩
end Go.Proofs.Ythobbcafemkhbaa
