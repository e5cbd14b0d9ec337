/- The functions that only read lists of lines and hunks. -/
import Derived.Test.YthobbcafemkhbaaProg
import Derived.Test.YthobbcafemkhbaaBase
import Derived.Deep.QuietTactic
import Derived.Deep.RegionWith
namespace Go.Proofs.Ythobbcafemkhbaa
open Go.RowKit

theorem eqB_take {α : Type} [DecidableEq α] {xs ys : List α} {k : Nat} (h : xs.length = ys.length) (e : xs.take k = ys.take k) (hk : ¬ k < xs.length) : eqB xs ys = true := by
  rw [List.take_of_length_le (by omega), List.take_of_length_le (by omega)] at e
  exact eqB_true e
theorem eqB_ne_at {α : Type} [DecidableEq α] {xs ys : List α} {k : Nat} (hx : k < xs.length) (hy : k < ys.length) (h : ¬ xs[k] = ys[k]) : eqB xs ys = false :=
  eqB_false (by rintro rfl; exact h rfl)
theorem eqB_ne_len {α : Type} [DecidableEq α] {xs ys : List α} (h : ¬ xs.length = ys.length) : eqB xs ys = false :=
  eqB_false (by rintro rfl; exact h rfl)
theorem take_succ_eq {α : Type} {xs ys : List α} {k : Nat} (hx : k < xs.length) (hy : k < ys.length) (e : xs.take k = ys.take k) (h : xs[k] = ys[k]) : xs.take (k + 1) = ys.take (k + 1) := by
  rw [List.take_succ_eq_append_getElem hx, List.take_succ_eq_append_getElem hy, e, h]

set_option maxHeartbeats 400000 in
theorem same_any (w : World) (va vb : Value) (xs ys : List ByteArray) (ha : Strs w va xs) (hb : Strs w vb ys) :
    Calls Try.prog 42 #[va, vb] w fun e w' => e = .returned (.bool (eqB xs ys)) ∧ Drawn w w' := by
  obtain ⟨A, c, rfl, hc, hm⟩ := ha.form
  obtain ⟨B, d, rfl, hc', hm'⟩ := hb.form
  by_cases hl : xs.length = ys.length
  · have hle : ys.length ≤ xs.length := by omega
    have hle' : xs.length ≤ ys.length := by omega
    have hne : ((xs.length : Int) != ys.length) = false := by simp [hl]
    have HL := Lib.hid hl
    clear hl
    go_enter Try.func42, Try.ntmps42
    go_wp2
    go_loopw [5] (fun i wr => ∃ k : Nat, k ≤ xs.length ∧ i = .int .i64 k ∧ xs.take k = ys.take k ∧ Drawn w wr) (fun i _ => xs.length - (intOf i).toNat)
    case atStart => exact ⟨0, by omega, rfl, rfl, Drawn.refl _⟩
    case round =>
      obtain ⟨k, hk, rfl, ht, hd⟩ := hrel
      have ha := ha.keep hd.keeps
      have hb := hb.keep hd.keeps
      have HT := Lib.hid ht
      clear ht
      by_cases hlt : k < xs.length
      · have hlt' : k < ys.length := by omega
        obtain ⟨b, off, rfl, ha1⟩ := ha.get hlt
        obtain ⟨b', off', rfl, hb1⟩ := hb.get hlt'
        by_cases he : xs[k] = ys[k]
        · have hbe := str_eq he
          have HE := Lib.hid he
          clear he
          go_wp2
          go_quiet (fail)
          go_wp2
          go_roundw
          case rel => exact ⟨k + 1, by omega, by go_num, take_succ_eq hlt hlt' HT.out HE.out, hd.drewN _⟩
          case measure => simp [intOf]; omega
        · have hbe := str_ne he
          have HE := Lib.hid he
          clear he
          go_wp2
          go_quiet (fail)
          go_wp2
          go_ret
          exact ⟨ret_bool (eqB_ne_at hlt hlt' HE.out).symm, hd.drewN _⟩
      · go_wp2
        go_ret
        exact ⟨ret_bool (eqB_take HL.out HT.out hlt).symm, hd⟩
  · have hne : ((xs.length : Int) != ys.length) = true := by simp; omega
    go_enter Try.func42, Try.ntmps42
    go_wp2
    go_ret
    exact ⟨ret_bool (eqB_ne_len hl).symm, Drawn.refl _⟩

set_option maxHeartbeats 400000 in
theorem equal_any (w : World) (va vb : Value) (xs ys : List ByteArray) (ha : Strs w va xs) (hb : Strs w vb ys) :
    Calls Try.prog 32 #[va, vb] w fun e w' => e = .returned (.bool (eqB xs ys)) ∧ Drawn w w' := by
  obtain ⟨A, c, rfl, hc, hm⟩ := ha.form
  obtain ⟨B, d, rfl, hc', hm'⟩ := hb.form
  by_cases hl : xs.length = ys.length
  · have hle : ys.length ≤ xs.length := by omega
    have hle' : xs.length ≤ ys.length := by omega
    have hne : ((xs.length : Int) != ys.length) = false := by simp [hl]
    have HL := Lib.hid hl
    clear hl
    go_enter Try.func32, Try.ntmps32
    go_wp2
    go_loopw [13] (fun i wr => ∃ k : Nat, k ≤ xs.length ∧ i = .int .i64 k ∧ xs.take k = ys.take k ∧ Drawn w wr) (fun i _ => xs.length - (intOf i).toNat)
    case atStart => exact ⟨0, by omega, rfl, rfl, Drawn.refl _⟩
    case round =>
      obtain ⟨k, hk, rfl, ht, hd⟩ := hrel
      have ha := ha.keep hd.keeps
      have hb := hb.keep hd.keeps
      have HT := Lib.hid ht
      clear ht
      by_cases hlt : k < xs.length
      · have hlt' : k < ys.length := by omega
        obtain ⟨b, off, rfl, ha1⟩ := ha.get hlt
        obtain ⟨b', off', rfl, hb1⟩ := hb.get hlt'
        by_cases he : xs[k] = ys[k]
        · have hbe := str_eq he
          have HE := Lib.hid he
          clear he
          go_wp2
          go_quiet (fail)
          go_wp2
          go_roundw
          case rel => exact ⟨k + 1, by omega, by go_num, take_succ_eq hlt hlt' HT.out HE.out, hd.drewN _⟩
          case measure => simp [intOf]; omega
        · have hbe := str_ne he
          have HE := Lib.hid he
          clear he
          go_wp2
          go_quiet (fail)
          go_wp2
          go_ret
          exact ⟨ret_bool (eqB_ne_at hlt hlt' HE.out).symm, hd.drewN _⟩
      · go_wp2
        go_ret
        exact ⟨ret_bool (eqB_take HL.out HT.out hlt).symm, hd⟩
  · have hne : ((xs.length : Int) != ys.length) = true := by simp; omega
    go_enter Try.func32, Try.ntmps32
    go_wp2
    go_ret
    exact ⟨ret_bool (eqB_ne_len hl).symm, Drawn.refl _⟩

end Go.Proofs.Ythobbcafemkhbaa
