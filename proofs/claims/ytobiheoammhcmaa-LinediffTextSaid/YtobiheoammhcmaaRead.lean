/- The functions that only read lists of lines and hunks. -/
import Derived.Test.YtobiheoammhcmaaProg
import Derived.Test.YtobiheoammhcmaaBase
import Derived.Deep.QuietTactic
import Derived.Deep.RegionWith
namespace Go.Proofs.Ytobiheoammhcmaa
open Go.RowKit

theorem eqB_take {α : Type} [DecidableEq α] {xs ys : List α} {k : Nat} (h : xs.length = ys.length) (e : xs.take k = ys.take k) (hk : ¬ k < xs.length) : eqB xs ys = true := by
  rw [List.take_of_length_le (by omega), List.take_of_length_le (by omega)] at e
  exact eqB_true e
theorem eqB_ne_at {α : Type} [DecidableEq α] {xs ys : List α} {k : Nat} (hx : k < xs.length) (hy : k < ys.length) (h : ¬ xs[k] = ys[k]) : eqB xs ys = false :=
  eqB_false (by rintro rfl; exact h rfl)
theorem eqB_ne_len {α : Type} [DecidableEq α] {xs ys : List α} (h : ¬ xs.length = ys.length) : eqB xs ys = false :=
  eqB_false (by rintro rfl; exact h rfl)
theorem take_succ_eq {α : Type} {xs ys : List α} {k : Nat} (hx : k < xs.length) (hy : k < ys.length) (e : xs.take k = ys.take k) (h : xs[k] = ys[k]) : xs.take (k + 1) = ys.take (k + 1) := by
  rw [List.take_succ_eq_append_getElem hx, List.take_succ_eq_append_getElem hy, e, h]

set_option maxHeartbeats 400000 in
theorem same_any (w : World) (va vb : Value) (xs ys : List ByteArray) (ha : Strs w va xs) (hb : Strs w vb ys) :
    Calls Try.prog 18 #[va, vb] w fun e w' => e = .returned (.bool (eqB xs ys)) ∧ Drawn w w' := by
  obtain ⟨A, c, rfl, hc, hm⟩ := ha.form
  obtain ⟨B, d, rfl, hc', hm'⟩ := hb.form
  by_cases hl : xs.length = ys.length
  · have hle : ys.length ≤ xs.length := by omega
    have hle' : xs.length ≤ ys.length := by omega
    have hne : ((xs.length : Int) != ys.length) = false := by simp [hl]
    have HL := Lib.hid hl
    clear hl
    go_enter Try.func18, Try.ntmps18
    go_wp2
    go_loopw [5] (fun i wr => ∃ k : Nat, k ≤ xs.length ∧ i = .int .i64 k ∧ xs.take k = ys.take k ∧ Drawn w wr) (fun i _ => xs.length - (intOf i).toNat)
    case atStart => exact ⟨0, by omega, rfl, rfl, Drawn.refl _⟩
    case round =>
      obtain ⟨k, hk, rfl, ht, hd⟩ := hrel
      have ha := ha.keep hd.keeps
      have hb := hb.keep hd.keeps
      have HT := Lib.hid ht
      clear ht
      by_cases hlt : k < xs.length
      · have hlt' : k < ys.length := by omega
        obtain ⟨b, off, rfl, ha1⟩ := ha.get hlt
        obtain ⟨b', off', rfl, hb1⟩ := hb.get hlt'
        by_cases he : xs[k] = ys[k]
        · have hbe := str_eq he
          have HE := Lib.hid he
          clear he
          go_wp2
          go_quiet (fail)
          go_wp2
          go_roundw
          case rel => exact ⟨k + 1, by omega, by go_num, take_succ_eq hlt hlt' HT.out HE.out, hd.drewN _⟩
          case measure => simp [intOf]; omega
        · have hbe := str_ne he
          have HE := Lib.hid he
          clear he
          go_wp2
          go_quiet (fail)
          go_wp2
          go_ret
          exact ⟨ret_bool (eqB_ne_at hlt hlt' HE.out).symm, hd.drewN _⟩
      · go_wp2
        go_ret
        exact ⟨ret_bool (eqB_take HL.out HT.out hlt).symm, hd⟩
  · have hne : ((xs.length : Int) != ys.length) = true := by simp; omega
    go_enter Try.func18, Try.ntmps18
    go_wp2
    go_ret
    exact ⟨ret_bool (eqB_ne_len hl).symm, Drawn.refl _⟩

set_option maxHeartbeats 400000 in
theorem equal_any (w : World) (va vb : Value) (xs ys : List ByteArray) (ha : Strs w va xs) (hb : Strs w vb ys) :
    Calls Try.prog 35 #[va, vb] w fun e w' => e = .returned (.bool (eqB xs ys)) ∧ Drawn w w' := by
  obtain ⟨A, c, rfl, hc, hm⟩ := ha.form
  obtain ⟨B, d, rfl, hc', hm'⟩ := hb.form
  by_cases hl : xs.length = ys.length
  · have hle : ys.length ≤ xs.length := by omega
    have hle' : xs.length ≤ ys.length := by omega
    have hne : ((xs.length : Int) != ys.length) = false := by simp [hl]
    have HL := Lib.hid hl
    clear hl
    go_enter Try.func35, Try.ntmps35
    go_wp2
    go_loopw [13] (fun i wr => ∃ k : Nat, k ≤ xs.length ∧ i = .int .i64 k ∧ xs.take k = ys.take k ∧ Drawn w wr) (fun i _ => xs.length - (intOf i).toNat)
    case atStart => exact ⟨0, by omega, rfl, rfl, Drawn.refl _⟩
    case round =>
      obtain ⟨k, hk, rfl, ht, hd⟩ := hrel
      have ha := ha.keep hd.keeps
      have hb := hb.keep hd.keeps
      have HT := Lib.hid ht
      clear ht
      by_cases hlt : k < xs.length
      · have hlt' : k < ys.length := by omega
        obtain ⟨b, off, rfl, ha1⟩ := ha.get hlt
        obtain ⟨b', off', rfl, hb1⟩ := hb.get hlt'
        by_cases he : xs[k] = ys[k]
        · have hbe := str_eq he
          have HE := Lib.hid he
          clear he
          go_wp2
          go_quiet (fail)
          go_wp2
          go_roundw
          case rel => exact ⟨k + 1, by omega, by go_num, take_succ_eq hlt hlt' HT.out HE.out, hd.drewN _⟩
          case measure => simp [intOf]; omega
        · have hbe := str_ne he
          have HE := Lib.hid he
          clear he
          go_wp2
          go_quiet (fail)
          go_wp2
          go_ret
          exact ⟨ret_bool (eqB_ne_at hlt hlt' HE.out).symm, hd.drewN _⟩
      · go_wp2
        go_ret
        exact ⟨ret_bool (eqB_take HL.out HT.out hlt).symm, hd⟩
  · have hne : ((xs.length : Int) != ys.length) = true := by simp; omega
    go_enter Try.func35, Try.ntmps35
    go_wp2
    go_ret
    exact ⟨ret_bool (eqB_ne_len hl).symm, Drawn.refl _⟩

set_option maxHeartbeats 1000000 in
theorem sameHunks_any (w : World) (va vb : Value) (xs ys : List Hk) (ha : Hks w va xs) (hb : Hks w vb ys) :
    Calls Try.prog 13 #[va, vb] w fun e w' => e = .returned (.bool (eqB xs ys)) ∧ Drawn w w' := by
  obtain ⟨A, c, rfl, hc, hm⟩ := ha.form
  obtain ⟨B, d, rfl, hc', hm'⟩ := hb.form
  by_cases hl : xs.length = ys.length
  · have hle : ys.length ≤ xs.length := by omega
    have hle' : xs.length ≤ ys.length := by omega
    have hne : ((xs.length : Int) != ys.length) = false := by simp [hl]
    have HL := Lib.hid hl
    clear hl
    go_enter Try.func13, Try.ntmps13
    go_wp2
    go_loopw [5] (fun i wr => ∃ k : Nat, k ≤ xs.length ∧ i = .int .i64 k ∧ xs.take k = ys.take k ∧ Drawn w wr) (fun i _ => xs.length - (intOf i).toNat)
    case atStart => exact ⟨0, by omega, rfl, rfl, Drawn.refl _⟩
    case round =>
      obtain ⟨k, hk, rfl, ht, hd⟩ := hrel
      have ha := ha.keep hd.keeps
      have hb := hb.keep hd.keeps
      have HT := Lib.hid ht
      clear ht
      by_cases hlt : k < xs.length
      · have hlt' : k < ys.length := by omega
        obtain ⟨b, off, vo, vn, rfl, a1, a2, a3, a4, a5, a6, a7⟩ := ha.get hlt
        obtain ⟨b', off', vo', vn', rfl, b1, b2, b3, b4, b5, b6, b7⟩ := hb.get hlt'
        have c1 := fun m => same_any _ _ _ _ _ (a4.keep (Keeps.drewN wr m)) (b4.keep (Keeps.drewN wr m))
        have c2 := fun m => same_any _ _ _ _ _ (a5.keep (Keeps.drewN wr m)) (b5.keep (Keeps.drewN wr m))
        by_cases h1 : xs[k].1 = ys[k].1
        · have e1 : (xs[k].1 != ys[k].1) = false := by simp [h1]
          by_cases h2 : xs[k].2.1 = ys[k].2.1
          · rw [eqB_true h2] at c1
            by_cases h3 : xs[k].2.2 = ys[k].2.2
            · rw [eqB_true h3] at c2
              have HE : Hid (xs[k] = ys[k]) := Prod.ext h1 (Prod.ext h2 h3)
              have C1 := Lib.hid c1
              have C2 := Lib.hid c2
              clear h1 h2 h3 c1 c2
              go_wp2
              go_quiet ((first
                | (go_at_call_of 18 (vo); exact quiet_drawn (C1.out _))
                | (go_at_call_of 18 (vn); exact quiet_drawn (C2.out _))))
              go_wp2
              go_roundw
              case rel => exact ⟨k + 1, by omega, by go_num, take_succ_eq hlt hlt' HT.out HE.out, hd.drewN _⟩
              case measure => simp [intOf]; omega
            · rw [eqB_false h3] at c2
              have HE : Hid (¬ xs[k] = ys[k]) := fun h => h3 (by rw [h])
              have C1 := Lib.hid c1
              have C2 := Lib.hid c2
              clear h1 h2 h3 c1 c2
              go_wp2
              go_quiet ((first
                | (go_at_call_of 18 (vo); exact quiet_drawn (C1.out _))
                | (go_at_call_of 18 (vn); exact quiet_drawn (C2.out _))))
              go_wp2
              go_ret
              exact ⟨ret_bool (eqB_ne_at hlt hlt' HE.out).symm, hd.drewN _⟩
          · rw [eqB_false h2] at c1
            have HE : Hid (¬ xs[k] = ys[k]) := fun h => h2 (by rw [h])
            have C1 := Lib.hid c1
            clear h1 h2 c1 c2
            go_wp2
            go_quiet ((first
              | (go_at_call_of 18 (vo); exact quiet_drawn (C1.out _))))
            go_wp2
            go_ret
            exact ⟨ret_bool (eqB_ne_at hlt hlt' HE.out).symm, hd.drewN _⟩
        · have e1 : (xs[k].1 != ys[k].1) = true := by simp [h1]
          have HE : Hid (¬ xs[k] = ys[k]) := fun h => h1 (by rw [h])
          clear h1 c1 c2
          go_wp2
          go_quiet (fail)
          go_wp2
          go_ret
          exact ⟨ret_bool (eqB_ne_at hlt hlt' HE.out).symm, hd.drewN _⟩
      · go_wp2
        go_ret
        exact ⟨ret_bool (eqB_take HL.out HT.out hlt).symm, hd⟩
  · have hne : ((xs.length : Int) != ys.length) = true := by simp; omega
    go_enter Try.func13, Try.ntmps13
    go_wp2
    go_ret
    exact ⟨ret_bool (eqB_ne_len hl).symm, Drawn.refl _⟩
end Go.Proofs.Ytobiheoammhcmaa
