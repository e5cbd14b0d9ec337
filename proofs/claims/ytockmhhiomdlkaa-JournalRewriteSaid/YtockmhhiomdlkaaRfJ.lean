/- The reference's head; running operations one list behind another. -/
import Derived.Test.YtockmhhiomdlkaaRfI
namespace Go.Proofs.Ytockmhhiomdlkaa
set_option linter.unusedVariables false
set_option linter.unusedSimpArgs false
open Go.RowKit

theorem runD_append (a b : List (Option Wop)) : ∀ d : Dk, runD d (a ++ b) = if (runD d a).2 ≠ 0 then runD d a else runD (runD d a).1 b := by
  induction a with
  | nil => intro d; rfl
  | cons o os ih =>
    intro d
    show (if (stepD d o).2 ≠ 0 then stepD d o else runD (stepD d o).1 (os ++ b)) = _
    have e : runD d (o :: os) = if (stepD d o).2 ≠ 0 then stepD d o else runD (stepD d o).1 os := rfl
    rw [e]
    by_cases h : (stepD d o).2 ≠ 0
    · rw [if_pos h, if_pos h, if_pos h]
    · rw [if_neg h, if_neg h]
      exact ih _
theorem syD_valid {d : Dk} (hv : Valid d) (h0 : syE d = 0) : Valid (syD d) ∧ (syD d).size = d.size ∧ (syD d).secs.length = d.secs.length ∧ (syD d).pend.length ≤ d.pend.length := by
  have e : syD d = ⟨d.size, cur d, [], lessZ d.left⟩ := by unfold syD; rw [if_pos h0]
  rw [e]
  exact ⟨valid_cur hv _ (by have := hv.lf; unfold lessZ; split <;> omega), rfl, cur_length d, Nat.zero_le _⟩
/-- What a run keeps. -/
theorem runD_keep : ∀ (ops : List (Option Wop)) (d : Dk), Valid d → (∀ w, some w ∈ ops → w.1 < d.secs.length ∧ (w.2.size : Int) = d.size) →
    ((runD d ops).2 = 0 ∨ (runD d ops).2 = 20) ∧ Valid (runD d ops).1 ∧ (runD d ops).1.size = d.size ∧ (runD d ops).1.secs.length = d.secs.length ∧ (runD d ops).1.pend.length ≤ d.pend.length + ops.length
  | [], d, hv, _ => ⟨.inl rfl, hv, rfl, rfl, Nat.le_refl _⟩
  | o :: os, d, hv, hw => by
    have e : runD d (o :: os) = if (stepD d o).2 ≠ 0 then stepD d o else runD (stepD d o).1 os := rfl
    have key : ((stepD d o).2 = 0 ∧ Valid (stepD d o).1 ∧ (stepD d o).1.size = d.size ∧ (stepD d o).1.secs.length = d.secs.length ∧ (stepD d o).1.pend.length ≤ d.pend.length + 1) ∨ ((stepD d o).2 = 20 ∧ (stepD d o).1 = d) := by
      cases o with
      | none =>
        rcases syD_keep hv with h | h
        · obtain ⟨a, b, c, f⟩ := syD_valid hv h
          exact .inl ⟨h, a, b, c, by show (syD d).pend.length ≤ _; omega⟩
        · exact .inr h
      | some w =>
        obtain ⟨h1, h2⟩ := hw w (by simp)
        rcases wrD_keep hv h1 h2 with ⟨a, b, c, f, g⟩ | h
        · exact .inl ⟨a, b, c, f, by show (wrD d w.1 w.2).pend.length ≤ _; omega⟩
        · exact .inr h
    rw [e]
    rcases key with ⟨k1, k2, k3, k4, k5⟩ | ⟨k1, k2⟩
    · rw [if_neg (by simp [k1])]
      obtain ⟨i1, i2, i3, i4, i5⟩ := runD_keep os (stepD d o).1 k2 fun w hm => by
        have := hw w (by simp [hm])
        rw [k4, k3]; exact this
      exact ⟨i1, i2, i3.trans k3, i4.trans k4, by simp only [List.length_cons]; omega⟩
    · rw [if_pos (by rw [k1]; decide), k2]
      exact ⟨.inr k1, hv, rfl, rfl, by simp⟩
theorem mark_str {sz k : Nat} (hs : 1 ≤ sz) : strB [UInt8.ofNat k] ++ zeroS (sz - 1) = markS sz k := by
  unfold markS zeroS padT
  rw [strB_append]
  rfl
set_option maxRecDepth 100000 in
set_option maxHeartbeats 2000000 in
theorem rhead_any (k sz : Nat) (hk : k ≤ 3) (hs1 : 1 ≤ sz) (hs2 : sz ≤ 1000) (W : World) :
    Calls Try.prog 52 #[.int .i64 k, .int .i64 sz] W fun e w => e = .returned (.string (markS sz k)) ∧ Below W.heap.size W w := by
  have hkn : (UInt8.ofNat k).toNat = k := UInt8.toNat_ofNat_of_lt' (by simp [UInt8.size]; omega)
  have hwk : IntKind.u8.wrap (k : Int) = (k : Int) := IntWalk.u8_in _ (by omega)
  have HMK := Lib.hid (mark_str (k := k) hs1)
  have hz : ¬ 9223372036854775807 < (strB [UInt8.ofNat k]).size + (zeroS (sz - 1)).size := by rw [strB_size, zeroS_size]; simp only [List.length_singleton]; omega
  have HDR : Hid (Below W.heap.size W W.drew) := below_drew1 (Below.refl _ _)
  go_enter Try.func52, Try.ntmps52
  go_upto_region 1 with (fail)
  refine prom_start (by kernel_rfl) 9 (fun i v w => match i with
    | 0 => v = .int .i64 (k : Int)
    | 1 => v = .int .u8 (k : Int)
    | 2 => (∃ b cap, v = .slice (some ⟨b, 0, none⟩) 1 cap ∧ Blk w b 5 #[.int .u8 (k : Int)])
    | 3 => v = .string (strB [UInt8.ofNat k])
    | 4 => v = .int .i64 (sz : Int)
    | 5 => v = .int .i64 ((sz - 1 : Nat) : Int)
    | 6 => v = .string (zeroS (sz - 1))
    | 7 => v = .string (markS sz k)
    | _ => v = .string (markS sz k)) 0 (by kernel_rfl) (fun i v w w' h hb => ?_) ?_ ?_
  · match i, h with
    | 0, h => exact h
    | 1, h => exact h
    | 2, h => exact (let ⟨b, cap, e, hp⟩ := h; ⟨b, cap, e, hp.keep hb⟩)
    | 3, h => exact h
    | 4, h => exact h
    | 5, h => exact h
    | 6, h => exact h
    | 7, h => exact h
    | 8, h => exact h
    | _ + 9, h => exact h
  · rintro i o hi ho a w1 hdf hlen hold hbel hdep K hK
    clear hdf
    have s0 : a.tmps.getD 0 undef = .int .i64 (k : Int) := by
      rw [Array.getD_eq_getD_getElem?, hold 0 ?_]
      · rfl
      · intro j hj
        have : j = 0 ∨ j = 1 ∨ j = 2 ∨ j = 3 ∨ j = 4 ∨ j = 5 ∨ j = 6 ∨ j = 7 ∨ j = 8 := by omega
        rcases this with rfl | rfl | rfl | rfl | rfl | rfl | rfl | rfl | rfl <;> decide
    have s1 : a.tmps.getD 1 undef = .int .i64 (sz : Int) := by
      rw [Array.getD_eq_getD_getElem?, hold 1 ?_]
      · rfl
      · intro j hj
        have : j = 0 ∨ j = 1 ∨ j = 2 ∨ j = 3 ∨ j = 4 ∨ j = 5 ∨ j = 6 ∨ j = 7 ∨ j = 8 := by omega
        rcases this with rfl | rfl | rfl | rfl | rfl | rfl | rfl | rfl | rfl <;> decide
    have hi' : i = 0 ∨ i = 1 ∨ i = 2 ∨ i = 3 ∨ i = 4 ∨ i = 5 ∨ i = 6 ∨ i = 7 ∨ i = 8 := by omega
    rcases hi' with rfl | rfl | rfl | rfl | rfl | rfl | rfl | rfl | rfl
    · obtain rfl := Option.some.inj ho
      unfold Oper.wp
      simp only [execOp, Act.eval, s0]
      go_simp
      exact hK _ w1 rfl (Below.refl _ _)
    · obtain rfl := Option.some.inj ho
      have e5 := hdep 0 5 (by omega) (by kernel_rfl) (by kernel_rfl)
      simp only at e5
      unfold Oper.wp
      simp only [execOp, Act.eval, e5, hwk]
      go_simp
      exact hK _ w1 rfl (Below.refl _ _)
    · obtain rfl := Option.some.inj ho
      have e6 := hdep 1 6 (by omega) (by kernel_rfl) (by kernel_rfl)
      simp only at e6
      clear hlen
      rw [Array.getD_eq_getD_getElem?] at e6
      unfold Oper.wp
      simp only [execOp, Act.eval, e6]
      go_simp
      exact hK _ _ ⟨w1.heap.size, 1, rfl, Blk.new w1 #[.int .u8 (k : Int)] 5⟩ ((Below.refl _ _).alloc (Nat.le_refl _) _)
    · obtain rfl := Option.some.inj ho
      have e7 := hdep 2 7 (by omega) (by kernel_rfl) (by kernel_rfl)
      simp only at e7
      obtain ⟨b, cap, hx7, hb7⟩ := e7
      have hcv := conv_one (P := Try.prog) w1 100 5 9 Try.underlying100 Try.underlying5 Try.underlying9 b (UInt8.ofNat k) cap (by rw [hkn]; exact hb7.cell (j := 0) rfl)
      unfold Oper.wp
      simp only [execOp, Act.eval, hx7]
      go_simp
      exact hK _ w1 rfl (Below.refl _ _)
    · obtain rfl := Option.some.inj ho
      unfold Oper.wp
      simp only [execOp, Act.eval, s1]
      go_simp
      exact hK _ w1 rfl (Below.refl _ _)
    · obtain rfl := Option.some.inj ho
      have e9 := hdep 4 9 (by omega) (by kernel_rfl) (by kernel_rfl)
      simp only at e9
      unfold Oper.wp
      simp only [execOp, Act.eval, e9]
      go_simp
      exact hK _ w1 (by simp only; rw [i64w (by omega) (by omega)]; exact congrArg (Value.int .i64) (by omega)) (Below.refl _ _)
    · obtain rfl := Option.some.inj ho
      have e10 := hdep 5 10 (by omega) (by kernel_rfl) (by kernel_rfl)
      simp only at e10
      unfold Oper.wp
      simp only [execOp, Act.eval, e10]
      go_simp
      refine (rzeros_any (sz - 1) (by omega) w1).mono ?_
      rintro e' w4 ⟨rfl, hb4⟩
      exact hK _ w4 rfl hb4
    · obtain rfl := Option.some.inj ho
      have e8 := hdep 3 8 (by omega) (by kernel_rfl) (by kernel_rfl)
      simp only at e8
      have e11 := hdep 6 11 (by omega) (by kernel_rfl) (by kernel_rfl)
      simp only at e11
      unfold Oper.wp
      simp only [execOp, Act.eval, e8, e11, hz]
      go_simp
      exact hK _ w1 (by simp only; rw [HMK.out]) (Below.refl _ _)
    · obtain rfl := Option.some.inj ho
      have e12 := hdep 7 12 (by omega) (by kernel_rfl) (by kernel_rfl)
      simp only at e12
      unfold Oper.wp
      simp only [execOp, Act.eval, e12]
      go_simp
      exact hK _ w1 rfl (Below.refl _ _)
  · rintro a w1 hdf hlen hold hbel hnew
    have e4 := hnew 8 4 (by omega) (by kernel_rfl)
    simp only at e4
    have hact := act_eq [5, 6, 7, 8, 9, 10, 11, 12, 4] hdf hlen (fun t ht => hold t (fun j hj hd => by
      have : j = 0 ∨ j = 1 ∨ j = 2 ∨ j = 3 ∨ j = 4 ∨ j = 5 ∨ j = 6 ∨ j = 7 ∨ j = 8 := by omega
      rcases this with rfl | rfl | rfl | rfl | rfl | rfl | rfl | rfl | rfl <;> (obtain rfl := Option.some.inj hd; exact ht (by decide))))
    simp only [List.foldl, e4, List.setIfInBounds_toArray, List.set_cons_zero, List.set_cons_succ] at hact
    clear hdf hlen hold hnew e4
    generalize a.tmps.getD 5 undef = u5 at hact
    generalize a.tmps.getD 6 undef = u6 at hact
    generalize a.tmps.getD 7 undef = u7 at hact
    generalize a.tmps.getD 8 undef = u8 at hact
    generalize a.tmps.getD 9 undef = u9 at hact
    generalize a.tmps.getD 10 undef = u10 at hact
    generalize a.tmps.getD 11 undef = u11 at hact
    generalize a.tmps.getD 12 undef = u12 at hact
    subst hact
    have kb := HDR.out.trans (hbel.mono HDR.out.size)
    clear hbel HDR HMK
    refine AtS.done (by kernel_rfl) (NoPanic.normal ?_)
    go_wp2
    exact bodyPost_ret (v := .string (markS sz k)) (by simp [results, Try.results52, go_sem]) rfl ⟨rfl, kb⟩
end Go.Proofs.Ytockmhhiomdlkaa
