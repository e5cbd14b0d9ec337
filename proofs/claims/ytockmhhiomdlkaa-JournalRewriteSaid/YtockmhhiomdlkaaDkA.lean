/- Words for disks in memory. Checks of disks: inRange, has, less, Check, in the program and in the reference implementation. disk.Check. cordwoodref05.Check. cordwoodref05: pick, zeros, Current, Read. cordwoodref05.Current, Read. cordwoodref05.Read, Sync. cordwoodref05.Sync. cordwoodref05.Write. cordwoodref05.Cut. cordwoodref05.Same of a disk with itself; Great. cordwoodref05.New. -/
import Derived.Test.YtockmhhiomdlkaaMem
import Derived.Test.YtockmhhiomdlkaaDkPlain
import Derived.Test.YtockmhhiomdlkaaProg
import Derived.Deep.QuietTactic
import Derived.Outline
import Derived.BigRegion
import Derived.Deep.CutBlock
import Derived.Deep.DeepCutAuto
import Derived.Deep.DeepMust
import Derived.Deep.RegionLaw
import Derived.Deep.RegionWith
import Derived.StillTailTactics
import Derived.Deep.RegionHeld3
namespace Go.Proofs.Ytockmhhiomdlkaa
set_option linter.unusedSimpArgs false
set_option linter.unusedVariables false
open Go.RowKit

/-- A pending write: its sector and its data. -/
def WrR : List Value → Int × ByteArray → Prop := fun us x => us = [.int .i64 x.1, .string x.2] ∧ -9223372036854775808 ≤ x.1 ∧ x.1 ≤ 9223372036854775807
def Wrs (w : World) (v : Value) (l : List (Int × ByteArray)) : Prop := Sl w 2 WrR v l
theorem Wrs.keep {w w' : World} {v : Value} {l : List (Int × ByteArray)} (h : Wrs w v l) (k : Keeps w w') : Wrs w' v l := Sl.keep h k fun _ _ h => h
theorem Wrs.form {w : World} {v : Value} {xs : List (Int × ByteArray)} (h : Wrs w v xs) : ∃ A c, v = .slice A xs.length c ∧ xs.length ≤ c ∧ c ≤ 9223372036854775807 := Sl.form h
theorem Wrs.get {w : World} {l : List (Int × ByteArray)} {A : Option Addr} {c n : Nat} (h : Wrs w (.slice A n c) l) {i : Nat} (hi : i < l.length) :
    ∃ b off, A = some ⟨b, off, none⟩ ∧ w.cell? ⟨b, off + i * 2, none⟩ = some (.int .i64 l[i].1) ∧ w.cell? ⟨b, off + i * 2 + 1, none⟩ = some (.string l[i].2) ∧
      -9223372036854775808 ≤ l[i].1 ∧ l[i].1 ≤ 9223372036854775807 := by
  obtain ⟨b, off, us, e, ⟨rfl, h1, h2⟩, _, hc⟩ := Sl.get h (List.getElem?_eq_getElem hi) (by omega)
  exact ⟨b, off, e, hc 0 _ rfl, hc 1 _ rfl, h1, h2⟩

/-- Numbers. -/
def IntR : List Value → Int → Prop := fun us x => us = [.int .i64 x] ∧ -9223372036854775808 ≤ x ∧ x ≤ 9223372036854775807
def Ints (w : World) (v : Value) (l : List Int) : Prop := Sl w 1 IntR v l
theorem Ints.keep {w w' : World} {v : Value} {l : List Int} (h : Ints w v l) (k : Keeps w w') : Ints w' v l := Sl.keep h k fun _ _ h => h
theorem Ints.form {w : World} {v : Value} {xs : List Int} (h : Ints w v xs) : ∃ A c, v = .slice A xs.length c ∧ xs.length ≤ c ∧ c ≤ 9223372036854775807 := Sl.form h
theorem Ints.get {w : World} {l : List Int} {A : Option Addr} {c n : Nat} (h : Ints w (.slice A n c) l) {i : Nat} (hi : i < l.length) :
    ∃ b off, A = some ⟨b, off, none⟩ ∧ w.cell? ⟨b, off + i, none⟩ = some (.int .i64 l[i]) ∧ -9223372036854775808 ≤ l[i] ∧ l[i] ≤ 9223372036854775807 := by
  obtain ⟨b, off, us, e, ⟨rfl, h1, h2⟩, _, hc⟩ := Sl.get h (List.getElem?_eq_getElem hi) (by omega)
  exact ⟨b, off, e, by simpa using hc 0 _ rfl, h1, h2⟩

/-- A disk: its four parts. -/
structure DskP (w : World) (vs vp : Value) (d : Dk) : Prop where
  sec : Strs w vs d.secs
  pen : Wrs w vp d.pend
  z0 : -9223372036854775808 ≤ d.size
  z1 : d.size ≤ 9223372036854775807
  f0 : -9223372036854775808 ≤ d.left
  f1 : d.left ≤ 9223372036854775807
theorem DskP.keep {w w' : World} {vs vp : Value} {d : Dk} (h : DskP w vs vp d) (k : Keeps w w') : DskP w' vs vp d := ⟨h.sec.keep k, h.pen.keep k, h.z0, h.z1, h.f0, h.f1⟩
/-- A disk as one value. -/
def Dsk (w : World) (v : Value) (d : Dk) : Prop := ∃ vs vp, v = .agg #[.int .i64 d.size, vs, vp, .int .i64 d.left] ∧ DskP w vs vp d
theorem Dsk.keep {w w' : World} {v : Value} {d : Dk} (h : Dsk w v d) (k : Keeps w w') : Dsk w' v d := by
  obtain ⟨vs, vp, e, h⟩ := h
  exact ⟨vs, vp, e, h.keep k⟩
/-- The cells of a boxed disk. -/
def dkCells (d : Dk) (vs vp : Value) : Array Value := #[.int .i64 d.size, vs, vp, .int .i64 d.left]
theorem Dsk.nodisk (w : World) : DskP w (.slice none 0 0) (.slice none 0 0) noDisk := ⟨Sl.nil _ _ _, Sl.nil _ _ _, by decide, by decide, by decide, by decide⟩
end Go.Proofs.Ytockmhhiomdlkaa

namespace Go.Proofs.Ytockmhhiomdlkaa
set_option linter.unusedSimpArgs false
set_option linter.unusedVariables false
open Go.RowKit

def inRangeB (s z : Int) : Bool := decide (1 ≤ s ∧ s ≤ 1000 ∧ 1 ≤ z ∧ z ≤ 512)
def hasB (n : Nat) (i : Int) : Bool := decide (0 ≤ i ∧ i < n)
theorem inRangeB_true {s z : Int} (h : inRangeB s z = true) : 1 ≤ s ∧ s ≤ 1000 ∧ 1 ≤ z ∧ z ≤ 512 := of_decide_eq_true h
theorem inRangeB_false {s z : Int} (h : inRangeB s z = false) : ¬ (1 ≤ s ∧ s ≤ 1000 ∧ 1 ≤ z ∧ z ≤ 512) := of_decide_eq_false h
theorem hasB_true {n : Nat} {i : Int} (h : hasB n i = true) : 0 ≤ i ∧ i < n := of_decide_eq_true h
theorem hasB_false {n : Nat} {i : Int} (h : hasB n i = false) : i < 0 ∨ (n : Int) ≤ i := by have := of_decide_eq_false h; omega

set_option maxHeartbeats 400000 in
theorem inRange_any (s z : Int) (w : World) : Calls Try.prog 77 #[.int .i64 s, .int .i64 z] w fun e w' => e = .returned (.bool (inRangeB s z)) ∧ w = w' := by
  have key : inRangeB s z = (decide (1 ≤ s) && decide (s ≤ 1000) && decide (1 ≤ z) && decide (z ≤ 512)) := by
    unfold inRangeB
    rw [Bool.eq_iff_iff]
    simp
    omega
  have K := Lib.hid key
  clear key
  by_cases h1 : 1 ≤ s <;> by_cases h2 : s ≤ 1000 <;> by_cases h3 : 1 ≤ z <;> by_cases h4 : z ≤ 512
  all_goals
    go_enter Try.func77, Try.ntmps77
    go_wp2
    go_ret
    exact ⟨ret_bool (by rw [K.out]; simp [h1, h2, h3, h4]), rfl⟩

set_option maxHeartbeats 400000 in
theorem has_any (z l i : Int) (A : Option Addr) (n c : Nat) (vp : Value) (_hn : n ≤ c) (_hc : c ≤ 9223372036854775807) (w : World) :
    Calls Try.prog 57 #[.agg #[.int .i64 z, .slice A n c, vp, .int .i64 l], .int .i64 i] w fun e w' => e = .returned (.bool (hasB n i)) ∧ Below w.heap.size w w' := by
  have key : hasB n i = (decide (0 ≤ i) && decide (i < (n : Int))) := by
    unfold hasB
    rw [Bool.eq_iff_iff]
    simp
  have K := Lib.hid key
  clear key
  by_cases h1 : 0 ≤ i <;> by_cases h2 : i < (n : Int)
  all_goals
    go_enter Try.func57, Try.ntmps57
    go_wp2
    go_ret
    exact ⟨ret_bool (by rw [K.out]; simp [h1, h2]), (Below.refl _ _).alloc (Nat.le_refl _) _⟩

theorem less_any (n : Int) (h0 : -9223372036854775808 ≤ n) (h1 : n ≤ 9223372036854775807) (w : World) :
    Calls Try.prog 65 #[.int .i64 n] w fun e w' => e = .returned (.int .i64 (lessZ n)) ∧ w = w' := by
  by_cases h : 0 < n
  all_goals
    go_enter Try.func65, Try.ntmps65
    go_wp2
    go_ret
    exact ⟨ret_int (by unfold lessZ; first | rw [if_pos h] | rw [if_neg (by omega)]), rfl⟩
theorem rless_any (n : Int) (h0 : -9223372036854775808 ≤ n) (h1 : n ≤ 9223372036854775807) (w : World) :
    Calls Try.prog 76 #[.int .i64 n] w fun e w' => e = .returned (.int .i64 (lessZ n)) ∧ w = w' := by
  by_cases h : 0 < n
  all_goals
    go_enter Try.func76, Try.ntmps76
    go_wp2
    go_ret
    exact ⟨ret_int (by unfold lessZ; first | rw [if_pos h] | rw [if_neg (by omega)]), rfl⟩
end Go.Proofs.Ytockmhhiomdlkaa

namespace Go.Proofs.Ytockmhhiomdlkaa
set_option linter.unusedSimpArgs false
set_option linter.unusedVariables false
open Go.RowKit

def ErrPost (W : World) (n : Int) (e : Ending) (w' : World) : Prop := e = .returned (.int .i64 n) ∧ Below W.heap.size W w'

set_option maxRecDepth 100000 in
set_option maxHeartbeats 1000000 in
theorem check_any (W : World) (vs vp : Value) (d : Dk) (h : DskP W vs vp d) :
    Calls Try.prog 53 #[.agg #[.int .i64 d.size, vs, vp, .int .i64 d.left]] W (ErrPost W (chk d)) := by
  obtain ⟨size, secs, pend, left⟩ := d
  obtain ⟨hs, hp, z0, z1, f0, f1⟩ := h
  simp only at hs hp z0 z1 f0 f1
  generalize hfull : chk ⟨size, secs, pend, left⟩ = full
  obtain ⟨A, c, rfl, hc, hm⟩ := hs.form
  obtain ⟨P, cp, rfl, hcp, hmp⟩ := hp.form
  have r1 := inRange_any secs.length size
  cases hr : inRangeB secs.length size
  · have hF : full = 2 := by
      rw [← hfull]; unfold chk; rw [if_pos (by have := inRangeB_false hr; simp only; omega)]
    rw [hr] at r1
    have R1 := Lib.hid r1
    have HF := Lib.hid hF
    clear hfull hr r1 hF
    go_enter Try.func53, Try.ntmps53
    go_wp2_with (go_at_call 77; refine (R1.out _).mono ?_; rintro e w' ⟨rfl, rfl⟩)
    go_ret
    exact ⟨ret_int HF.out.symm, (Below.refl _ _).alloc (Nat.le_refl _) _⟩
  · have hF : full = chkS size (chkW secs.length size (chkL left) pend) (secs.drop 0) := by
      rw [← hfull]; unfold chk; rw [if_neg (by have := inRangeB_true hr; simp only; omega)]; rfl
    rw [hr] at r1
    have R1 := Lib.hid r1
    have HF := Lib.hid hF
    clear hfull hr r1 hF
    have hbk := Blk.new W #[.int .i64 size, .slice A secs.length c, .slice P pend.length cp, .int .i64 left] 25
    have hd1 := (Below.refl W.heap.size W).alloc (Nat.le_refl _) (.cells #[.int .i64 size, .slice A secs.length c, .slice P pend.length cp, .int .i64 left] 25)
    go_enter Try.func53, Try.ntmps53
    go_wp2_with (go_at_call 77; refine (R1.out _).mono ?_; rintro e w' ⟨rfl, rfl⟩)
    generalize W.alloc (.cells #[.int .i64 size, .slice A secs.length c, .slice P pend.length cp, .int .i64 left] 25) = w1 at *
    have hs1 := hs.keep (Keeps.of_below hd1)
    have q0 := hbk.cell (j := 0) rfl
    have q2 := hbk.cell (j := 2) rfl
    have q3 := hbk.cell (j := 3) rfl
    go_loop [17] (fun t => ∃ k : Nat, k ≤ secs.length ∧ t = .int .i64 k ∧ Hid (full = chkS size (chkW secs.length size (chkL left) pend) (secs.drop k))) (fun t => secs.length - (intOf t).toNat)
    case atStart => exact ⟨0, by omega, rfl, HF⟩
    case round =>
      obtain ⟨k, hk, rfl, HK⟩ := hrel
      clear HF
      by_cases hlt : k < secs.length
      · obtain ⟨b, off, rfl, a1⟩ := hs1.get hlt
        by_cases he : (secs[k].size : Int) = size
        · have HE := Lib.hid (HK.out.trans (chkS_ok hlt he))
          have hb : (((secs[k].size : Int)) != size) = false := by rw [he]; simp
          clear HK he
          go_wp2
          go_round
          case rel => exact ⟨k + 1, by omega, by go_num, HE⟩
          case measure => simp [intOf]; omega
        · have HE := Lib.hid (HK.out.trans (chkS_bad hlt he))
          have hb : (((secs[k].size : Int)) != size) = true := by simpa using he
          clear HK he
          go_wp2
          go_ret
          exact ⟨ret_int HE.out.symm, hd1⟩
      · have HE := Lib.hid (HK.out.trans (chkS_end hlt))
        clear HK
        have HE2 : Hid (full = chkW secs.length size (chkL left) (pend.drop 0)) := HE.out
        clear HE
        go_wp2
        go_loopw [30] (fun t wr => ∃ k : Nat, k ≤ pend.length ∧ t = .int .i64 k ∧ Hid (full = chkW secs.length size (chkL left) (pend.drop k)) ∧ Blk wr W.heap.size 25 #[.int .i64 size, .slice A secs.length c, .slice P pend.length cp, .int .i64 left] ∧ Below W.heap.size W wr) (fun t _ => pend.length - (intOf t).toNat)
        case atStart => exact ⟨0, by omega, rfl, HE2, hbk, hd1⟩
        case round =>
          clear HE2 q0 q2 q3 hbk hd1
          obtain ⟨k, hk, rfl, HK, hbk, hd⟩ := hrel
          have hpk := hp.keep (Keeps.of_below hd)
          have q0 := hbk.cell (j := 0) rfl
          have q1 := hbk.cell (j := 1) rfl
          have q2 := hbk.cell (j := 2) rfl
          have q3 := hbk.cell (j := 3) rfl
          by_cases hlt2 : k < pend.length
          · obtain ⟨b, off, rfl, a1, a2, a3, a4⟩ := hpk.get hlt2
            have hsz := hd.size
            have hbl := hbk.lt
            have hbw := Blk.new wr #[.int .i64 pend[k].1, .string pend[k].2] 78
            have hbk2 := hbk.alloc (.cells #[.int .i64 pend[k].1, .string pend[k].2] 78)
            have hd2 := hd.alloc hsz (.cells #[.int .i64 pend[k].1, .string pend[k].2] 78)
            have hh := has_any size left pend[k].1 A secs.length c (.slice (some ⟨b, off, none⟩) pend.length cp) hc hm
            generalize hw1 : pend[k].1 = i1 at *
            generalize hw2 : pend[k].2 = i2 at *
            cases hhas : hasB secs.length i1
            · rw [hhas] at hh
              have HE := Lib.hid (HK.out.trans (chkW_range hlt2 (by rw [hw1]; exact hasB_false hhas)))
              have HH := Lib.hid hh
              clear HK hw1 hw2 hhas hh
              go_wp2_with fail
              refine (HH.out _).mono ?_
              rintro e w3 ⟨rfl, hb3⟩
              have hd3 := hd2.trans (hb3.mono hd2.size)
              go_wp2
              go_ret
              exact ⟨ret_int HE.out.symm, hd3⟩
            · rw [hhas] at hh
              have hnr : ¬ (pend[k].1 < 0 ∨ (secs.length : Int) ≤ pend[k].1) := by rw [hw1]; have := hasB_true hhas; omega
              have HH := Lib.hid hh
              by_cases he : (i2.size : Int) = size
              · have HE := Lib.hid (HK.out.trans (chkW_ok hlt2 hnr (by rw [hw2]; exact he)))
                have hb : (((i2.size : Int)) != size) = false := by rw [he]; simp
                clear HK hw1 hw2 hhas hh he hnr
                go_wp2_with fail
                refine (HH.out _).mono ?_
                rintro e w3 ⟨rfl, hb3⟩
                have hd3 := hd2.trans (hb3.mono hd2.size)
                have hbk3 := hbk2.keep hb3
                have hbw3 := hbw.keep hb3
                clear q0 q1 q2 q3 hbk hbk2 hbw hd hd2 hb3
                have q0 := hbk3.cell (j := 0) rfl
                have q1 := hbw3.cell (j := 1) rfl
                go_wp2
                go_roundw
                case rel => exact ⟨k + 1, by omega, by go_num, HE, hbk3, hd3⟩
                case measure => simp [intOf]; omega
              · have HE := Lib.hid (HK.out.trans (chkW_bad hlt2 hnr (by rw [hw2]; exact he)))
                have hb : (((i2.size : Int)) != size) = true := by simpa using he
                clear HK hw1 hw2 hhas hh he hnr
                go_wp2_with fail
                refine (HH.out _).mono ?_
                rintro e w3 ⟨rfl, hb3⟩
                have hd3 := hd2.trans (hb3.mono hd2.size)
                have hbk3 := hbk2.keep hb3
                have hbw3 := hbw.keep hb3
                clear q0 q1 q2 q3 hbk hbk2 hbw hd hd2 hb3
                have q0 := hbk3.cell (j := 0) rfl
                have q1 := hbw3.cell (j := 1) rfl
                go_wp2
                go_ret
                exact ⟨ret_int HE.out.symm, hd3⟩
          · have HE := Lib.hid (HK.out.trans (chkW_end hlt2))
            clear HK
            by_cases hl : left < -1
            · have HL := Lib.hid (show chkL left = 2 by unfold chkL; rw [if_pos hl])
              go_wp2
              go_ret
              exact ⟨ret_int (HE.out.trans HL.out).symm, hd⟩
            · have HL := Lib.hid (show chkL left = 0 by unfold chkL; rw [if_neg hl])
              go_wp2
              go_ret
              exact ⟨ret_int (HE.out.trans HL.out).symm, hd⟩
end Go.Proofs.Ytockmhhiomdlkaa

namespace Go.Proofs.Ytockmhhiomdlkaa
set_option linter.unusedSimpArgs false
set_option linter.unusedVariables false
open Go.RowKit

set_option maxRecDepth 100000 in
set_option maxHeartbeats 1000000 in
theorem rcheck_any (W : World) (vs vp : Value) (d : Dk) (h : DskP W vs vp d) :
    Calls Try.prog 75 #[.agg #[.int .i64 d.size, vs, vp, .int .i64 d.left]] W (ErrPost W (chk d)) := by
  obtain ⟨size, secs, pend, left⟩ := d
  obtain ⟨hs, hp, z0, z1, f0, f1⟩ := h
  simp only at hs hp z0 z1 f0 f1
  generalize hfull : chk ⟨size, secs, pend, left⟩ = full
  obtain ⟨A, c, rfl, hc, hm⟩ := hs.form
  obtain ⟨P, cp, rfl, hcp, hmp⟩ := hp.form
  by_cases hbad : size < 1 ∨ 512 < size ∨ secs.length < 1 ∨ 1000 < secs.length
  · have hF : full = 2 := by
      rw [← hfull]; unfold chk; rw [if_pos hbad]
    have HF := Lib.hid hF
    clear hfull hF
    have hcase : size < 1 ∨ (¬ size < 1 ∧ 512 < size) ∨ (¬ size < 1 ∧ ¬ 512 < size ∧ (secs.length : Int) < 1) ∨ (¬ size < 1 ∧ ¬ 512 < size ∧ ¬ (secs.length : Int) < 1 ∧ 1000 < (secs.length : Int)) := by omega
    clear hbad
    rcases hcase with h1 | ⟨h1, h2⟩ | ⟨h1, h2, h3⟩ | ⟨h1, h2, h3, h4⟩
    all_goals
      go_enter Try.func75, Try.ntmps75
      go_wp2
      go_ret
      exact ⟨ret_int HF.out.symm, (Below.refl _ _).alloc (Nat.le_refl _) _⟩
  · have hF : full = chkS size (chkW secs.length size (chkL left) pend) (secs.drop 0) := by
      rw [← hfull]; unfold chk; rw [if_neg hbad]; rfl
    have HF := Lib.hid hF
    have h1 : ¬ size < 1 := by omega
    have h2 : ¬ 512 < size := by omega
    have h3 : ¬ (secs.length : Int) < 1 := by omega
    have h4 : ¬ 1000 < (secs.length : Int) := by omega
    clear hfull hF hbad
    have hbk := Blk.new W #[.int .i64 size, .slice A secs.length c, .slice P pend.length cp, .int .i64 left] 25
    have hd1 := (Below.refl W.heap.size W).alloc (Nat.le_refl _) (.cells #[.int .i64 size, .slice A secs.length c, .slice P pend.length cp, .int .i64 left] 25)
    go_enter Try.func75, Try.ntmps75
    go_wp2
    go_loopw [3] (fun t wr => ∃ k : Nat, k ≤ secs.length ∧ t = .int .i64 k ∧ Hid (full = chkS size (chkW secs.length size (chkL left) pend) (secs.drop k)) ∧ Blk wr W.heap.size 25 #[.int .i64 size, .slice A secs.length c, .slice P pend.length cp, .int .i64 left] ∧ Below W.heap.size W wr) (fun t _ => secs.length - (intOf t).toNat)
    case atStart => exact ⟨0, by omega, rfl, HF, hbk, hd1⟩
    case round =>
      clear HF hbk hd1
      obtain ⟨k, hk, rfl, HK, hbk, hd⟩ := hrel
      have hsk := hs.keep (Keeps.of_below hd)
      have q0 := hbk.cell (j := 0) rfl
      have q1 := hbk.cell (j := 1) rfl
      have q2 := hbk.cell (j := 2) rfl
      have q3 := hbk.cell (j := 3) rfl
      by_cases hlt : k < secs.length
      · obtain ⟨b, off, rfl, a1⟩ := hsk.get hlt
        by_cases he : (secs[k].size : Int) = size
        · have HE := Lib.hid (HK.out.trans (chkS_ok hlt he))
          have hb : (((secs[k].size : Int)) != size) = false := by rw [he]; simp
          clear HK he
          go_wp2
          go_quiet (fail)
          go_wp2
          go_roundw
          case rel => exact ⟨k + 1, by omega, by go_num, HE, hbk.drewN _, below_drewN' hd _⟩
          case measure => simp [intOf]; omega
        · have HE := Lib.hid (HK.out.trans (chkS_bad hlt he))
          have hb : (((secs[k].size : Int)) != size) = true := by simpa using he
          clear HK he
          go_wp2
          go_quiet (fail)
          go_wp2
          go_ret
          exact ⟨ret_int HE.out.symm, below_drewN' hd _⟩
      · have HE := Lib.hid (HK.out.trans (chkS_end hlt))
        clear HK
        have HE2 : Hid (full = chkW secs.length size (chkL left) (pend.drop 0)) := HE.out
        clear HE
        go_wp2
        have hbk0 := hbk
        have hd0 := hd
        clear q0 q1 q2 q3 hbk hd
        go_loopw [4] (fun t wr => ∃ k : Nat, k ≤ pend.length ∧ t = .int .i64 k ∧ Hid (full = chkW secs.length size (chkL left) (pend.drop k)) ∧ Blk wr W.heap.size 25 #[.int .i64 size, .slice A secs.length c, .slice P pend.length cp, .int .i64 left] ∧ Below W.heap.size W wr) (fun t _ => pend.length - (intOf t).toNat)
        case atStart => exact ⟨0, by omega, rfl, HE2, hbk0, hd0⟩
        case round =>
          clear HE2 hbk0 hd0
          obtain ⟨k, hk, rfl, HK, hbk, hd⟩ := hrel
          have hpk := hp.keep (Keeps.of_below hd)
          have hbl := hbk.lt
          have q0 := hbk.cell (j := 0) rfl
          have q1 := hbk.cell (j := 1) rfl
          have q2 := hbk.cell (j := 2) rfl
          have q3 := hbk.cell (j := 3) rfl
          by_cases hlt2 : k < pend.length
          · obtain ⟨b, off, rfl, a1, a2, a3, a4⟩ := hpk.get hlt2
            have hsz := hd.size
            have hbk2 := hbk.alloc (.cells #[.int .i64 pend[k].1, .string pend[k].2] 78)
            have hd2 := hd.alloc hsz (.cells #[.int .i64 pend[k].1, .string pend[k].2] 78)
            generalize hw1 : pend[k].1 = i1 at *
            generalize hw2 : pend[k].2 = i2 at *
            by_cases hhas : i1 < 0 ∨ (secs.length : Int) ≤ i1
            · have HE := Lib.hid (HK.out.trans (chkW_range hlt2 (by rw [hw1]; exact hhas)))
              have hc2 : i1 < 0 ∨ (¬ i1 < 0 ∧ (secs.length : Int) ≤ i1) := by omega
              clear HK hw1 hw2 hhas
              rcases hc2 with hc2 | ⟨hc2, hc3⟩
              all_goals
                go_wp2
                go_ret
                exact ⟨ret_int HE.out.symm, hd2⟩
            · have hnr : ¬ (pend[k].1 < 0 ∨ (secs.length : Int) ≤ pend[k].1) := by rw [hw1]; exact hhas
              have hc2 : ¬ i1 < 0 := by omega
              have hc3 : ¬ (secs.length : Int) ≤ i1 := by omega
              by_cases he : (i2.size : Int) = size
              · have HE := Lib.hid (HK.out.trans (chkW_ok hlt2 hnr (by rw [hw2]; exact he)))
                have hb : (((i2.size : Int)) != size) = false := by rw [he]; simp
                clear HK hw1 hw2 he hnr hhas
                go_wp2
                go_roundw
                case rel => exact ⟨k + 1, by omega, by go_num, HE, hbk2, hd2⟩
                case measure => simp [intOf]; omega
              · have HE := Lib.hid (HK.out.trans (chkW_bad hlt2 hnr (by rw [hw2]; exact he)))
                have hb : (((i2.size : Int)) != size) = true := by simpa using he
                clear HK hw1 hw2 he hnr hhas
                go_wp2
                go_ret
                exact ⟨ret_int HE.out.symm, hd2⟩
          · have HE := Lib.hid (HK.out.trans (chkW_end hlt2))
            clear HK
            by_cases hl : left < -1
            · have HL := Lib.hid (show chkL left = 2 by unfold chkL; rw [if_pos hl])
              go_wp2
              go_ret
              exact ⟨ret_int (HE.out.trans HL.out).symm, hd⟩
            · have HL := Lib.hid (show chkL left = 0 by unfold chkL; rw [if_neg hl])
              go_wp2
              go_ret
              exact ⟨ret_int (HE.out.trans HL.out).symm, hd⟩
end Go.Proofs.Ytockmhhiomdlkaa

namespace Go.Proofs.Ytockmhhiomdlkaa
set_option linter.unusedSimpArgs false
set_option linter.unusedVariables false
open Go.RowKit

theorem Try.info_str : (Try.prog.info? 9).map (fun i => (i.zero, i.size, i.bytes)) = some (some (.string ByteArray.empty), 1, 16) := by kernel_rfl
theorem Try.info_wr : (Try.prog.info? 78).map (fun i => (i.zero, i.size, i.bytes)) = some (some (.agg #[.int .i64 0, .string ByteArray.empty]), 2, 24) := by kernel_rfl

/-! a row of one-cell elements that the call owns -/
section
variable {w : World} {base n : Nat} {e : TypeId} {v : Value} {xs : List Value}
theorem own_row {sz : Nat} (h : w.ownsRow base e sz v n xs) (hn : 0 < n) : ∃ g cap, v = .slice (some ⟨g, 0, none⟩) n cap ∧ base ≤ g ∧ g < w.heap.size ∧ n ≤ cap ∧ cap ≤ 9223372036854775807 := by
  rcases h.2 with ⟨rfl, rfl⟩ | ⟨g, cap, cur, rfl, hb, hg, h1, h2, _⟩
  · omega
  · exact ⟨g, cap, rfl, hb, (Array.getElem?_eq_some_iff.1 hg).1, h1, by unfold maxLen at h2; omega⟩
theorem own_at {g cap : Nat} (h : w.ownsRow base e 1 (.slice (some ⟨g, 0, none⟩) n cap) n xs) {i : Nat} {u : Value} (hi : xs[i]? = some u) :
    w.cell? ⟨g, i, none⟩ = some u ∧ w.frozen? ⟨g, i, none⟩ = false := by
  rcases h.2 with ⟨h1, _⟩ | ⟨g', cap', cur, h1, hb, hg, hn, hm, hc, hx⟩
  · cases h1
  · cases h1
    have hB : Blk w g e cur := hg
    refine ⟨?_, hB.frozen i⟩
    rw [← hx, List.getElem?_take] at hi
    split at hi
    · exact hB.cell (by simpa using hi)
    · cases hi
theorem own_set {g cap : Nat} (h : w.ownsRow base e 1 (.slice (some ⟨g, 0, none⟩) n cap) n xs) {i : Nat} (u : Value) :
    (w.setCell ⟨g, i, none⟩ u).ownsRow base e 1 (.slice (some ⟨g, 0, none⟩) n cap) n (xs.set i u) := by
  refine ⟨by rw [List.length_set]; exact h.1, ?_⟩
  rcases h.2 with ⟨h1, _⟩ | ⟨g', cap', cur, h1, hb, hg, hn, hm, hc, hx⟩
  · cases h1
  · cases h1
    have hB : Blk w g e cur := hg
    refine .inr ⟨g, cap, cur.setIfInBounds i u, rfl, hb, hB.set i u, hn, hm, by simpa using hc, ?_⟩
    rw [← hx, Array.toList_setIfInBounds, List.take_set]
end

theorem elems_map' : ∀ (xs : List ByteArray), Elems 1 Str1 xs (xs.map .string)
  | [] => rfl
  | x :: xs => ⟨[.string x], _, rfl, rfl, rfl, elems_map' xs⟩

def nulB (n : Nat) : ByteArray := ⟨Array.replicate n 0⟩
theorem nulB_size (n : Nat) : (nulB n).size = n := by simp [nulB, ByteArray.size]
theorem nulB_succ (n : Nat) : nulB n ++ ⟨#[0]⟩ = nulB (n + 1) := by
  apply ByteArray.ext
  simp [nulB, Array.replicate_succ]

set_option maxHeartbeats 400000 in
theorem zeros_any (n : Nat) (hn : n ≤ 100000) (w : World) :
    Calls Try.prog 78 #[.int .i64 n] w fun e w' => e = .returned (.string (nulB n)) ∧ w = w' := by
  go_enter Try.func78, Try.ntmps78
  go_wp2
  go_loop [3, 4] (fun s i => ∃ k : Nat, k ≤ n ∧ i = .int .i64 k ∧ s = .string (nulB k)) (fun _ i => n - (intOf i).toNat)
  case atStart => exact ⟨0, by omega, rfl, rfl⟩
  case round =>
    obtain ⟨k, hk, rfl, rfl⟩ := hrel
    by_cases hlt : k < n
    · have HS := Lib.hid (nulB_succ k)
      have hz := nulB_size k
      generalize nulB k = T at *
      go_wp2
      go_round
      case rel => exact ⟨k + 1, by omega, by go_num, by rw [HS.out]⟩
      case measure => simp [intOf]; omega
    · obtain rfl : k = n := by omega
      go_wp2
      go_ret
      exact ⟨rfl, rfl⟩

theorem strs_of_own {w : World} {base : Nat} {v : Value} {xs : List ByteArray} (h : w.ownsRow base 9 1 v xs.length (xs.map .string)) : Strs w v xs :=
  Ow.sl (e := 9) (base := base) ⟨_, h, elems_map' xs⟩

theorem strs_cells' {w : World} {A : Option Addr} {n c : Nat} {xs : List ByteArray} (h : Strs w (.slice A n c) xs) : CellsAt w A (xs.map .string) := by
  obtain ⟨A', c', vs, e, h1, h2, h3, h4⟩ := h
  cases e
  have : ∀ {xs : List ByteArray} {vs : List Value}, Elems 1 Str1 xs vs → vs = xs.map .string := by
    intro xs
    induction xs with
    | nil => intro vs h; exact h
    | cons x xs ih =>
      rintro vs ⟨us, vs', rfl, _, rfl, ht⟩
      rw [ih ht]; rfl
  rw [← this h4]; exact h3
/-- A row of strings that the call owns. -/
def OwS (w : World) (base : Nat) (v : Value) (l : List ByteArray) : Prop := w.ownsRow base 9 1 v l.length (l.map .string)
section
variable {w w' : World} {base : Nat} {v : Value} {l : List ByteArray}
theorem OwS.strs (h : OwS w base v l) : Strs w v l := strs_of_own h
theorem OwS.keep (h : OwS w base v l) (hb : Below w.heap.size w w') : OwS w' base v l := (own_stab (M := fun _ => False) h (fun _ _ h => h)) _ (Agree.of_below hb _)
theorem OwS.far (h : OwS w base v l) {p : Addr} (hp : p.block < base) (u : Value) : OwS (w.setCell p u) base v l :=
  (own_stab (M := fun g => g = p.block) h (fun g hg e => by have := (World.ownsRow.lt h g hg); omega)) _ (Agree.setCell (M := fun g => g = p.block) w rfl u)
theorem OwS.drewN (h : OwS w base v l) (n : Nat) : OwS (w.drewN n) base v l := h
theorem OwS.drew (h : OwS w base v l) : OwS w.drew base v l := h
theorem OwS.alloc (h : OwS w base v l) (o : Obj) : OwS (w.alloc o) base v l := World.ownsRow.alloc h o
theorem OwS.rebase (h : OwS w base v l) {b : Nat} (hb : b ≤ base) : OwS w b v l := by
  refine ⟨h.1, ?_⟩
  rcases h.2 with h1 | ⟨g, cap, cur, h1, h2, h3⟩
  · exact .inl h1
  · exact .inr ⟨g, cap, cur, h1, by omega, h3⟩
end
def CurPost (W : World) (d : Dk) (e : Ending) (w' : World) : Prop := ∃ v, e = .returned v ∧ OwS w' W.heap.size v (cur d) ∧ Below W.heap.size W w'
end Go.Proofs.Ytockmhhiomdlkaa

namespace Go.Proofs.Ytockmhhiomdlkaa
set_option linter.unusedSimpArgs false
set_option linter.unusedVariables false
open Go.RowKit

theorem own_ne_type' {w : World} {base : Nat} {e : TypeId} {size n m cap g : Nat} {xs : List Value} (h : w.ownsRow base e size (.slice (some ⟨g, 0, none⟩) m cap) n xs) {g' : Nat} {t : TypeId} {cs : Array Value} (hg : Blk w g' t cs) (hne : e ≠ t) : g ≠ g' := fun h' =>
  own_ne_type h hg hne (by rw [← h']; rfl)
theorem own_drew {w : World} {base : Nat} {e : TypeId} {size n : Nat} {v : Value} {xs : List Value} (h : w.ownsRow base e size v n xs) : w.drew.ownsRow base e size v n xs := h
theorem below_drew1 {B : Nat} {a w : World} (h : Below B a w) : Below B a w.drew := below_drewN' h 1
theorem cur_succ (secs : List ByteArray) {p : List (Int × ByteArray)} {k m : Nat} {s : ByteArray} (h : k < p.length) (h1 : p[k].1 = (m : Int)) (h2 : p[k].2 = s) :
    (p.take (k + 1)).foldl putW secs = ((p.take k).foldl putW secs).set m s := by
  rw [foldl_take_succ _ _ _ h]; unfold putW; rw [h1, h2, Int.toNat_natCast]

set_option maxRecDepth 100000 in
set_option maxHeartbeats 2000000 in
theorem rcur_any (W : World) (vs vp : Value) (d : Dk) (h : DskP W vs vp d) (hv : Valid d) :
    Calls Try.prog 92 #[.agg #[.int .i64 d.size, vs, vp, .int .i64 d.left]] W (CurPost W d) := by
  obtain ⟨i0, hi, hz0, hz1, hz2⟩ := info_parts Try.info_str
  obtain ⟨size, secs, pend, left⟩ := d
  obtain ⟨hs, hp, z0, z1, f0, f1⟩ := h
  obtain ⟨v1, v2, v3, v4, v5, v6, v7⟩ := hv
  simp only at hs hp z0 z1 f0 f1 v1 v2 v3 v4 v5 v6 v7
  generalize hfull : cur ⟨size, secs, pend, left⟩ = full
  have HF : Hid (full = pend.foldl putW secs) := hfull.symm
  have V6 := Lib.hid v6
  clear hfull v5 v6
  obtain ⟨A, c, rfl, hc, hm⟩ := hs.form
  obtain ⟨P, cp, rfl, hcp, hmp⟩ := hp.form
  have hbk := Blk.new W #[.int .i64 size, .slice A secs.length c, .slice P pend.length cp, .int .i64 left] 25
  have hd1 := (Below.refl W.heap.size W).alloc (Nat.le_refl _) (.cells #[.int .i64 size, .slice A secs.length c, .slice P pend.length cp, .int .i64 left] 25)
  go_enter Try.func92, Try.ntmps92
  go_upto_region 1 with (fail)
  generalize W.alloc (.cells #[.int .i64 size, .slice A secs.length c, .slice P pend.length cp, .int .i64 left] 25) = w1 at *
  have q1 := hbk.cell (j := 1) rfl
  have hbl := hbk.lt
  have hs1 := (hs.keep (Keeps.of_below hd1)).keep (Keeps.alloc w1 (.cells #[] 9))
  have ho0 := (Blk.new w1 #[] 9).own (base := W.heap.size) (cap := 0) (sz := 1) (n := 0) hd1.size rfl (by unfold maxLen; omega) (by omega)
  have hd2 := hd1.alloc hd1.size (.cells #[] 9)
  have hbk2 := hbk.alloc (.cells #[] 9)
  have hB := hd1.size
  go_wp2_with (at_builtin; go_must (refine wpList_append_any _ rfl (.tmp 5) (.tmp 7) _ rfl W.heap.size 9 i0 _ 1 16 Try.underlying22 hi hz0 hz1 hz2 rfl (by omega) _ 0 [] rfl ho0 A secs.length c (secs.map .string) rfl (by simp) (strs_cells' hs1) (by simp [Value.oneCell']) (by omega) (by omega) (by simp; omega) ?_))
  intro v2' w2 hown hgr hat
  have hown : w2.ownsRow W.heap.size 9 1 v2' secs.length (secs.map .string) := by simpa using hown
  obtain ⟨g, cap, rfl, hg0, hg1, hg2, hg3⟩ := own_row hown (by omega)
  have hd3 := hd2.grown hgr (by simp; omega) (fun g' h => (ho0.lt g' h).1)
  have hbk3 := hbk2.grown hgr (own_ne_type ho0 hbk2 (by decide)).symm
  clear ho0 hgr hat hd2 hbk2 hs1 hd1 hbk q1 hbl hB
  have hown0 : w2.ownsRow W.heap.size 9 1 (.slice (some ⟨g, 0, none⟩) secs.length cap) secs.length (((pend.take 0).foldl putW secs).map .string) := hown
  have hgW : g ≠ W.heap.size := own_ne_type' hown hbk3 (by decide)
  clear hown
  go_wp2
  go_loopw [4] (fun t wr => ∃ k : Nat, k ≤ pend.length ∧ t = .int .i64 k ∧ wr.ownsRow W.heap.size 9 1 (.slice (some ⟨g, 0, none⟩) secs.length cap) secs.length (((pend.take k).foldl putW secs).map .string) ∧ Blk wr W.heap.size 25 #[.int .i64 size, .slice A secs.length c, .slice P pend.length cp, .int .i64 left] ∧ Below W.heap.size W wr) (fun t _ => pend.length - (intOf t).toNat)
  case atStart => exact ⟨0, by omega, rfl, hown0, hbk3, hd3⟩
  case round =>
    clear hown0 hbk3 hd3 hg1
    obtain ⟨k, hk, rfl, hown, hbk, hd⟩ := hrel
    have hpk := hp.keep (Keeps.of_below hd)
    have hbl := hbk.lt
    have q2 := hbk.cell (j := 2) rfl
    by_cases hlt : k < pend.length
    · obtain ⟨b, off, rfl, a1, a2, a3, a4⟩ := hpk.get hlt
      obtain ⟨e1, e2, e3⟩ := V6.out _ (List.getElem_mem hlt)
      obtain ⟨m, hm1⟩ := Int.eq_ofNat_of_zero_le e1
      generalize hs1 : pend[k].2 = s at *
      have HS := Lib.hid (cur_succ secs hlt hm1 hs1)
      have hml : m < secs.length := by omega
      rw [hm1] at a1
      have hlen : ((pend.take k).foldl putW secs).length = secs.length := foldl_putW_length _ _
      generalize (pend.take k).foldl putW secs = L at *
      have hmL : m < L.length := by omega
      obtain ⟨o1, o2⟩ := own_at hown (i := m) (u := .string (L[m]'hmL)) (by simp)
      clear hm1 hs1 e1 e2 e3 a3 a4
      generalize (L[m]'hmL) = old at *
      have HL := Lib.hid hlen
      clear hlen
      go_wp2
      go_region
      all_goals
        go_wp2
        go_roundw
        case rel =>
          refine ⟨k + 1, by omega, by go_num, ?_, ?_, ?_⟩
          · rw [HS.out, List.map_set]
            exact own_drew (own_set hown (.string s))
          · exact (hbk.far (p := ⟨g, m, none⟩) hgW.symm _).drew
          · exact below_drew1 (hd.setCell (p := ⟨g, m, none⟩) hg0 _)
        case measure => simp [intOf] <;> omega
    · have hk' : pend.take k = pend := List.take_of_length_le (by omega)
      have HK := Lib.hid hk'
      clear hk'
      go_wp2
      go_ret
      rw [HK.out] at hown
      refine ⟨_, rfl, ?_, hd⟩
      rw [show cur ⟨size, secs, pend, left⟩ = pend.foldl putW secs from rfl]
      unfold OwS
      rw [foldl_putW_length]
      exact hown
end Go.Proofs.Ytockmhhiomdlkaa

namespace Go.Proofs.Ytockmhhiomdlkaa
set_option linter.unusedSimpArgs false
set_option linter.unusedVariables false
open Go.RowKit

theorem rd_bad {d : Dk} {i : Int} (h : chk d ≠ 0) : rdE d i = 1 ∧ rdB d i = ⟨#[]⟩ := by
  have e : rdE d i = 1 := by unfold rdE; rw [if_pos h]
  exact ⟨e, by unfold rdB; rw [e, if_neg (by decide)]⟩
theorem rd_out {d : Dk} {i : Int} (h : chk d = 0) (h2 : i < 0 ∨ (d.secs.length : Int) ≤ i) : rdE d i = 2 ∧ rdB d i = ⟨#[]⟩ := by
  have e : rdE d i = 2 := by unfold rdE; rw [if_neg (by simp [h]), if_pos h2]
  exact ⟨e, by unfold rdB; rw [e, if_neg (by decide)]⟩
theorem rd_in {d : Dk} {m : Nat} (h : chk d = 0) (hm : m < d.secs.length) (h' : m < (cur d).length) : rdE d m = 0 ∧ rdB d m = (cur d)[m] := by
  have e : rdE d m = 0 := by unfold rdE; rw [if_neg (by simp [h]), if_neg (by omega)]
  refine ⟨e, ?_⟩
  unfold rdB
  rw [e, if_pos rfl, Int.toNat_natCast, List.getD_eq_getElem?_getD, List.getElem?_eq_getElem h']; rfl

def RdPost (W : World) (s : ByteArray) (n : Int) (e : Ending) (w' : World) : Prop := e = .returned (.tuple #[.string s, .int .i64 n]) ∧ Below W.heap.size W w'
theorem RdPost.mk {W w' : World} {s t : ByteArray} {n m : Int} (h1 : n = m) (h2 : s = t) (hb : Below W.heap.size W w') : RdPost W t m (.returned (.tuple #[.string s, .int .i64 n])) w' := by
  subst h1 h2; exact ⟨rfl, hb⟩

set_option maxRecDepth 100000 in
set_option maxHeartbeats 1000000 in
theorem rread_any (W : World) (vs vp : Value) (d : Dk) (h : DskP W vs vp d) (i : Int) (hi0 : -9223372036854775808 ≤ i) (hi1 : i ≤ 9223372036854775807) :
    Calls Try.prog 72 #[.agg #[.int .i64 d.size, vs, vp, .int .i64 d.left], .int .i64 i] W (RdPost W (rdB d i) (rdE d i)) := by
  obtain ⟨A, c, rfl, hc, hm⟩ := h.sec.form
  obtain ⟨P, cp, rfl, hcp, hmp⟩ := h.pen.form
  have hbk := Blk.new W #[.int .i64 d.size, .slice A d.secs.length c, .slice P d.pend.length cp, .int .i64 d.left] 25
  have hd1 := (Below.refl W.heap.size W).alloc (Nat.le_refl _) (.cells #[.int .i64 d.size, .slice A d.secs.length c, .slice P d.pend.length cp, .int .i64 d.left] 25)
  have hD1 := h.keep (Keeps.of_below hd1)
  have c1 := rcheck_any _ _ _ d hD1
  go_enter Try.func72, Try.ntmps72
  go_wp2_with fail
  refine c1.mono ?_
  clear c1
  generalize W.alloc (.cells #[.int .i64 d.size, .slice A d.secs.length c, .slice P d.pend.length cp, .int .i64 d.left] 25) = w1 at *
  rintro e w2 ⟨rfl, hb2⟩
  have hd2 := hd1.trans (hb2.mono hd1.size)
  have hbk2 := hbk.keep hb2
  have hD2 := hD1.keep (Keeps.of_below hb2)
  clear hbk hd1 hD1 hb2
  by_cases hk : chk d = 0
  · have HK := Lib.hid hk
    rw [hk]
    clear hk
    have q0 := hbk2.cell (j := 0) rfl
    have q1 := hbk2.cell (j := 1) rfl
    have q2 := hbk2.cell (j := 2) rfl
    have q3 := hbk2.cell (j := 3) rfl
    by_cases hout : i < 0 ∨ (d.secs.length : Int) ≤ i
    · have hE := rd_out HK.out hout
      have HE := Lib.hid hE
      clear hE
      have hcase : i < 0 ∨ (¬ i < 0 ∧ (d.secs.length : Int) ≤ i) := by omega
      clear hout
      rcases hcase with h1 | ⟨h1, h2⟩
      all_goals
        go_wp2
        go_ret2
        exact RdPost.mk HE.out.1.symm HE.out.2.symm hd2
    · obtain ⟨m, rfl⟩ := Int.eq_ofNat_of_zero_le (show 0 ≤ i by omega)
      have hml : m < d.secs.length := by omega
      have hmc : m < (cur d).length := by rw [cur_length]; exact hml
      have HE := Lib.hid (rd_in HK.out hml hmc)
      have c2 := rcur_any _ _ _ d hD2 (chk_zero.1 HK.out)
      have h1 : ¬ (m : Int) < 0 := by omega
      have h2 : ¬ (d.secs.length : Int) ≤ (m : Int) := by omega
      clear hout
      go_wp2_with fail
      refine c2.mono ?_
      clear c2 q0 q1 q2 q3 hbk2
      rintro e w3 ⟨v3, rfl, hv3', hb3⟩
      have hv3 := hv3'.strs
      clear hv3'
      obtain ⟨A3, c3, rfl, hc3, hm3⟩ := hv3.form
      obtain ⟨b3, off3, rfl, a3⟩ := hv3.get hmc
      have hd3 := hd2.trans (hb3.mono hd2.size)
      have hl3 : (m : Int) < ((cur d).length : Int) := by omega
      have hH := Lib.hid hmc
      generalize hL : (cur d)[m] = s at *
      have HL := Lib.hid hL
      clear hL
      go_wp2
      go_ret2
      exact RdPost.mk HE.out.1.symm HE.out.2.symm hd3
  · have HE := Lib.hid (rd_bad (i := i) hk)
    have hb : (chk d != 0) = true := by simp [hk]
    clear hk
    generalize chk d = full at *
    go_wp2
    go_ret2
    exact RdPost.mk HE.out.1.symm HE.out.2.symm hd2
end Go.Proofs.Ytockmhhiomdlkaa

namespace Go.Proofs.Ytockmhhiomdlkaa
set_option linter.unusedSimpArgs false
set_option linter.unusedVariables false
open Go.RowKit

theorem box4 {w w' : World} {g : Nat} {t : TypeId} {a b c d : Value} (h : Blk w g t #[a, b, c, d]) (hb : Below w.heap.size w w') :
    w'.cell? ⟨g, 0, none⟩ = some a ∧ w'.cell? ⟨g, 1, none⟩ = some b ∧ w'.cell? ⟨g, 2, none⟩ = some c ∧ w'.cell? ⟨g, 3, none⟩ = some d :=
  have k := h.keep hb
  ⟨k.cell (j := 0) rfl, k.cell (j := 1) rfl, k.cell (j := 2) rfl, k.cell (j := 3) rfl⟩

theorem Blk.set4 {w : World} {g : Nat} {t : TypeId} {a0 a1 a2 a3 : Value} (h : Blk w g t #[a0, a1, a2, a3]) (b0 b1 b2 b3 : Value) :
    Blk ((((w.setCell ⟨g, 0, none⟩ b0).setCell ⟨g, 1, none⟩ b1).setCell ⟨g, 2, none⟩ b2).setCell ⟨g, 3, none⟩ b3) g t #[b0, b1, b2, b3] :=
  (((h.set 0 b0).set 1 b1).set 2 b2).set 3 b3
theorem set4_below {B g : Nat} {a w : World} (h : Below B a w) (hg : B ≤ g) (b0 b1 b2 b3 : Value) :
    Below B a ((((w.setCell ⟨g, 0, none⟩ b0).setCell ⟨g, 1, none⟩ b1).setCell ⟨g, 2, none⟩ b2).setCell ⟨g, 3, none⟩ b3) :=
  (((h.setCell (p := ⟨g, 0, none⟩) hg _).setCell (p := ⟨g, 1, none⟩) hg _).setCell (p := ⟨g, 2, none⟩) hg _).setCell (p := ⟨g, 3, none⟩) hg _

theorem box8 {w w' : World} {g : Nat} {t : TypeId} {a b c d : Value} (h : Blk w g t #[a, b, c, d]) (hb : Below w.heap.size w w') :
    w'.cell? ⟨g, 0, none⟩ = some a ∧ w'.cell? ⟨g, 1, none⟩ = some b ∧ w'.cell? ⟨g, 2, none⟩ = some c ∧ w'.cell? ⟨g, 3, none⟩ = some d ∧
      w'.frozen? ⟨g, 0, none⟩ = false ∧ w'.frozen? ⟨g, 1, none⟩ = false ∧ w'.frozen? ⟨g, 2, none⟩ = false ∧ w'.frozen? ⟨g, 3, none⟩ = false :=
  have k := h.keep hb
  ⟨k.cell (j := 0) rfl, k.cell (j := 1) rfl, k.cell (j := 2) rfl, k.cell (j := 3) rfl, k.frozen 0, k.frozen 1, k.frozen 2, k.frozen 3⟩

/-- What a function answers that returns a disk and an error. -/
def DkPost (W : World) (d : Dk) (n : Int) (e : Ending) (w' : World) : Prop :=
  ∃ vs vp, e = .returned (.tuple #[.agg #[.int .i64 d.size, vs, vp, .int .i64 d.left], .int .i64 n]) ∧ DskP w' vs vp d ∧ Below W.heap.size W w'
theorem DkPost.mk {W w' : World} {vs vp : Value} {d d' : Dk} {n m z l : Int} (h1 : n = m) (h2 : d' = d) (hz : z = d'.size) (hl : l = d'.left) (hd : DskP w' vs vp d') (hb : Below W.heap.size W w') :
    DkPost W d m (.returned (.tuple #[.agg #[.int .i64 z, vs, vp, .int .i64 l], .int .i64 n])) w' := by
  subst h1 h2 hz hl; exact ⟨_, _, rfl, hd, hb⟩
theorem lessZ_range {n : Int} (h0 : -9223372036854775808 ≤ n) (h1 : n ≤ 9223372036854775807) : -9223372036854775808 ≤ lessZ n ∧ lessZ n ≤ 9223372036854775807 := by
  unfold lessZ; split <;> omega

theorem sy_bad {d : Dk} (h : chk d ≠ 0) : syE d = 1 ∧ syD d = noDisk := by
  have e : syE d = 1 := by unfold syE; rw [if_pos h]
  exact ⟨e, by unfold syD; rw [e, if_neg (by decide), if_neg (by decide)]⟩
theorem sy_lost {d : Dk} (h : chk d = 0) (h2 : d.left = 0) : syE d = 20 ∧ syD d = d := by
  have e : syE d = 20 := by unfold syE; rw [if_neg (by simp [h]), if_pos h2]
  exact ⟨e, by unfold syD; rw [e, if_neg (by decide), if_pos rfl]⟩
theorem sy_ok {d : Dk} (h : chk d = 0) (h2 : ¬ d.left = 0) : syE d = 0 ∧ syD d = ⟨d.size, cur d, [], lessZ d.left⟩ := by
  have e : syE d = 0 := by unfold syE; rw [if_neg (by simp [h]), if_neg h2]
  exact ⟨e, by unfold syD; rw [e, if_pos rfl]⟩

set_option maxRecDepth 100000 in
set_option maxHeartbeats 2000000 in
theorem rsync_any (W : World) (vs vp : Value) (d : Dk) (h : DskP W vs vp d) :
    Calls Try.prog 73 #[.agg #[.int .i64 d.size, vs, vp, .int .i64 d.left]] W (DkPost W (syD d) (syE d)) := by
  obtain ⟨A, c, rfl, hc, hm⟩ := h.sec.form
  obtain ⟨P, cp, rfl, hcp, hmp⟩ := h.pen.form
  have hbk0 := Blk.new W #[.int .i64 d.size, .slice A d.secs.length c, .slice P d.pend.length cp, .int .i64 d.left] 25
  have hbk := hbk0.alloc (.cells #[.int .i64 0, .slice none 0 0, .slice none 0 0, .int .i64 0] 25)
  have hbr := Blk.new (W.alloc (.cells #[.int .i64 d.size, .slice A d.secs.length c, .slice P d.pend.length cp, .int .i64 d.left] 25)) #[.int .i64 0, .slice none 0 0, .slice none 0 0, .int .i64 0] 25
  rw [World.size_alloc] at hbr
  have hd1 := ((Below.refl W.heap.size W).alloc (Nat.le_refl _) (.cells #[.int .i64 d.size, .slice A d.secs.length c, .slice P d.pend.length cp, .int .i64 d.left] 25)).alloc (by simp) (.cells #[.int .i64 0, .slice none 0 0, .slice none 0 0, .int .i64 0] 25)
  have hD1 := h.keep (Keeps.of_below hd1)
  clear hbk0
  go_enter Try.func73, Try.ntmps73
  go_upto_region 1 with (fail)
  generalize (W.alloc (.cells #[.int .i64 d.size, .slice A d.secs.length c, .slice P d.pend.length cp, .int .i64 d.left] 25)).alloc (.cells #[.int .i64 0, .slice none 0 0, .slice none 0 0, .int .i64 0] 25) = w1 at *
  have q0 := hbk.cell (j := 0) rfl
  have q1 := hbk.cell (j := 1) rfl
  have q2 := hbk.cell (j := 2) rfl
  have q3 := hbk.cell (j := 3) rfl
  have c1 := rcheck_any _ _ _ d hD1
  go_wp2_with fail
  refine c1.mono ?_
  clear c1 q0 q1 q2 q3
  rintro e w2 ⟨rfl, hb2⟩
  have hd2 := hd1.trans (hb2.mono hd1.size)
  have hbk2 := hbk.keep hb2
  have hbr2 := hbr.keep hb2
  have hD2 := hD1.keep (Keeps.of_below hb2)
  clear hbk hbr hd1 hD1 hb2
  by_cases hk : chk d = 0
  · have HK := Lib.hid hk
    rw [hk]
    clear hk
    have q0 := hbk2.cell (j := 0) rfl
    have q1 := hbk2.cell (j := 1) rfl
    have q2 := hbk2.cell (j := 2) rfl
    have q3 := hbk2.cell (j := 3) rfl
    by_cases hl : d.left = 0
    · have HE := Lib.hid (sy_lost HK.out hl)
      have hb : (d.left == 0) = true := by simp [hl]
      clear hl
      have r0 := hbr2.frozen 0
      have r1 := hbr2.frozen 1
      have r2 := hbr2.frozen 2
      have r3 := hbr2.frozen 3
      have t0 := hbr2.cell (j := 0) rfl
      have t1 := hbr2.cell (j := 1) rfl
      have t2 := hbr2.cell (j := 2) rfl
      have t3 := hbr2.cell (j := 3) rfl
      go_wp2
      have hx := hbr2.set4 (.int .i64 d.size) (.slice A d.secs.length c) (.slice P d.pend.length cp) (.int .i64 d.left)
      have hdx := set4_below hd2 (show W.heap.size ≤ W.heap.size + 1 by omega) (.int .i64 d.size) (.slice A d.secs.length c) (.slice P d.pend.length cp) (.int .i64 d.left)
      clear r0 r1 r2 r3 t0 t1 t2 t3 q0 q1 q2 q3
      generalize (((w2.setCell ⟨W.heap.size + 1, 0, none⟩ (.int .i64 d.size)).setCell ⟨W.heap.size + 1, 1, none⟩ (.slice A d.secs.length c)).setCell ⟨W.heap.size + 1, 2, none⟩ (.slice P d.pend.length cp)).setCell ⟨W.heap.size + 1, 3, none⟩ (.int .i64 d.left) = wx at *
      have k0 := hx.cell (j := 0) rfl
      have k1 := hx.cell (j := 1) rfl
      have k2 := hx.cell (j := 2) rfl
      have k3 := hx.cell (j := 3) rfl
      exact bodyPost_ret (v := .tuple #[.agg #[.int .i64 d.size, .slice A d.secs.length c, .slice P d.pend.length cp, .int .i64 d.left], .int .i64 20]) (by simp [results, Try.results73, go_sem, k0, k1, k2, k3]) rfl (DkPost.mk HE.out.1.symm HE.out.2.symm rfl rfl (h.keep (Keeps.of_below hdx)) hdx)
    · have HE := Lib.hid (sy_ok HK.out hl)
      have hb : (d.left == 0) = false := by simp [hl]
      clear hl
      have c2 := rcur_any w2.drew _ _ d (hD2.keep (Keeps.drew _)) (chk_zero.1 HK.out)
      have c3 := rless_any d.left h.f0 h.f1
      have C3 := Lib.hid c3
      clear c3
      go_wp2
      go_region_held3 (fun w' => w'.cell? ⟨W.heap.size, 0, none⟩ = some (.int .i64 d.size) ∧ w'.cell? ⟨W.heap.size, 1, none⟩ = some (.slice A d.secs.length c) ∧ w'.cell? ⟨W.heap.size, 2, none⟩ = some (.slice P d.pend.length cp) ∧ w'.cell? ⟨W.heap.size, 3, none⟩ = some (.int .i64 d.left)) (first | exact box4 hbk2 (Below.refl _ _) | exact box4 hbk2.drew (Below.refl _ _) | exact box4 hbk2.drew (by assumption) | go_keep)
        (first
          | (go_at_call 92; refine c2.mono ?_; rintro e w3 ⟨v3, rfl, hv3, hb3⟩; obtain ⟨A3, c3', rfl⟩ := own_form hv3; obtain ⟨t0, t1, t2, t3, r0, r1, r2, r3⟩ := box8 hbr2.drew hb3)
          | (go_at_call 76; refine (C3.out _).mono ?_; rintro e w' ⟨rfl, rfl⟩))
      have hS : (w2.drew).heap.size = w2.heap.size := rfl
      have hlt := hbr2.lt
      have hbr3 := hbr2.drew.keep hb3
      have hd3 := (below_drew1 hd2).trans (hb3.mono hd2.size)
      have hx := hbr3.set4 (.int .i64 d.size) (.slice A3 (cur d).length c3') (.slice none 0 0) (.int .i64 (lessZ d.left))
      have hdx := set4_below hd3 (show W.heap.size ≤ W.heap.size + 1 by omega) (.int .i64 d.size) (.slice A3 (cur d).length c3') (.slice none 0 0) (.int .i64 (lessZ d.left))
      have hvx : OwS _ w2.drew.heap.size (.slice A3 (cur d).length c3') (cur d) := (((hv3.far (p := ⟨W.heap.size + 1, 0, none⟩) hlt (.int .i64 d.size)).far (p := ⟨W.heap.size + 1, 1, none⟩) hlt (.slice A3 (cur d).length c3')).far (p := ⟨W.heap.size + 1, 2, none⟩) hlt (.slice none 0 0)).far (p := ⟨W.heap.size + 1, 3, none⟩) hlt (.int .i64 (lessZ d.left))
      have hlz := lessZ_range h.f0 h.f1
      clear r0 r1 r2 r3 t0 t1 t2 t3 q0 q1 q2 q3 hS
      go_wp2
      generalize (((w3.setCell ⟨W.heap.size + 1, 0, none⟩ (.int .i64 d.size)).setCell ⟨W.heap.size + 1, 1, none⟩ (.slice A3 (cur d).length c3')).setCell ⟨W.heap.size + 1, 2, none⟩ (.slice none 0 0)).setCell ⟨W.heap.size + 1, 3, none⟩ (.int .i64 (lessZ d.left)) = wx at *
      have k0 := hx.cell (j := 0) rfl
      have k1 := hx.cell (j := 1) rfl
      have k2 := hx.cell (j := 2) rfl
      have k3 := hx.cell (j := 3) rfl
      exact bodyPost_ret (v := .tuple #[.agg #[.int .i64 d.size, .slice A3 (cur d).length c3', .slice none 0 0, .int .i64 (lessZ d.left)], .int .i64 0]) (by simp [results, Try.results73, go_sem, k0, k1, k2, k3]) rfl (DkPost.mk HE.out.1.symm HE.out.2.symm rfl rfl ⟨hvx.strs, Sl.nil _ _ _, h.z0, h.z1, hlz.1, hlz.2⟩ hdx)
  · have HE := Lib.hid (sy_bad hk)
    have hb : (chk d != 0) = true := by simp [hk]
    clear hk
    generalize chk d = full at *
    have r0 := hbr2.frozen 0
    have r1 := hbr2.frozen 1
    have r2 := hbr2.frozen 2
    have r3 := hbr2.frozen 3
    have t0 := hbr2.cell (j := 0) rfl
    have t1 := hbr2.cell (j := 1) rfl
    have t2 := hbr2.cell (j := 2) rfl
    have t3 := hbr2.cell (j := 3) rfl
    go_wp2
    have hx := hbr2.set4 (.int .i64 0) (.slice none 0 0) (.slice none 0 0) (.int .i64 0)
    have hdx := set4_below hd2 (show W.heap.size ≤ W.heap.size + 1 by omega) (.int .i64 0) (.slice none 0 0) (.slice none 0 0) (.int .i64 0)
    clear r0 r1 r2 r3 t0 t1 t2 t3
    generalize (((w2.setCell ⟨W.heap.size + 1, 0, none⟩ (.int .i64 0)).setCell ⟨W.heap.size + 1, 1, none⟩ (.slice none 0 0)).setCell ⟨W.heap.size + 1, 2, none⟩ (.slice none 0 0)).setCell ⟨W.heap.size + 1, 3, none⟩ (.int .i64 0) = wx at *
    have k0 := hx.cell (j := 0) rfl
    have k1 := hx.cell (j := 1) rfl
    have k2 := hx.cell (j := 2) rfl
    have k3 := hx.cell (j := 3) rfl
    exact bodyPost_ret (v := .tuple #[.agg #[.int .i64 0, .slice none 0 0, .slice none 0 0, .int .i64 0], .int .i64 1]) (by simp [results, Try.results73, go_sem, k0, k1, k2, k3]) rfl (DkPost.mk HE.out.1.symm HE.out.2.symm rfl rfl (Dsk.nodisk _) hdx)
end Go.Proofs.Ytockmhhiomdlkaa

namespace Go.Proofs.Ytockmhhiomdlkaa
set_option linter.unusedSimpArgs false
set_option linter.unusedVariables false
open Go.RowKit

/-- The cells of pending writes. -/
def wrCells : List (Int × ByteArray) → List Value
  | [] => []
  | x :: l => .int .i64 x.1 :: .string x.2 :: wrCells l
theorem wrCells_length : ∀ l, (wrCells l).length = l.length * 2
  | [] => rfl
  | x :: l => by simp [wrCells, wrCells_length l]; omega
theorem wrCells_append : ∀ a b, wrCells (a ++ b) = wrCells a ++ wrCells b
  | [], _ => rfl
  | x :: a, b => by simp [wrCells, wrCells_append a b]
theorem wrCells_one : ∀ l, ∀ u ∈ wrCells l, u.oneCell' = true
  | [], u, h => by cases h
  | x :: l, u, h => by
    rcases List.mem_cons.1 h with rfl | h
    · rfl
    · rcases List.mem_cons.1 h with rfl | h
      · rfl
      · exact wrCells_one l u h
theorem elems_wr : ∀ l : List (Int × ByteArray), (∀ x ∈ l, -9223372036854775808 ≤ x.1 ∧ x.1 ≤ 9223372036854775807) → Elems 2 WrR l (wrCells l)
  | [], _ => rfl
  | x :: l, h => ⟨[.int .i64 x.1, .string x.2], _, rfl, rfl, ⟨rfl, (h x List.mem_cons_self).1, (h x List.mem_cons_self).2⟩, elems_wr l fun y hy => h y (List.mem_cons_of_mem _ hy)⟩
theorem wr_elems : ∀ {l : List (Int × ByteArray)} {vs : List Value}, Elems 2 WrR l vs → vs = wrCells l ∧ ∀ x ∈ l, -9223372036854775808 ≤ x.1 ∧ x.1 ≤ 9223372036854775807
  | [], vs, h => ⟨h, fun _ h => by cases h⟩
  | x :: l, vs, ⟨us, vs', e, _, ⟨e2, h1, h2⟩, ht⟩ => by
    obtain ⟨r1, r2⟩ := wr_elems ht
    subst e e2 r1
    exact ⟨rfl, fun y hy => by rcases List.mem_cons.1 hy with rfl | hy; exact ⟨h1, h2⟩; exact r2 y hy⟩
theorem wrs_cells {w : World} {A : Option Addr} {n c : Nat} {l : List (Int × ByteArray)} (h : Wrs w (.slice A n c) l) : CellsAt w A (wrCells l) ∧ ∀ x ∈ l, -9223372036854775808 ≤ x.1 ∧ x.1 ≤ 9223372036854775807 := by
  obtain ⟨A', c', vs, e, h1, h2, h3, h4⟩ := h
  cases e
  obtain ⟨rfl, r⟩ := wr_elems h4
  exact ⟨h3, r⟩
/-- A row of pending writes that the call owns. -/
def OwW (w : World) (base : Nat) (v : Value) (l : List (Int × ByteArray)) : Prop := w.ownsRow base 78 2 v l.length (wrCells l)
section
variable {w w' : World} {base : Nat} {v : Value} {l : List (Int × ByteArray)}
theorem OwW.wrs (h : OwW w base v l) (hr : ∀ x ∈ l, -9223372036854775808 ≤ x.1 ∧ x.1 ≤ 9223372036854775807) : Wrs w v l := Ow.sl (e := 78) (base := base) ⟨_, h, elems_wr l hr⟩
theorem OwW.far (h : OwW w base v l) {p : Addr} (hp : p.block < base) (u : Value) : OwW (w.setCell p u) base v l :=
  (own_stab (M := fun g => g = p.block) h (fun g hg e => by have := (World.ownsRow.lt h g hg); omega)) _ (Agree.setCell (M := fun g => g = p.block) w rfl u)
theorem OwW.keep (h : OwW w base v l) (hb : Below w.heap.size w w') : OwW w' base v l := (own_stab (M := fun _ => False) h (fun _ _ h => h)) _ (Agree.of_below hb _)
end

theorem wr_bad {d : Dk} {i : Int} {s : ByteArray} (h : chk d ≠ 0) : wrE d i s = 1 ∧ wrD d i s = noDisk := by
  have e : wrE d i s = 1 := by unfold wrE; rw [if_pos h]
  exact ⟨e, by unfold wrD; rw [e, if_neg (by decide), if_neg (by decide)]⟩
theorem wr_out {d : Dk} {i : Int} {s : ByteArray} (h : chk d = 0) (h2 : i < 0 ∨ (d.secs.length : Int) ≤ i) : wrE d i s = 2 ∧ wrD d i s = noDisk := by
  have e : wrE d i s = 2 := by unfold wrE; rw [if_neg (by simp [h]), if_pos h2]
  exact ⟨e, by unfold wrD; rw [e, if_neg (by decide), if_neg (by decide)]⟩
theorem wr_mis {d : Dk} {i : Int} {s : ByteArray} (h : chk d = 0) (h2 : ¬ (i < 0 ∨ (d.secs.length : Int) ≤ i)) (h3 : ¬ (s.size : Int) = d.size) : wrE d i s = 11 ∧ wrD d i s = noDisk := by
  have e : wrE d i s = 11 := by unfold wrE; rw [if_neg (by simp [h]), if_neg h2, if_pos h3]
  exact ⟨e, by unfold wrD; rw [e, if_neg (by decide), if_neg (by decide)]⟩
theorem wr_lost {d : Dk} {i : Int} {s : ByteArray} (h : chk d = 0) (h2 : ¬ (i < 0 ∨ (d.secs.length : Int) ≤ i)) (h3 : (s.size : Int) = d.size) (h4 : d.left = 0) : wrE d i s = 20 ∧ wrD d i s = d := by
  have e : wrE d i s = 20 := by unfold wrE; rw [if_neg (by simp [h]), if_neg h2, if_neg (by simp [h3]), if_pos h4]
  exact ⟨e, by unfold wrD; rw [e, if_neg (by decide), if_pos rfl]⟩
theorem wr_ok {d : Dk} {i : Int} {s : ByteArray} (h : chk d = 0) (h2 : ¬ (i < 0 ∨ (d.secs.length : Int) ≤ i)) (h3 : (s.size : Int) = d.size) (h4 : ¬ d.left = 0) :
    wrE d i s = 0 ∧ wrD d i s = { d with pend := d.pend ++ [(i, s)], left := lessZ d.left } := by
  have e : wrE d i s = 0 := by unfold wrE; rw [if_neg (by simp [h]), if_neg h2, if_neg (by simp [h3]), if_neg h4]
  exact ⟨e, by unfold wrD; rw [e, if_pos rfl]⟩

set_option maxRecDepth 100000 in
set_option maxHeartbeats 4000000 in
theorem rwrite_any (W : World) (vs vp : Value) (d : Dk) (h : DskP W vs vp d) (hn : d.pend.length ≤ 100000) (i : Int) (hi0 : -9223372036854775808 ≤ i) (hi1 : i ≤ 9223372036854775807) (s : ByteArray) :
    Calls Try.prog 50 #[.agg #[.int .i64 d.size, vs, vp, .int .i64 d.left], .int .i64 i, .string s] W (DkPost W (wrD d i s) (wrE d i s)) := by
  obtain ⟨i1, hi1', hy0, hy1, hy2⟩ := info_parts Try.info_wr
  obtain ⟨A, c, rfl, hc, hm⟩ := h.sec.form
  obtain ⟨P, cp, rfl, hcp, hmp⟩ := h.pen.form
  have hbk0 := Blk.new W #[.int .i64 d.size, .slice A d.secs.length c, .slice P d.pend.length cp, .int .i64 d.left] 25
  have hbk := hbk0.alloc (.cells #[.int .i64 0, .slice none 0 0, .slice none 0 0, .int .i64 0] 25)
  have hbr := Blk.new (W.alloc (.cells #[.int .i64 d.size, .slice A d.secs.length c, .slice P d.pend.length cp, .int .i64 d.left] 25)) #[.int .i64 0, .slice none 0 0, .slice none 0 0, .int .i64 0] 25
  rw [World.size_alloc] at hbr
  have hd1 := ((Below.refl W.heap.size W).alloc (Nat.le_refl _) (.cells #[.int .i64 d.size, .slice A d.secs.length c, .slice P d.pend.length cp, .int .i64 d.left] 25)).alloc (by simp) (.cells #[.int .i64 0, .slice none 0 0, .slice none 0 0, .int .i64 0] 25)
  have hD1 := h.keep (Keeps.of_below hd1)
  clear hbk0
  go_enter Try.func50, Try.ntmps50
  go_upto_region 1 with (fail)
  generalize (W.alloc (.cells #[.int .i64 d.size, .slice A d.secs.length c, .slice P d.pend.length cp, .int .i64 d.left] 25)).alloc (.cells #[.int .i64 0, .slice none 0 0, .slice none 0 0, .int .i64 0] 25) = w1 at *
  have q0 := hbk.cell (j := 0) rfl
  have q1 := hbk.cell (j := 1) rfl
  have q2 := hbk.cell (j := 2) rfl
  have q3 := hbk.cell (j := 3) rfl
  have c1 := rcheck_any _ _ _ d hD1
  go_wp2_with fail
  refine c1.mono ?_
  clear c1 q0 q1 q2 q3
  rintro e w2 ⟨rfl, hb2⟩
  have hd2 := hd1.trans (hb2.mono hd1.size)
  have hbk2 := hbk.keep hb2
  have hbr2 := hbr.keep hb2
  have hD2 := hD1.keep (Keeps.of_below hb2)
  clear hbk hbr hd1 hD1 hb2
  obtain ⟨t0, t1, t2, t3, r0, r1, r2, r3⟩ := box8 hbr2 (Below.refl _ _)
  obtain ⟨q0, q1, q2, q3, s0, s1, s2, s3⟩ := box8 hbk2 (Below.refl _ _)
  have hdx := set4_below hd2 (show W.heap.size ≤ W.heap.size + 1 by omega) (.int .i64 0) (.slice none 0 0) (.slice none 0 0) (.int .i64 0)
  have hx := hbr2.set4 (.int .i64 0) (.slice none 0 0) (.slice none 0 0) (.int .i64 0)
  by_cases hk : chk d = 0
  · have HK := Lib.hid hk
    rw [hk]
    clear hk
    by_cases hout : i < 0 ∨ (d.secs.length : Int) ≤ i
    · have HE := Lib.hid (wr_out (s := s) HK.out hout)
      have hcase : i < 0 ∨ (¬ i < 0 ∧ (d.secs.length : Int) ≤ i) := by omega
      clear hout
      rcases hcase with h1 | ⟨h1, h2⟩
      all_goals
        go_wp2
        clear r0 r1 r2 r3 t0 t1 t2 t3 q0 q1 q2 q3 s0 s1 s2 s3
        generalize (((w2.setCell ⟨W.heap.size + 1, 0, none⟩ (.int .i64 0)).setCell ⟨W.heap.size + 1, 1, none⟩ (.slice none 0 0)).setCell ⟨W.heap.size + 1, 2, none⟩ (.slice none 0 0)).setCell ⟨W.heap.size + 1, 3, none⟩ (.int .i64 0) = wx at *
        obtain ⟨k0, k1, k2, k3⟩ := box4 hx (Below.refl _ _)
        exact bodyPost_ret (v := .tuple #[.agg #[.int .i64 0, .slice none 0 0, .slice none 0 0, .int .i64 0], .int .i64 2]) (by simp [results, Try.results50, go_sem, k0, k1, k2, k3]) rfl (DkPost.mk HE.out.1.symm HE.out.2.symm rfl rfl (Dsk.nodisk _) hdx)
    · have h1 : ¬ i < 0 := by omega
      have h2 : ¬ (d.secs.length : Int) ≤ i := by omega
      have HO := Lib.hid hout
      clear hout
      by_cases hsz : (s.size : Int) = d.size
      · have HZ := Lib.hid hsz
        have hzb : ((s.size : Int) != d.size) = false := by simp [hsz]
        clear hsz
        by_cases hl : d.left = 0
        · have HE := Lib.hid (wr_lost HK.out HO.out HZ.out hl)
          have hb : (d.left == 0) = true := by simp [hl]
          have hx := hbr2.set4 (.int .i64 d.size) (.slice A d.secs.length c) (.slice P d.pend.length cp) (.int .i64 d.left)
          have hdx := set4_below hd2 (show W.heap.size ≤ W.heap.size + 1 by omega) (.int .i64 d.size) (.slice A d.secs.length c) (.slice P d.pend.length cp) (.int .i64 d.left)
          clear hl
          go_wp2
          clear r0 r1 r2 r3 t0 t1 t2 t3 q0 q1 q2 q3 s0 s1 s2 s3
          generalize (((w2.setCell ⟨W.heap.size + 1, 0, none⟩ (.int .i64 d.size)).setCell ⟨W.heap.size + 1, 1, none⟩ (.slice A d.secs.length c)).setCell ⟨W.heap.size + 1, 2, none⟩ (.slice P d.pend.length cp)).setCell ⟨W.heap.size + 1, 3, none⟩ (.int .i64 d.left) = wx at *
          obtain ⟨k0, k1, k2, k3⟩ := box4 hx (Below.refl _ _)
          exact bodyPost_ret (v := .tuple #[.agg #[.int .i64 d.size, .slice A d.secs.length c, .slice P d.pend.length cp, .int .i64 d.left], .int .i64 20]) (by simp [results, Try.results50, go_sem, k0, k1, k2, k3]) rfl (DkPost.mk HE.out.1.symm HE.out.2.symm rfl rfl (h.keep (Keeps.of_below hdx)) hdx)
        · have HE := Lib.hid (wr_ok HK.out HO.out HZ.out hl)
          have hb : (d.left == 0) = false := by simp [hl]
          have C3 := Lib.hid (rless_any d.left h.f0 h.f1)
          have hlz := lessZ_range h.f0 h.f1
          clear hl hx hdx
          have hlt0 := hbk2.lt
          have hlt1 := hbr2.lt
          obtain ⟨hpc, hpr⟩ := wrs_cells (hD2.pen.keep (Keeps.alloc w2 (.cells #[] 78)))
          have ho0 := (Blk.new w2 #[] 78).own (base := w2.heap.size) (cap := 0) (sz := 2) (n := 0) (Nat.le_refl _) rfl (by unfold maxLen; omega) (by omega)
          have hd3 := hd2.alloc hd2.size (.cells #[] 78)
          have hbk3 := hbk2.alloc (.cells #[] 78)
          have hbr3 := hbr2.alloc (.cells #[] 78)
          have hwl := wrCells_length d.pend
          have HPR := Lib.hid hpr
          have HW1 := Lib.hid (wrCells_one d.pend)
          clear hpr
          go_wp2_with (at_builtin; go_must (refine wpList_append_any _ rfl (.tmp 32) (.tmp 34) _ rfl w2.heap.size 78 i1 _ 2 24 Try.underlying23 hi1' hy0 hy1 hy2 rfl (by omega) _ 0 [] rfl ho0 P d.pend.length cp (wrCells d.pend) rfl hwl hpc HW1.out (by omega) (by omega) (by simp) ?_))
          intro v3 w3 hown hgr hat
          have hown : w3.ownsRow w2.heap.size 78 2 v3 d.pend.length (wrCells d.pend) := by simpa using hown
          have hd4 := hd3.grown hgr hd3.size (fun g' h => by have := (ho0.lt g' h); have := hd2.size; omega)
          have hbk4 := hbk3.grown hgr (own_ne_type ho0 hbk3 (by decide)).symm
          have hbr4 := hbr3.grown hgr (own_ne_type ho0 hbr3 (by decide)).symm
          have hB4 := hd4.size
          have hBw := hgr.size
          rw [World.size_alloc] at hBw
          clear ho0 hgr hat hd3 hbk3 hbr3 hpc q0 q1 q2 q3 s0 s1 s2 s3 r0 r1 r2 r3 t0 t1 t2 t3
          go_wp2_with (at_builtin; go_must (refine wpList_append_any _ rfl (.tmp 35) (.tmp 39) _ rfl w2.heap.size 78 i1 _ 2 24 Try.underlying23 hi1' hy0 hy1 hy2 rfl (by omega) v3 d.pend.length (wrCells d.pend) rfl (hown.alloc _) _ 1 1 [.int .i64 i, .string s] rfl rfl (CellsAt.of_new _ _ _ _) (by simp [Value.oneCell']) (by omega) (by omega) (by simp; omega) ?_))
          intro v4 w4 hown2 hgr hat
          have hownW : OwW w4 w2.heap.size v4 (d.pend ++ [(i, s)]) := by
            unfold OwW
            rw [wrCells_append, List.length_append]
            exact hown2
          have hd5 := (hd4.alloc hB4 (.cells #[.int .i64 i, .string s] 78)).grown hgr (by simp; omega) (fun g' h => by have := (hown.lt g' h); have := hd2.size; omega)
          have hbk5 := (hbk4.alloc (.cells #[.int .i64 i, .string s] 78)).grown hgr (own_ne_type hown hbk4 (by decide)).symm
          have hbr5 := (hbr4.alloc (.cells #[.int .i64 i, .string s] 78)).grown hgr (own_ne_type hown hbr4 (by decide)).symm
          clear hown2 hgr hat hd4 hbk4 hbr4 hown hB4
          obtain ⟨t0, t1, t2, t3, r0, r1, r2, r3⟩ := box8 hbr5 (Below.refl _ _)
          obtain ⟨q0, q1, q2, q3, s0, s1, s2, s3⟩ := box8 hbk5 (Below.refl _ _)
          have hls : -9223372036854775808 ≤ d.left ∧ d.left ≤ 9223372036854775807 := ⟨h.f0, h.f1⟩
          obtain ⟨A4, c4, rfl⟩ := own_form hownW
          rw [show (d.pend ++ [(i, s)]).length = d.pend.length + 1 by simp] at hownW
          go_wp2_with (go_at_call 76; refine (C3.out _).mono ?_; rintro e w' ⟨rfl, rfl⟩)
          have hx := ((hbr5.far (p := ⟨W.heap.size, 2, none⟩) (by simp) (.slice A4 (d.pend.length + 1) c4)).far (p := ⟨W.heap.size, 3, none⟩) (by simp) (.int .i64 (lessZ d.left))).set4 (.int .i64 d.size) (.slice A d.secs.length c) (.slice A4 (d.pend.length + 1) c4) (.int .i64 (lessZ d.left))
          have hdx := set4_below ((hd5.setCell (p := ⟨W.heap.size, 2, none⟩) (Nat.le_refl _) (.slice A4 (d.pend.length + 1) c4)).setCell (p := ⟨W.heap.size, 3, none⟩) (Nat.le_refl _) (.int .i64 (lessZ d.left))) (show W.heap.size ≤ W.heap.size + 1 by omega) (.int .i64 d.size) (.slice A d.secs.length c) (.slice A4 (d.pend.length + 1) c4) (.int .i64 (lessZ d.left))
          have hvx := (((((OwW.far hownW (p := ⟨W.heap.size, 2, none⟩) hlt0 (.slice A4 (d.pend.length + 1) c4)).far (p := ⟨W.heap.size, 3, none⟩) hlt0 (.int .i64 (lessZ d.left))).far (p := ⟨W.heap.size + 1, 0, none⟩) hlt1 (.int .i64 d.size)).far (p := ⟨W.heap.size + 1, 1, none⟩) hlt1 (.slice A d.secs.length c)).far (p := ⟨W.heap.size + 1, 2, none⟩) hlt1 (.slice A4 (d.pend.length + 1) c4)).far (p := ⟨W.heap.size + 1, 3, none⟩) hlt1 (.int .i64 (lessZ d.left))
          clear hownW hbk5 hbr5 hd5 r0 r1 r2 r3 t0 t1 t2 t3 q0 q1 q2 q3 s0 s1 s2 s3
          generalize ((((((w4.setCell ⟨W.heap.size, 2, none⟩ (.slice A4 (d.pend.length + 1) c4)).setCell ⟨W.heap.size, 3, none⟩ (.int .i64 (lessZ d.left))).setCell ⟨W.heap.size + 1, 0, none⟩ (.int .i64 d.size)).setCell ⟨W.heap.size + 1, 1, none⟩ (.slice A d.secs.length c)).setCell ⟨W.heap.size + 1, 2, none⟩ (.slice A4 (d.pend.length + 1) c4)).setCell ⟨W.heap.size + 1, 3, none⟩ (.int .i64 (lessZ d.left))) = wx at *
          obtain ⟨k0, k1, k2, k3⟩ := box4 hx (Below.refl _ _)
          refine bodyPost_ret (v := .tuple #[.agg #[.int .i64 d.size, .slice A d.secs.length c, .slice A4 (d.pend.length + 1) c4, .int .i64 (lessZ d.left)], .int .i64 0]) (by simp [results, Try.results50, go_sem, k0, k1, k2, k3]) rfl (DkPost.mk HE.out.1.symm HE.out.2.symm rfl rfl ⟨h.sec.keep (Keeps.of_below hdx), ?_, h.z0, h.z1, hlz.1, hlz.2⟩ hdx)
          refine OwW.wrs (v := .slice A4 (d.pend.length + 1) c4) hvx fun x hx => ?_
          rcases List.mem_append.1 hx with hx | hx
          · exact HPR.out x hx
          · cases List.mem_singleton.1 hx
            exact ⟨hi0, hi1⟩
      · have HE := Lib.hid (wr_mis HK.out HO.out hsz)
        have hzb : ((s.size : Int) != d.size) = true := by simp [hsz]
        clear hsz
        go_wp2
        clear r0 r1 r2 r3 t0 t1 t2 t3 q0 q1 q2 q3 s0 s1 s2 s3
        generalize (((w2.setCell ⟨W.heap.size + 1, 0, none⟩ (.int .i64 0)).setCell ⟨W.heap.size + 1, 1, none⟩ (.slice none 0 0)).setCell ⟨W.heap.size + 1, 2, none⟩ (.slice none 0 0)).setCell ⟨W.heap.size + 1, 3, none⟩ (.int .i64 0) = wx at *
        obtain ⟨k0, k1, k2, k3⟩ := box4 hx (Below.refl _ _)
        exact bodyPost_ret (v := .tuple #[.agg #[.int .i64 0, .slice none 0 0, .slice none 0 0, .int .i64 0], .int .i64 11]) (by simp [results, Try.results50, go_sem, k0, k1, k2, k3]) rfl (DkPost.mk HE.out.1.symm HE.out.2.symm rfl rfl (Dsk.nodisk _) hdx)
  · have HE := Lib.hid (wr_bad (i := i) (s := s) hk)
    have hb : (chk d != 0) = true := by simp [hk]
    clear hk
    generalize chk d = full at *
    go_wp2
    clear r0 r1 r2 r3 t0 t1 t2 t3 q0 q1 q2 q3 s0 s1 s2 s3
    generalize (((w2.setCell ⟨W.heap.size + 1, 0, none⟩ (.int .i64 0)).setCell ⟨W.heap.size + 1, 1, none⟩ (.slice none 0 0)).setCell ⟨W.heap.size + 1, 2, none⟩ (.slice none 0 0)).setCell ⟨W.heap.size + 1, 3, none⟩ (.int .i64 0) = wx at *
    obtain ⟨k0, k1, k2, k3⟩ := box4 hx (Below.refl _ _)
    exact bodyPost_ret (v := .tuple #[.agg #[.int .i64 0, .slice none 0 0, .slice none 0 0, .int .i64 0], .int .i64 1]) (by simp [results, Try.results50, go_sem, k0, k1, k2, k3]) rfl (DkPost.mk HE.out.1.symm HE.out.2.symm rfl rfl (Dsk.nodisk _) hdx)
end Go.Proofs.Ytockmhhiomdlkaa

namespace Go.Proofs.Ytockmhhiomdlkaa
set_option linter.unusedSimpArgs false
set_option linter.unusedVariables false
open Go.RowKit

theorem cut_step {size : Int} {L : List ByteArray} {p : List (Int × ByteArray)} {ps : List Int} {k m : Nat} {s : ByteArray} (hk : k < p.length) (h1 : p[k].1 = (m : Int)) (h2 : p[k].2 = s) (hm : m < L.length) :
    cutW size L (p.drop k) (ps.drop k) = cutW size (L.set m (torn (pick (ps.getD k 0) size) s L[m])) (p.drop (k + 1)) (ps.drop (k + 1)) := by
  rw [List.drop_eq_getElem_cons hk, cutW, h1, h2, Int.toNat_natCast]
  have e1 : (ps.drop k).headD 0 = ps.getD k 0 := by
    rw [List.headD_eq_head?_getD, List.head?_drop, List.getD_eq_getElem?_getD]
  have e2 : (ps.drop k).tail = ps.drop (k + 1) := by rw [List.tail_drop]
  have e3 : L.getD m ⟨#[]⟩ = L[m] := by rw [List.getD_eq_getElem?_getD, List.getElem?_eq_getElem hm]; rfl
  rw [e1, e2, e3]
theorem cut_end {size : Int} {L : List ByteArray} {p : List (Int × ByteArray)} {ps : List Int} {k : Nat} (hk : ¬ k < p.length) : cutW size L (p.drop k) (ps.drop k) = L := by
  rw [List.drop_of_length_le (by omega)]; cases (ps.drop k) <;> rfl
theorem pick_zero (z : Int) : pick 0 z = 0 := by simp [pick]
theorem torn_zero (s t : ByteArray) : torn 0 s t = t := by
  apply ByteArray.ext
  simp [torn]

theorem cut_sizes {size : Int} {L : List ByteArray} (h : ∀ s ∈ L, (s.size : Int) = size) {m : Nat} {t : ByteArray} (ht : (t.size : Int) = size) : ∀ s ∈ L.set m t, (s.size : Int) = size := fun s hs => by
  rcases List.mem_or_eq_of_mem_set hs with h' | rfl
  · exact h s h'
  · exact ht

theorem own_far4 {w : World} {base n cap g : Nat} {l : List ByteArray} (h : OwS w base (.slice (some ⟨g, 0, none⟩) n cap) l) {r : Nat} (hr : g ≠ r) (b0 b1 b2 b3 : Value) :
    OwS ((((w.setCell ⟨r, 0, none⟩ b0).setCell ⟨r, 1, none⟩ b1).setCell ⟨r, 2, none⟩ b2).setCell ⟨r, 3, none⟩ b3) base (.slice (some ⟨g, 0, none⟩) n cap) l :=
  (own_stab (M := fun b => b = r) h (fun b hb e => by cases hb; exact hr e)) _
    ((((Agree.set1 w r 0 b0).trans (Agree.set1 _ r 1 b1)).trans (Agree.set1 _ r 2 b2)).trans (Agree.set1 _ r 3 b3))

/-- What Cut answers. -/
def CutPost (W : World) (d : Dk) (e : Ending) (w' : World) : Prop :=
  ∃ vs vp, e = .returned (.agg #[.int .i64 d.size, vs, vp, .int .i64 d.left]) ∧ DskP w' vs vp d ∧ Below W.heap.size W w'
theorem CutPost.mk {W w' : World} {vs vp : Value} {d d' : Dk} {z l : Int} (h2 : d' = d) (hz : z = d'.size) (hl : l = d'.left) (hd : DskP w' vs vp d') (hb : Below W.heap.size W w') :
    CutPost W d (.returned (.agg #[.int .i64 z, vs, vp, .int .i64 l])) w' := by
  subst h2 hz hl; exact ⟨_, _, rfl, hd, hb⟩
theorem cutD_bad {d : Dk} {ps : List Int} (h : chk d ≠ 0) : noDisk = cutD d ps := by unfold cutD; rw [if_pos h]
theorem cutD_ok {d : Dk} {ps : List Int} (h : chk d = 0) : (⟨d.size, cutW d.size d.secs d.pend ps, [], -1⟩ : Dk) = cutD d ps := by unfold cutD; rw [if_neg (by simp [h])]

/-- What holds between two rounds of Cut. -/
def CutRel (W : World) (d : Dk) (ps : List Int) (bx : Array Value) (g cap : Nat) (k : Nat) (wr : World) : Prop :=
  ∃ L : List ByteArray, L.length = d.secs.length ∧ (∀ s ∈ L, (s.size : Int) = d.size) ∧ cutW d.size d.secs d.pend ps = cutW d.size L (d.pend.drop k) (ps.drop k) ∧
    wr.ownsRow (W.heap.size + 1) 9 1 (.slice (some ⟨g, 0, none⟩) d.secs.length cap) d.secs.length (L.map .string) ∧
    Blk wr W.heap.size 25 bx ∧ Blk wr (W.heap.size + 1) 25 #[.int .i64 0, .slice none 0 0, .slice none 0 0, .int .i64 0] ∧ Below W.heap.size W wr

end Go.Proofs.Ytockmhhiomdlkaa

namespace Go.Proofs.Ytockmhhiomdlkaa
set_option linter.unusedSimpArgs false
set_option linter.unusedVariables false
open Go.RowKit

set_option maxRecDepth 100000 in
set_option maxHeartbeats 2000000 in
theorem same_any (W : World) (vs vp us up : Value) (d : Dk) (h : DskP W vs vp d) (h' : DskP W us up d) :
    Calls Try.prog 16 #[.agg #[.int .i64 d.size, vs, vp, .int .i64 d.left], .agg #[.int .i64 d.size, us, up, .int .i64 d.left]] W fun e w' => e = .returned (.bool true) ∧ Below W.heap.size W w' := by
  obtain ⟨size, secs, pend, left⟩ := d
  obtain ⟨hs, hp, z0, z1, f0, f1⟩ := h
  obtain ⟨hs', hp', _, _, _, _⟩ := h'
  simp only at hs hp hs' hp' z0 z1 f0 f1
  obtain ⟨A, c, rfl, hc, hm⟩ := hs.form
  obtain ⟨P, cp, rfl, hcp, hmp⟩ := hp.form
  obtain ⟨A', c', rfl, hc', hm'⟩ := hs'.form
  obtain ⟨P', cp', rfl, hcp', hmp'⟩ := hp'.form
  have hbk0 := Blk.new W #[.int .i64 size, .slice A secs.length c, .slice P pend.length cp, .int .i64 left] 25
  have hbk := hbk0.alloc (.cells #[.int .i64 size, .slice A' secs.length c', .slice P' pend.length cp', .int .i64 left] 25)
  have hbr := Blk.new (W.alloc (.cells #[.int .i64 size, .slice A secs.length c, .slice P pend.length cp, .int .i64 left] 25)) #[.int .i64 size, .slice A' secs.length c', .slice P' pend.length cp', .int .i64 left] 25
  rw [World.size_alloc] at hbr
  have hd1 := ((Below.refl W.heap.size W).alloc (Nat.le_refl _) (.cells #[.int .i64 size, .slice A secs.length c, .slice P pend.length cp, .int .i64 left] 25)).alloc (by simp) (.cells #[.int .i64 size, .slice A' secs.length c', .slice P' pend.length cp', .int .i64 left] 25)
  clear hbk0
  go_enter Try.func16, Try.ntmps16
  go_upto_region 1 with (fail)
  generalize (W.alloc (.cells #[.int .i64 size, .slice A secs.length c, .slice P pend.length cp, .int .i64 left] 25)).alloc (.cells #[.int .i64 size, .slice A' secs.length c', .slice P' pend.length cp', .int .i64 left] 25) = w1 at *
  have q0 := hbk.cell (j := 0) rfl
  have q1 := hbk.cell (j := 1) rfl
  have q2 := hbk.cell (j := 2) rfl
  have q3 := hbk.cell (j := 3) rfl
  have p0 := hbr.cell (j := 0) rfl
  have p1 := hbr.cell (j := 1) rfl
  have p2 := hbr.cell (j := 2) rfl
  have p3 := hbr.cell (j := 3) rfl
  go_wp2
  go_loopw [5] (fun t wr => ∃ k : Nat, k ≤ secs.length ∧ t = .int .i64 k ∧ Drawn w1 wr) (fun t _ => secs.length - (intOf t).toNat)
  case atStart => exact ⟨0, by omega, rfl, Drawn.refl _⟩
  case round =>
    clear q0 q3 p0 p3
    obtain ⟨k, hk, rfl, nd, rfl⟩ := hrel
    by_cases hlt : k < secs.length
    · obtain ⟨b, off, rfl, a1⟩ := (hs.keep (Keeps.of_below hd1)).get hlt
      obtain ⟨b', off', rfl, a1'⟩ := (hs'.keep (Keeps.of_below hd1)).get hlt
      generalize secs[k] = s at *
      go_wp2
      go_quiet (fail)
      go_wp2
      go_roundw
      case rel => exact ⟨k + 1, by omega, by go_num, nd + _, rfl⟩
      case measure => simp [intOf]; omega
    · go_wp2
      go_loopw [6] (fun t wr => ∃ k : Nat, k ≤ pend.length ∧ t = .int .i64 k ∧ Drawn w1 wr) (fun t _ => pend.length - (intOf t).toNat)
      case atStart => exact ⟨0, by omega, rfl, nd, rfl⟩
      case round =>
        obtain ⟨j, hj, rfl, ne, rfl⟩ := hrel
        by_cases hlt2 : j < pend.length
        · obtain ⟨b, off, rfl, a1, a2, a3, a4⟩ := (hp.keep (Keeps.of_below hd1)).get hlt2
          obtain ⟨b', off', rfl, a1', a2', _, _⟩ := (hp'.keep (Keeps.of_below hd1)).get hlt2
          generalize pend[j] = wx at *
          go_wp2
          go_quiet (fail)
          go_wp2
          go_roundw
          case rel => exact ⟨j + 1, by omega, by go_num, ne + _, rfl⟩
          case measure => simp [intOf]; omega
        · go_wp2
          go_ret
          exact ⟨rfl, below_drewN' hd1 ne⟩

/-- Is a disk greater than the bounds of the statements? -/
def greatB (d : Dk) : Bool := decide (12 < d.secs.length ∨ 12 < d.pend.length ∨ 40 < d.size)
theorem greatB_false {d : Dk} (h : greatB d = false) : d.secs.length ≤ 12 ∧ d.pend.length ≤ 12 ∧ d.size ≤ 40 := by
  have := of_decide_eq_false h
  omega
set_option maxHeartbeats 400000 in
theorem great_any (W : World) (vs vp : Value) (d : Dk) (h : DskP W vs vp d) :
    Calls Try.prog 11 #[.agg #[.int .i64 d.size, vs, vp, .int .i64 d.left]] W fun e w' => e = .returned (.bool (greatB d)) ∧ Below W.heap.size W w' := by
  obtain ⟨size, secs, pend, left⟩ := d
  obtain ⟨hs, hp, z0, z1, f0, f1⟩ := h
  simp only at hs hp z0 z1 f0 f1
  obtain ⟨A, c, rfl, hc, hm⟩ := hs.form
  obtain ⟨P, cp, rfl, hcp, hmp⟩ := hp.form
  have key : greatB ⟨size, secs, pend, left⟩ = (decide (12 < (secs.length : Int)) || decide (12 < (pend.length : Int)) || decide (40 < size)) := by
    unfold greatB
    rw [Bool.eq_iff_iff]
    simp
    omega
  have K := Lib.hid key
  clear key
  by_cases h1 : 12 < (secs.length : Int) <;> by_cases h2 : 12 < (pend.length : Int) <;> by_cases h3 : 40 < size
  all_goals
    go_enter Try.func11, Try.ntmps11
    go_wp2
    go_ret
    exact ⟨ret_bool (by rw [K.out, Bool.eq_iff_iff]; simp <;> omega), (Below.refl _ _).alloc (Nat.le_refl _) _⟩
end Go.Proofs.Ytockmhhiomdlkaa

namespace Go.Proofs.Ytockmhhiomdlkaa
set_option linter.unusedSimpArgs false
set_option linter.unusedVariables false
open Go.RowKit

def newD (n z : Nat) : Dk := ⟨z, List.replicate n (nulB z), [], -1⟩

set_option maxRecDepth 100000 in
set_option maxHeartbeats 1000000 in
theorem rnew_bad (W : World) (n z : Int) (hb : ¬ (1 ≤ n ∧ n ≤ 1000 ∧ 1 ≤ z ∧ z ≤ 512)) :
    Calls Try.prog 56 #[.int .i64 n, .int .i64 z] W (DkPost W noDisk 2) := by
  have hbr := Blk.new W #[.int .i64 0, .slice none 0 0, .slice none 0 0, .int .i64 0] 25
  have hd1 := (Below.refl W.heap.size W).alloc (Nat.le_refl _) (.cells #[.int .i64 0, .slice none 0 0, .slice none 0 0, .int .i64 0] 25)
  have hcase : n < 1 ∨ (¬ n < 1 ∧ 1000 < n) ∨ (¬ n < 1 ∧ ¬ 1000 < n ∧ z < 1) ∨ (¬ n < 1 ∧ ¬ 1000 < n ∧ ¬ z < 1 ∧ 512 < z) := by omega
  clear hb
  rcases hcase with h1 | ⟨h1, h2⟩ | ⟨h1, h2, h3⟩ | ⟨h1, h2, h3, h4⟩
  all_goals
    go_enter Try.func56, Try.ntmps56
    go_upto_region 1 with (fail)
    generalize W.alloc (.cells #[.int .i64 0, .slice none 0 0, .slice none 0 0, .int .i64 0] 25) = w2 at *
    have hx := hbr.set4 (.int .i64 0) (.slice none 0 0) (.slice none 0 0) (.int .i64 0)
    have hdx := set4_below hd1 (Nat.le_refl W.heap.size) (.int .i64 0) (.slice none 0 0) (.slice none 0 0) (.int .i64 0)
    obtain ⟨t0, t1, t2, t3, r0, r1, r2, r3⟩ := box8 hbr (Below.refl _ _)
    go_wp2
    clear r0 r1 r2 r3 t0 t1 t2 t3
    generalize (((w2.setCell ⟨W.heap.size, 0, none⟩ (.int .i64 0)).setCell ⟨W.heap.size, 1, none⟩ (.slice none 0 0)).setCell ⟨W.heap.size, 2, none⟩ (.slice none 0 0)).setCell ⟨W.heap.size, 3, none⟩ (.int .i64 0) = wx at *
    obtain ⟨k0, k1, k2, k3⟩ := box4 hx (Below.refl _ _)
    exact bodyPost_ret (v := .tuple #[.agg #[.int .i64 0, .slice none 0 0, .slice none 0 0, .int .i64 0], .int .i64 2]) (by simp [results, Try.results56, go_sem, k0, k1, k2, k3]) rfl (DkPost.mk rfl rfl rfl rfl (Dsk.nodisk _) hdx)

/-- What holds between two rounds of New. -/
def NewRel (W : World) (z k : Nat) (wr : World) : Prop :=
  ∃ v, wr.ownsRow (W.heap.size + 2) 9 1 v k ((List.replicate k (nulB z)).map .string) ∧ Blk wr W.heap.size 25 #[.int .i64 0, .slice none 0 0, .slice none 0 0, .int .i64 0] ∧
    Blk wr (W.heap.size + 1) 25 #[.int .i64 z, v, .slice none 0 0, .int .i64 (-1)] ∧ Below W.heap.size W wr
theorem rep_succ (z k : Nat) : (List.replicate k (nulB z)).map Value.string ++ [.string (nulB z)] = (List.replicate (k + 1) (nulB z)).map Value.string := by
  rw [List.replicate_succ', List.map_append]; rfl

set_option maxRecDepth 100000 in
set_option maxHeartbeats 4000000 in
theorem rnew_ok (W : World) (n z : Nat) (hn1 : 1 ≤ n) (hn2 : n ≤ 40) (hz1 : 1 ≤ z) (hz2 : z ≤ 40) :
    Calls Try.prog 56 #[.int .i64 n, .int .i64 z] W (DkPost W (newD n z) 0) := by
  obtain ⟨i0, hi, hy0, hy1, hy2⟩ := info_parts Try.info_str
  have hbr0 := Blk.new W #[.int .i64 0, .slice none 0 0, .slice none 0 0, .int .i64 0] 25
  have hbr := hbr0.alloc (.cells #[.int .i64 z, .slice none 0 0, .slice none 0 0, .int .i64 (-1)] 25)
  have hbk := Blk.new (W.alloc (.cells #[.int .i64 0, .slice none 0 0, .slice none 0 0, .int .i64 0] 25)) #[.int .i64 z, .slice none 0 0, .slice none 0 0, .int .i64 (-1)] 25
  rw [World.size_alloc] at hbk
  have hd1 := ((Below.refl W.heap.size W).alloc (Nat.le_refl _) (.cells #[.int .i64 0, .slice none 0 0, .slice none 0 0, .int .i64 0] 25)).alloc (by simp) (.cells #[.int .i64 z, .slice none 0 0, .slice none 0 0, .int .i64 (-1)] 25)
  have hR : NewRel W z 0 ((W.alloc (.cells #[.int .i64 0, .slice none 0 0, .slice none 0 0, .int .i64 0] 25)).alloc (.cells #[.int .i64 z, .slice none 0 0, .slice none 0 0, .int .i64 (-1)] 25)) := ⟨_, World.ownsRow_nil _ _ _ _, hbr, hbk, hd1⟩
  have hz : ∀ (w : World), Calls Try.prog 78 #[.int .i64 z] w fun e w' => e = .returned (.string (nulB z)) ∧ w = w' := zeros_any z (by omega)
  have HZ := Lib.hid hz
  have hnz := nulB_size z
  have HNZ := Lib.hid hnz
  clear hbr0 hbr hbk hd1 hz hnz
  go_enter Try.func56, Try.ntmps56
  go_wp2
  go_loopw [7] (fun t wr => ∃ k : Nat, k ≤ n ∧ t = .int .i64 k ∧ NewRel W z k wr) (fun t _ => n - (intOf t).toNat)
  case atStart => exact ⟨0, by omega, rfl, hR⟩
  case round =>
    clear hR
    obtain ⟨k, hk, rfl, v, hown, hbr, hbk, hd⟩ := hrel
    have hB := hbk.lt
    have q0 := hbk.cell (j := 0) rfl
    have q1 := hbk.cell (j := 1) rfl
    have q2 := hbk.cell (j := 2) rfl
    have q3 := hbk.cell (j := 3) rfl
    have s1 := hbk.frozen 1
    by_cases hlt : k < n
    · have HS := Lib.hid (rep_succ z k)
      generalize hzs : nulB z = zs at *
      have HZS := Lib.hid hzs
      clear hzs
      obtain ⟨A, c, rfl⟩ := own_form hown
      go_wp2
      go_region_law (first
        | (refine step_append_any _ rfl _ _ _ rfl (W.heap.size + 2) 9 i0 _ 1 16 Try.underlying22 hi hy0 hy1 hy2 rfl (by omega) (.slice A k c) k _ rfl (World.ownsRow.drew (World.ownsRow.alloc hown _)) _ 1 1 [.string zs] rfl rfl (CellsAt.of_new _ _ _ _) (by simp [Value.oneCell']) (by omega) (by omega) (by simp; omega) ?_; intro v1 w2 hown1 hgr hat; obtain ⟨A', c', rfl⟩ := own_form hown1; have hbk2 := Blk.grown (Blk.drew (Blk.alloc hbk (.cells #[.string zs] 9))) hgr (own_ne_type hown hbk (by decide)).symm; have p1 := hbk2.cell (j := 1) rfl; have f1 := hbk2.frozen 1)
        | (go_simp; go_at_call 78; refine (HZ.out _).mono ?_; rintro e w' ⟨rfl, rfl⟩))
      all_goals
        have hbr2 := Blk.grown (Blk.drew (Blk.alloc hbr (.cells #[.string zs] 9))) hgr (own_ne_type hown hbr (by decide)).symm
        have hd2 := (below_drew1 (hd.alloc hd.size (.cells #[.string zs] 9))).grown hgr (by have := hd.size; simp; omega) (fun g' h => by have := (hown.lt g' h); omega)
        have hbr3 := hbr2.far (p := ⟨W.heap.size + 1, 1, none⟩) (by simp) (.slice A' (k + 1) c')
        have hbk3 := hbk2.set 1 (.slice A' (k + 1) c')
        have hd3 := hd2.setCell (p := ⟨W.heap.size + 1, 1, none⟩) (show W.heap.size ≤ W.heap.size + 1 by omega) (.slice A' (k + 1) c')
        have hown3 := (own_stab (M := fun b => b = W.heap.size + 1) hown1 (fun b hb e => by have := hown1.lt b hb; omega)) _ (Agree.set1 w2 (W.heap.size + 1) 1 (.slice A' (k + 1) c'))
        clear q0 q1 q2 q3 s1 p1 f1 hbr hbk hd hown hbr2 hbk2 hd2 hgr hat
        go_wp2
        go_roundw
        case rel => exact ⟨k + 1, by omega, by go_num, _, by rw [HZS.out, ← HS.out]; exact hown3, hbr3, hbk3, hd3⟩
        case measure => simp [intOf]; omega
    · obtain rfl : k = n := by omega
      obtain ⟨A, c, rfl⟩ := own_form hown
      have hbl := hbr.lt
      have hOS : OwS wr (W.heap.size + 2) (.slice A k c) (List.replicate k (nulB z)) := by unfold OwS; rw [List.length_replicate]; exact hown
      have hx := hbr.set4 (.int .i64 z) (.slice A k c) (.slice none 0 0) (.int .i64 (-1))
      have hdx := set4_below hd (Nat.le_refl _) (.int .i64 z) (.slice A k c) (.slice none 0 0) (.int .i64 (-1))
      have hvx := (((hOS.far (p := ⟨W.heap.size, 0, none⟩) (by simp) (.int .i64 z)).far (p := ⟨W.heap.size, 1, none⟩) (by simp) (.slice A k c)).far (p := ⟨W.heap.size, 2, none⟩) (by simp) (.slice none 0 0)).far (p := ⟨W.heap.size, 3, none⟩) (by simp) (.int .i64 (-1))
      obtain ⟨t0, t1, t2, t3, r0, r1, r2, r3⟩ := box8 hbr (Below.refl _ _)
      go_wp2
      clear r0 r1 r2 r3 t0 t1 t2 t3 q0 q1 q2 q3 s1
      generalize (((wr.setCell ⟨W.heap.size, 0, none⟩ (.int .i64 z)).setCell ⟨W.heap.size, 1, none⟩ (.slice A k c)).setCell ⟨W.heap.size, 2, none⟩ (.slice none 0 0)).setCell ⟨W.heap.size, 3, none⟩ (.int .i64 (-1)) = wx at *
      obtain ⟨k0, k1, k2, k3⟩ := box4 hx (Below.refl _ _)
      exact bodyPost_ret (v := .tuple #[.agg #[.int .i64 z, .slice A k c, .slice none 0 0, .int .i64 (-1)], .int .i64 0]) (by simp [results, Try.results56, go_sem, k0, k1, k2, k3]) rfl (DkPost.mk (d' := newD k z) rfl rfl rfl rfl ⟨hvx.strs, Sl.nil _ _ _, by simp [newD], by simp [newD]; omega, by simp [newD], by simp [newD]⟩ hdx)
end Go.Proofs.Ytockmhhiomdlkaa
