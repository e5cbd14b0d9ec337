/- linediff.each and Lines: a range over a function whose text lies in a box. -/
import Derived.RangeFuncBox
import Derived.RangeFuncLeaves
import Derived.Shelf.Abstract
import Derived.WalkKit
import Derived.OwnWalkIn
import Derived.TacticsInMore
import Derived.LoopNIn
import Derived.LoopIn
import Derived.Test.YthobbcafemkhbaaIdx
import Derived.Test.YthobbcafemkhbaaLinesP
import Derived.Test.YthobbcafemkhbaaMem
namespace Go.Proofs.Ythobbcafemkhbaa
open Go.RowKit
attribute [local go_sem] Oper.semAt_some

/-- The size of the string in a cell. -/
def boxSize (W : World) (b : Nat) : Nat := match W.cell? ⟨b, 0, none⟩ with | some (.string s) => s.size | _ => 0
theorem boxSize_eq {W : World} {b : Nat} {s : ByteArray} (h : W.cell? ⟨b, 0, none⟩ = some (.string s)) : boxSize W b = s.size := by unfold boxSize; rw [h]

theorem bytes_take (b : ByteArray) (k : Nat) : (⟨(b.data.toList.take k).toArray⟩ : ByteArray) = b.extract 0 k := by
  apply ByteArray.ext
  apply Array.toList_inj.1
  simp
theorem bytes_whole (b : ByteArray) : (⟨(b.data.toList.take b.size).toArray⟩ : ByteArray) = b := by
  apply ByteArray.ext
  apply Array.toList_inj.1
  show (b.data.toList.take b.data.toList.length) = b.data.toList
  rw [List.take_length]
theorem bytes_drop (b : ByteArray) (k : Nat) : (b.extract k b.size).data.toList = b.data.toList.drop k := by
  rw [ByteArray.data_extract, Array.toList_extract]
  show (b.data.toList.drop k).take (b.data.toList.length - k) = _
  rw [List.take_of_length_le (by simp)]

set_option maxRecDepth 100000 in
set_option maxHeartbeats 1000000 in
theorem each1_in (n l Bn : Nat) (hn : 1 ≤ n) (J : List (List UInt8) → World → Prop) (hJ : ∀ pre W v, J pre W → J pre (W.setCell ⟨Bn, 0, none⟩ v)) (s : ByteArray) (hs : s.size ≤ 9223372036854775806)
    (hY : ∀ pre (x : List UInt8) W, J pre W → pre.length < s.size → YieldAt Fence.wide (n - 1) Try.prog l #[.string ⟨x.toArray⟩] W fun e W' => e = .returned (.bool true) ∧ J (pre ++ [x]) W' ∧ W'.heap[Bn]? = W.heap[Bn]?)
    (W : World) (hbox : Blk W Bn 9 #[.string s]) (h0 : J [] W) :
    CallsIn Fence.wide n Try.prog 70 #[.func (.yield l) #[] #[], .pointer (some ⟨Bn, 0, none⟩)] W fun e W' => (∃ v, e = .returned v) ∧ J (lines s.data.toList) W' := by
  refine callsIn_of_wp Try.func70 rfl trivial ?_ rfl
  simp only [Try.ntmps70, List.size_toArray, List.length_cons, List.length_nil, Nat.reduceAdd, Nat.reduceSub, Array.replicate_succ, Array.replicate_zero, List.push_toArray, List.append_toArray, List.nil_append, List.cons_append]
  gi_wp2
  gi_loopw [3] (fun _ wr => ∃ (pre : List (List UInt8)) (rest : ByteArray), Hid (lines s.data.toList = pre ++ lines rest.data.toList) ∧ pre.length + rest.size ≤ s.size ∧ Blk wr Bn 9 #[.string rest] ∧ J pre wr) (fun _ wr => boxSize wr Bn)
  case atStart => exact ⟨[], s, rfl, by simp, hbox, h0⟩
  case round =>
    obtain ⟨pre, rest, HL, hlen, hblk, hj⟩ := hrel
    have hc := hblk.cell (j := 0) rfl
    have hf := hblk.frozen 0
    by_cases he : rest.data.toList = []
    · have hz : rest.toList = [] := (ByteArray.toList_eq rest).trans he
      have hz2 : rest.toList.isEmpty = true := by rw [hz]; rfl
      gi_wp2
      go_end0
      refine ⟨⟨_, rfl⟩, ?_⟩
      rw [HL.out, he, lines_nil, List.append_nil]
      exact hj
    · have hz : (rest.toList == ([] : List UInt8)) = false := by
        have : ¬ rest.toList = [] := fun h => he ((ByteArray.toList_eq rest).symm.trans h)
        simpa using this
      have hz2 : rest.toList.isEmpty = false := by
        have : ¬ rest.toList = [] := fun h => he ((ByteArray.toList_eq rest).symm.trans h)
        simpa using this
      have hst := lines_step he
      have hp := firstLen_pos he
      have hle := firstLen_le rest.data.toList
      have hsz : rest.data.toList.length = rest.size := rfl
      obtain ⟨fn, tmps, assign, body, hy, hR⟩ := hY pre (rest.data.toList.take (firstLen rest.data.toList)) wr hj (by omega)
      have ci := stIndexByte rest 10 wr
      rcases index_cases rest.data.toList with hi | ⟨o, hi, hlt⟩
      · rw [show (10 : Int).toNat.toUInt8 = 10 from rfl, hi] at ci
        have hfl : firstLen rest.data.toList = rest.size := by unfold firstLen; rw [if_pos hi]; rfl
        rw [hfl] at hy hR
        rw [bytes_whole] at hy
        have CI := Lib.hid ci
        have HI := Lib.hid hi
        clear hi ci
        gi_wp2_with (refine ⟨trivial, ?_⟩; gi_at_call 71; refine (callsIn_wide.2 CI.out).mono ?_; rintro e w' ⟨rfl, rfl⟩)
        refine hR.mono ?_
        rintro e W3 ⟨rfl, hJ3, hb3⟩
        have hblk3 : Blk W3 Bn 9 #[.string rest] := hb3.trans hblk
        have hc3 := hblk3.cell (j := 0) rfl
        have hf3 := hblk3.frozen 0
        gi_wp2
        go_roundw
        case rel =>
          refine ⟨pre ++ [rest.data.toList.take rest.size], ByteArray.empty, ?_, ?_, hblk3.set 0 _, hJ _ _ _ hJ3⟩
          · show _ = _
            rw [HL.out, hst, hfl]
            rw [List.append_assoc, show List.drop rest.size rest.data.toList = [] from List.drop_of_length_le (Nat.le_refl _)]
            rfl
          · simp; omega
        case measure =>
          rw [boxSize_eq hc, boxSize_eq ((hblk3.set 0 _).cell (j := 0) rfl)]
          show 0 < _; omega
      · rw [show (10 : Int).toNat.toUInt8 = 10 from rfl, hi] at ci
        have hfl : firstLen rest.data.toList = o + 1 := by unfold firstLen; rw [if_neg (by omega), hi]; omega
        rw [hfl] at hy hR
        rw [bytes_take] at hy
        have CI := Lib.hid ci
        have HI := Lib.hid hi
        have hlt' : o < rest.size := hlt
        clear hi ci
        gi_wp2_with (refine ⟨trivial, ?_⟩; gi_at_call 71; refine (callsIn_wide.2 CI.out).mono ?_; rintro e w' ⟨rfl, rfl⟩)
        refine hR.mono ?_
        rintro e W3 ⟨rfl, hJ3, hb3⟩
        have hblk3 : Blk W3 Bn 9 #[.string rest] := hb3.trans hblk
        have hc3 := hblk3.cell (j := 0) rfl
        have hf3 := hblk3.frozen 0
        gi_wp2
        go_roundw
        case rel =>
          refine ⟨pre ++ [rest.data.toList.take (o + 1)], rest.extract (o + 1) rest.size, ?_, ?_, hblk3.set 0 _, hJ _ _ _ hJ3⟩
          · show _ = _
            rw [HL.out, hst, hfl]
            rw [List.append_assoc, bytes_drop]
            rfl
          · simp; omega
        case measure =>
          rw [boxSize_eq hc, boxSize_eq ((hblk3.set 0 _).cell (j := 0) rfl)]
          simp; omega
end Go.Proofs.Ythobbcafemkhbaa
