/- slices.Backward over pending writes: the iterator. -/
import Derived.RangeFuncNested
import Derived.RangeFuncBound
import Derived.RangeFuncCalls
import Derived.RangeFuncLeaves
import Derived.Shelf.Abstract
import Derived.Shelf.RegionOpen
import Derived.WalkKit
import Derived.OwnWalkIn
import Derived.TacticsInMore
import Derived.LoopNIn
import Derived.LoopIn
import Derived.Test.YtpihapkclnhklaaDkRef3
namespace Go.Proofs.Ytpihapkclnhklaa
open Go.RowKit
attribute [local go_sem] Oper.semAt_some

abbrev BackT := Nat × (Int × ByteArray)
def backEnc (x : BackT) : Array Value := #[.int .i64 (x.1 : Int), .agg #[.int .i64 x.2.1, .string x.2.2]]
/-- The first k that come when a list is gone through backward. -/
def backL (p : List (Int × ByteArray)) (k : Nat) : List BackT := (List.range k).map fun j => (p.length - 1 - j, p[p.length - 1 - j]?.getD (0, ⟨#[]⟩))
theorem backL_length (p : List (Int × ByteArray)) (k : Nat) : (backL p k).length = k := by simp [backL]
theorem backL_succ (p : List (Int × ByteArray)) (k : Nat) : backL p (k + 1) = backL p k ++ [(p.length - 1 - k, p[p.length - 1 - k]?.getD (0, ⟨#[]⟩))] := by simp [backL, List.range_succ]

theorem backward_any (v : Value) (A : Option Addr) (n c : Nat) (hv : v = .slice A n c) (w : World) :
    Calls Try.prog 37 #[v] w fun e w' => e = .returned (.func (.func 49) #[] #[.pointer (some ⟨w.heap.size, 0, none⟩)]) ∧ w' = w.alloc (.cells #[v] 24) := by
  subst hv
  go_enter Try.func37, Try.ntmps37
  go_wp2
  go_ret
  exact ⟨rfl, rfl⟩

set_option maxRecDepth 100000 in
set_option maxHeartbeats 2000000 in
theorem back1_in (n : Nat) (hn : 1 ≤ n) (l Bs n₀ : Nat) (A : Option Addr) (cap : Nat) (p : List (Int × ByteArray)) (J Jx : List BackT → World → Prop)
    (hY : ∀ pre x W, J pre W → pre.length < p.length → YieldAt Fence.wide (n - 1) Try.prog l (backEnc x) W fun e W' =>
      (e = .returned (.bool true) ∧ J (pre ++ [x]) W' ∧ Below n₀ W W') ∨ (e = .returned (.bool false) ∧ Jx (pre ++ [x]) W'))
    (W0 W : World) (hW0 : Wrs W0 (.slice A p.length cap) p) (hn₀ : W0.heap.size ≤ n₀) (hb0 : Below W0.heap.size W0 W) (hBs : Blk W Bs 24 #[.slice A p.length cap]) (hBn : Bs < n₀) (h0 : J [] W) :
    CallsIn Fence.wide n Try.prog 49 #[.func (.yield l) #[] #[], .pointer (some ⟨Bs, 0, none⟩)] W fun e W' => (∃ v, e = .returned v) ∧
      ((∃ ys, ys = backL p p.length ∧ J ys W') ∨ (∃ pre, (∃ k, k < p.length ∧ pre = backL p (k + 1)) ∧ Jx pre W')) := by
  obtain ⟨_, _, e0, hcp, hmp⟩ := hW0.form
  cases e0
  refine callsIn_of_wp Try.func49 rfl trivial ?_ rfl
  simp only [Try.ntmps49, List.size_toArray, List.length_cons, List.length_nil, Nat.reduceAdd, Nat.reduceSub, Array.replicate_succ, Array.replicate_zero, List.push_toArray, List.append_toArray, List.nil_append, List.cons_append]
  have hc0 := hBs.cell (j := 0) rfl
  gi_wp2
  gi_loopw [3] (fun i wr => ∃ k : Nat, k ≤ p.length ∧ i = .int .i64 ((p.length : Int) - 1 - (k : Int)) ∧ J (backL p k) wr ∧ Below n₀ W wr) (fun i _ => (intOf i + 1).toNat)
  case atStart => exact ⟨0, Nat.zero_le _, by simp, h0, Below.refl _ _⟩
  case round =>
    clear hc0
    obtain ⟨k, hk, rfl, hJs, hnx⟩ := hrel
    have hbk := hBs.below hnx hBn
    have hc1 := hbk.cell (j := 0) rfl
    have hw := hW0.keep (Keeps.of_below (hb0.trans (hnx.mono hn₀)))
    by_cases hlt : k < p.length
    · have hi : (p.length : Int) - 1 - (k : Int) = ((p.length - 1 - k : Nat) : Int) := by omega
      have hlt2 : p.length - 1 - k < p.length := by omega
      obtain ⟨b, off, rfl, a1, a2, _, _⟩ := hw.get hlt2
      obtain ⟨fn, tmps, assign, body, hy, hR⟩ := hY _ (p.length - 1 - k, p[p.length - 1 - k]?.getD (0, ⟨#[]⟩)) wr hJs (by rw [backL_length]; exact hlt)
      have hge : p[p.length - 1 - k]?.getD (0, ⟨#[]⟩) = p[p.length - 1 - k] := by rw [List.getElem?_eq_getElem hlt2]; rfl
      rw [hi]
      have hS := backL_succ p k
      rw [hge] at hy hR hS
      have HS := Lib.hid hS
      have HI := Lib.hid hi
      clear hge hS hi
      generalize hj : p.length - 1 - k = j at *
      have HJ := Lib.hid hj
      clear hj
      simp only [backEnc] at hy
      generalize p[j] = x at *
      gi_wp2
      refine hR.mono ?_
      rintro e W3 (⟨rfl, hJ3, hk3⟩ | ⟨rfl, hJx3⟩)
      · gi_wp2
        go_roundw
        case rel => exact ⟨k + 1, by omega, by have := HI.out; congr 1; omega, by rw [HS.out]; exact hJ3, hnx.trans hk3⟩
        case measure => simp [intOf]
      · gi_wp2
        refine bodyPost_ret (results_none rfl _ _ _) rfl ?_
        exact ⟨⟨_, rfl⟩, .inr ⟨_, ⟨k, hlt, HS.out.symm⟩, hJx3⟩⟩
    · obtain rfl : k = p.length := by omega
      gi_wp2
      go_end0
      exact ⟨⟨_, rfl⟩, .inl ⟨_, rfl, hJs⟩⟩
theorem back_stops (n : Nat) (hn : 1 ≤ n) (Bs n₀ : Nat) (A : Option Addr) (cap : Nat) (p : List (Int × ByteArray)) (W0 w : World) (hW0 : Wrs W0 (.slice A p.length cap) p) (hn₀ : W0.heap.size ≤ n₀) (hb0 : Below W0.heap.size W0 w)
    (hBs : Blk w Bs 24 #[.slice A p.length cap]) (hBn : Bs < n₀) (hnw : n₀ ≤ w.heap.size) :
    SeqStopsK Fence.wide n Try.prog 49 #[.pointer (some ⟨Bs, 0, none⟩)] backEnc (Below n₀) (fun ys => ys = backL p p.length) (fun pre => ∃ k, k < p.length ∧ pre = backL p (k + 1)) p.length w := fun l J Jx W hW _ _ hY h0 =>
  back1_in n hn l Bs n₀ A cap p J Jx hY W0 W hW0 hn₀ (hb0.trans (hW.mono (by omega))) (hBs.below hW hBs.lt) hBn h0
end Go.Proofs.Ytpihapkclnhklaa
