/- cordwoodref05: pick, zeros, Current, Read. -/
import Derived.Test.YtpihapkclnhklaaDkRcheck
import Derived.BigRegion
import Derived.Deep.CutBlock
import Derived.Deep.DeepCutAuto
import Derived.Deep.DeepMust
import Derived.Deep.RegionLaw
import Derived.Deep.RegionWith
import Derived.StillTailTactics
namespace Go.Proofs.Ytpihapkclnhklaa
open Go.RowKit

theorem Try.info_str : (Try.prog.info? 9).map (fun i => (i.zero, i.size, i.bytes)) = some (some (.string ByteArray.empty), 1, 16) := by kernel_rfl
theorem Try.info_wr : (Try.prog.info? 45).map (fun i => (i.zero, i.size, i.bytes)) = some (some (.agg #[.int .i64 0, .string ByteArray.empty]), 2, 24) := by kernel_rfl

/-! a row of one-cell elements that the call owns -/
section
variable {w : World} {base n : Nat} {e : TypeId} {v : Value} {xs : List Value}
theorem own_row {sz : Nat} (h : w.ownsRow base e sz v n xs) (hn : 0 < n) : ∃ g cap, v = .slice (some ⟨g, 0, none⟩) n cap ∧ base ≤ g ∧ g < w.heap.size ∧ n ≤ cap ∧ cap ≤ 9223372036854775807 := by
  rcases h.2 with ⟨rfl, rfl⟩ | ⟨g, cap, cur, rfl, hb, hg, h1, h2, _⟩
  · omega
  · exact ⟨g, cap, rfl, hb, (Array.getElem?_eq_some_iff.1 hg).1, h1, by unfold maxLen at h2; omega⟩
theorem own_at {g cap : Nat} (h : w.ownsRow base e 1 (.slice (some ⟨g, 0, none⟩) n cap) n xs) {i : Nat} {u : Value} (hi : xs[i]? = some u) :
    w.cell? ⟨g, i, none⟩ = some u ∧ w.frozen? ⟨g, i, none⟩ = false := by
  rcases h.2 with ⟨h1, _⟩ | ⟨g', cap', cur, h1, hb, hg, hn, hm, hc, hx⟩
  · cases h1
  · cases h1
    have hB : Blk w g e cur := hg
    refine ⟨?_, hB.frozen i⟩
    rw [← hx, List.getElem?_take] at hi
    split at hi
    · exact hB.cell (by simpa using hi)
    · cases hi
theorem own_set {g cap : Nat} (h : w.ownsRow base e 1 (.slice (some ⟨g, 0, none⟩) n cap) n xs) {i : Nat} (u : Value) :
    (w.setCell ⟨g, i, none⟩ u).ownsRow base e 1 (.slice (some ⟨g, 0, none⟩) n cap) n (xs.set i u) := by
  refine ⟨by rw [List.length_set]; exact h.1, ?_⟩
  rcases h.2 with ⟨h1, _⟩ | ⟨g', cap', cur, h1, hb, hg, hn, hm, hc, hx⟩
  · cases h1
  · cases h1
    have hB : Blk w g e cur := hg
    refine .inr ⟨g, cap, cur.setIfInBounds i u, rfl, hb, hB.set i u, hn, hm, by simpa using hc, ?_⟩
    rw [← hx, Array.toList_setIfInBounds, List.take_set]
end

theorem elems_map' : ∀ (xs : List ByteArray), Elems 1 Str1 xs (xs.map .string)
  | [] => rfl
  | x :: xs => ⟨[.string x], _, rfl, rfl, rfl, elems_map' xs⟩

theorem pick_any (n z : Int) (hz0 : 1 ≤ z) (hz1 : z ≤ 512) (_h0 : -9223372036854775808 ≤ n) (_h1 : n ≤ 9223372036854775807) (w : World) :
    Calls Try.prog 33 #[.int .i64 n, .int .i64 z] w fun e w' => e = .returned (.int .i64 (pick n z)) ∧ w = w' := by
  have hp := pick_le n z hz0
  have b1 : n.tmod (z + 1) < z + 1 := Int.tmod_lt_of_pos n (show 0 < z + 1 by omega)
  have b2 : -(z + 1) < n.tmod (z + 1) := by
    have := Int.tmod_lt_of_pos (-n) (show 0 < z + 1 by omega)
    rw [Int.neg_tmod] at this
    omega
  have hz : ((z + 1 : Int) == 0) = false := by rw [beq_eq_false_iff_ne]; omega
  have key : (pick n z : Int) = if n.tmod (z + 1) < 0 then - n.tmod (z + 1) else n.tmod (z + 1) := by
    unfold pick; split <;> omega
  have K := Lib.hid key
  clear key hp
  by_cases hlt : n.tmod (z + 1) < 0
  all_goals
    go_enter Try.func33, Try.ntmps33
    go_wp2
    go_ret
    exact ⟨ret_int (by rw [K.out]; first | rw [if_pos hlt] | rw [if_neg (by omega)]), rfl⟩

def nulB (n : Nat) : ByteArray := ⟨Array.replicate n 0⟩
theorem nulB_size (n : Nat) : (nulB n).size = n := by simp [nulB, ByteArray.size]
theorem nulB_succ (n : Nat) : nulB n ++ ⟨#[0]⟩ = nulB (n + 1) := by
  apply ByteArray.ext
  simp [nulB, Array.replicate_succ]

set_option maxHeartbeats 400000 in
theorem zeros_any (n : Nat) (hn : n ≤ 100000) (w : World) :
    Calls Try.prog 30 #[.int .i64 n] w fun e w' => e = .returned (.string (nulB n)) ∧ w = w' := by
  go_enter Try.func30, Try.ntmps30
  go_wp2
  go_loop [3, 4] (fun s i => ∃ k : Nat, k ≤ n ∧ i = .int .i64 k ∧ s = .string (nulB k)) (fun _ i => n - (intOf i).toNat)
  case atStart => exact ⟨0, by omega, rfl, rfl⟩
  case round =>
    obtain ⟨k, hk, rfl, rfl⟩ := hrel
    by_cases hlt : k < n
    · have HS := Lib.hid (nulB_succ k)
      have hz := nulB_size k
      generalize nulB k = T at *
      go_wp2
      go_round
      case rel => exact ⟨k + 1, by omega, by go_num, by rw [HS.out]⟩
      case measure => simp [intOf]; omega
    · obtain rfl : k = n := by omega
      go_wp2
      go_ret
      exact ⟨rfl, rfl⟩

theorem strs_of_own {w : World} {base : Nat} {v : Value} {xs : List ByteArray} (h : w.ownsRow base 9 1 v xs.length (xs.map .string)) : Strs w v xs :=
  Ow.sl (e := 9) (base := base) ⟨_, h, elems_map' xs⟩

theorem strs_cells' {w : World} {A : Option Addr} {n c : Nat} {xs : List ByteArray} (h : Strs w (.slice A n c) xs) : CellsAt w A (xs.map .string) := by
  obtain ⟨A', c', vs, e, h1, h2, h3, h4⟩ := h
  cases e
  have : ∀ {xs : List ByteArray} {vs : List Value}, Elems 1 Str1 xs vs → vs = xs.map .string := by
    intro xs
    induction xs with
    | nil => intro vs h; exact h
    | cons x xs ih =>
      rintro vs ⟨us, vs', rfl, _, rfl, ht⟩
      rw [ih ht]; rfl
  rw [← this h4]; exact h3
/-- A row of strings that the call owns. -/
def OwS (w : World) (base : Nat) (v : Value) (l : List ByteArray) : Prop := w.ownsRow base 9 1 v l.length (l.map .string)
section
variable {w w' : World} {base : Nat} {v : Value} {l : List ByteArray}
theorem OwS.strs (h : OwS w base v l) : Strs w v l := strs_of_own h
theorem OwS.keep (h : OwS w base v l) (hb : Below w.heap.size w w') : OwS w' base v l := (own_stab (M := fun _ => False) h (fun _ _ h => h)) _ (Agree.of_below hb _)
theorem OwS.far (h : OwS w base v l) {p : Addr} (hp : p.block < base) (u : Value) : OwS (w.setCell p u) base v l :=
  (own_stab (M := fun g => g = p.block) h (fun g hg e => by have := (World.ownsRow.lt h g hg); omega)) _ (Agree.setCell (M := fun g => g = p.block) w rfl u)
theorem OwS.drewN (h : OwS w base v l) (n : Nat) : OwS (w.drewN n) base v l := h
theorem OwS.drew (h : OwS w base v l) : OwS w.drew base v l := h
theorem OwS.alloc (h : OwS w base v l) (o : Obj) : OwS (w.alloc o) base v l := World.ownsRow.alloc h o
theorem OwS.rebase (h : OwS w base v l) {b : Nat} (hb : b ≤ base) : OwS w b v l := by
  refine ⟨h.1, ?_⟩
  rcases h.2 with h1 | ⟨g, cap, cur, h1, h2, h3⟩
  · exact .inl h1
  · exact .inr ⟨g, cap, cur, h1, by omega, h3⟩
end
def CurPost (W : World) (d : Dk) (e : Ending) (w' : World) : Prop := ∃ v, e = .returned v ∧ OwS w' W.heap.size v (cur d) ∧ Below W.heap.size W w'
end Go.Proofs.Ytpihapkclnhklaa
