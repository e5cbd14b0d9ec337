/- delta: what the reference's add is asked of memory; match. -/
import Derived.Test.YtiioebpmfjipeaaDeSame
import Derived.Test.YtiioebpmfjipeaaHoldTwo
namespace Go.Proofs.Ytiioebpmfjipeaa
set_option linter.unusedVariables false
set_option linter.unusedSimpArgs false
open Go.RowKit

theorem elems_flat : ∀ {xs : List DOp} {vs : List Value}, Elems 3 (fun us x => us = dC x) xs vs → vs = xs.flatMap dC
  | [], _, h => h
  | x :: xs, _, ⟨us, ws, e, _, hR, h⟩ => by rw [e, hR, elems_flat h, List.flatMap_cons]
theorem Dls.cells {w : World} {A : Option Addr} {n c : Nat} {xs : List DOp} (h : Dls w (.slice A n c) xs) : CellsAt w A (xs.flatMap dC) := by
  obtain ⟨A', c', vs, e, _, _, hc, he⟩ := h
  cases e
  rw [elems_flat he] at hc
  exact hc
theorem CellsAt.grown {w w' : World} {row : Option Nat} {g : Nat} {vs : List Value} (h : CellsAt w (some ⟨g, 0, none⟩) vs) (hg : w.grownBy w' row) (hne : some g ≠ row) : CellsAt w' (some ⟨g, 0, none⟩) vs := fun i u hu => by
  obtain ⟨b, o, e, hc⟩ := h i u hu
  cases e
  exact ⟨_, _, rfl, hg.cell hc hne⟩
theorem cpl_next {x y : List UInt8} {n : Nat} (h : n ≤ cpl x y) (h1 : n < x.length) (h2 : n < y.length) : (x[n] = y[n] → n + 1 ≤ cpl x y) ∧ (x[n] ≠ y[n] → cpl x y = n) := by
  obtain ⟨_, _, h3⟩ := (cpl_take x y n).1 h
  constructor
  · intro e
    refine (cpl_take x y (n + 1)).2 ⟨by omega, by omega, ?_⟩
    rw [List.take_succ_eq_append_getElem h1, List.take_succ_eq_append_getElem h2, h3, e]
  · intro hne
    rcases Nat.lt_or_ge n (cpl x y) with h4 | h4
    · obtain ⟨_, _, h5⟩ := (cpl_take x y (n + 1)).1 h4
      rw [List.take_succ_eq_append_getElem h1, List.take_succ_eq_append_getElem h2, h3] at h5
      have := List.append_cancel_left h5
      exact absurd (List.cons.inj this).1 hne
    · omega
theorem cpl_end {x y : List UInt8} {n : Nat} (h : n ≤ cpl x y) (h1 : x.length ≤ n ∨ y.length ≤ n) : cpl x y = n := by
  have := cpl_le_left x y
  have := cpl_le_right x y
  omega

set_option maxRecDepth 100000 in
set_option maxHeartbeats 2000000 in
theorem match_any (w : World) (a b : ByteArray) (i k : Nat) (hi : i ≤ a.size) (hk : k ≤ b.size) (ha : a.size ≤ 65536) (hb : b.size ≤ 65536) :
    Calls Try.prog 32 #[.string a, .int .i64 i, .string b, .int .i64 k] w fun e w' => e = .returned (.int .i64 (cpl (a.data.toList.drop i) (b.data.toList.drop k) : Nat)) ∧ Drawn w w' := by
  have hla : (a.data.toList.drop i).length = a.size - i := by rw [List.length_drop]; rfl
  have hlb : (b.data.toList.drop k).length = b.size - k := by rw [List.length_drop]; rfl
  have HN : Hid (∀ n, n ≤ cpl (a.data.toList.drop i) (b.data.toList.drop k) → ∀ (h1 : i + n < a.size) (h2 : k + n < b.size), (a[i + n] = b[k + n] → n + 1 ≤ cpl (a.data.toList.drop i) (b.data.toList.drop k)) ∧ (a[i + n] ≠ b[k + n] → cpl (a.data.toList.drop i) (b.data.toList.drop k) = n)) := fun n h h1 h2 => by
    have := cpl_next h (by omega) (by omega)
    simp only [List.getElem_drop] at this
    exact this
  have HE : Hid (∀ n, n ≤ cpl (a.data.toList.drop i) (b.data.toList.drop k) → (a.size ≤ i + n ∨ b.size ≤ k + n) → cpl (a.data.toList.drop i) (b.data.toList.drop k) = n) := fun n h h1 => cpl_end h (by omega)
  have h1 : Hid (cpl (a.data.toList.drop i) (b.data.toList.drop k) ≤ a.size - i ∧ cpl (a.data.toList.drop i) (b.data.toList.drop k) ≤ b.size - k) := by
    have x1 := cpl_le_left (a.data.toList.drop i) (b.data.toList.drop k)
    have x2 := cpl_le_right (a.data.toList.drop i) (b.data.toList.drop k)
    rw [hla] at x1
    rw [hlb] at x2
    exact ⟨x1, x2⟩
  clear hla hlb
  generalize cpl (a.data.toList.drop i) (b.data.toList.drop k) = r at *
  go_enter Try.func32, Try.ntmps32
  go_wp2
  go_loopw [9] (fun ni wr => ∃ n : Nat, n ≤ r ∧ ni = .int .i64 n ∧ Drawn w wr) (fun ni _ => r - (intOf ni).toNat)
  case atStart => exact ⟨0, by omega, rfl, Drawn.refl _⟩
  case round =>
    obtain ⟨n, hn, rfl, hd⟩ := hrel
    obtain ⟨x1, x2⟩ := h1.out
    have hz1 : IntKind.i64.wrap ((i : Int) + n) = (i : Int) + n := i64w (by omega) (by omega)
    have hz2 : IntKind.i64.wrap ((k : Int) + n) = (k : Int) + n := i64w (by omega) (by omega)
    by_cases g1 : i + n < a.size
    · by_cases g2 : k + n < b.size
      · obtain ⟨s1, s2⟩ := HN.out n hn g1 g2
        have q1 : (i : Int) + n < a.size := by omega
        have q2 : (k : Int) + n < b.size := by omega
        have q3 : 0 ≤ (i : Int) + n := by omega
        have q4 : 0 ≤ (k : Int) + n := by omega
        have q5 : ((i : Int) + n).toNat = i + n := by omega
        have q6 : ((k : Int) + n).toNat = k + n := by omega
        by_cases e : a[i + n] = b[k + n]
        · have hbe : (((a[i + n]).toNat : Int) == ((b[k + n]).toNat : Int)) = true := by rw [e]; simp
          have hn1 := s1 e
          clear s1 s2 HN HE e
          go_wp2
          go_quiet (fail)
          go_wp2
          go_roundw
          case rel => exact ⟨n + 1, hn1, by go_num, hd.drewN _⟩
          case measure => simp [intOf]; omega
        · have hbe : (((a[i + n]).toNat : Int) == ((b[k + n]).toNat : Int)) = false := by
            simp only [beq_eq_false_iff_ne, ne_eq]
            intro h
            exact e (UInt8.toNat_inj.1 (by omega))
          have hr := s2 e
          subst hr
          clear s1 s2 HN HE e
          go_wp2
          go_quiet (fail)
          go_wp2
          go_ret
          exact ⟨rfl, hd.drewN _⟩
      · have hr := HE.out n hn (by omega)
        subst hr
        have q1 : (i : Int) + r < a.size := by omega
        have q2 : decide ((k : Int) + r < b.size) = false := by simp; omega
        clear HN HE g2
        go_wp2
        go_quiet (fail)
        go_wp2
        go_ret
        exact ⟨rfl, hd.drewN _⟩
    · have hr := HE.out n hn (by omega)
      subst hr
      have q1 : decide ((i : Int) + r < a.size) = false := by simp; omega
      clear HN HE g1
      go_wp2
      go_quiet (fail)
      go_wp2
      go_ret
      exact ⟨rfl, hd.drewN _⟩
end Go.Proofs.Ytiioebpmfjipeaa
