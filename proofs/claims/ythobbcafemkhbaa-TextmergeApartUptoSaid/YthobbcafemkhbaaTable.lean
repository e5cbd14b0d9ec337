/- linediff.table: the table of the least sizes. -/
import Derived.Test.YthobbcafemkhbaaRead
import Derived.Test.YthobbcafemkhbaaMem
import Derived.Test.YthobbcafemkhbaaPlain
import Derived.Deep.DeepCutAuto
import Derived.Deep.CutBlock
import Derived.StillTailTactics
import Derived.BigRegion
namespace Go.Proofs.Ythobbcafemkhbaa
open Go.RowKit

theorem Try.info_i32 : (Try.prog.info? 21).map (fun i => (i.zero, i.size, i.bytes)) = some (some (.int .i32 0), 1, 4) := by kernel_rfl

/-- The cells of the table, filled from row i, column j on. -/
def DP (p q : List ByteArray) (cs : Array Value) (i j : Nat) : Prop :=
  cs.size = (p.length + 1) * (q.length + 1) ∧ ∀ a b, a ≤ p.length → b ≤ q.length → (i < a ∨ i = a ∧ j ≤ b) → cs[a * (q.length + 1) + b]? = some (.int .i32 (dist (p.drop a) (q.drop b)))

theorem DP.set {p q : List ByteArray} {cs : Array Value} {i j : Nat} (h : DP p q cs i (j + 1)) (hi : i ≤ p.length) (hj : j ≤ q.length) (n : Nat) (hn : n = i * (q.length + 1) + j) {z : Int} (hz : z = dist (p.drop i) (q.drop j)) :
    DP p q (cs.setIfInBounds n (.int .i32 z)) i j := by
  subst hn hz
  refine ⟨by rw [Array.size_setIfInBounds]; exact h.1, fun a b ha hb hab => ?_⟩
  have hlt : i * (q.length + 1) + j < cs.size := by rw [h.1]; exact idx_lt (by omega) hi
  by_cases e : i * (q.length + 1) + j = a * (q.length + 1) + b
  · obtain ⟨rfl, rfl⟩ := idx_inj (by omega) (by omega) e
    rw [Array.getElem?_setIfInBounds_self_of_lt hlt]
  · rw [Array.getElem?_setIfInBounds_ne e]
    refine h.2 a b ha hb ?_
    rcases hab with h1 | ⟨h1, h2⟩
    · exact .inl h1
    · refine .inr ⟨h1, ?_⟩
      subst h1
      have : j ≠ b := fun hjb => e (by rw [hjb])
      omega
theorem DP.row {p q : List ByteArray} {cs : Array Value} {i : Nat} (h : DP p q cs (i + 1) 0) : DP p q cs i (q.length + 1) :=
  ⟨h.1, fun a b ha hb hab => h.2 a b ha hb (by omega)⟩
theorem DP.start (p q : List ByteArray) {cs : Array Value} (h : cs.size = (p.length + 1) * (q.length + 1)) : DP p q cs p.length (q.length + 1) :=
  ⟨h, fun a b ha hb hab => by omega⟩

theorem DP.step {p q : List ByteArray} {w wr : World} {g : Nat} {cs : Array Value} {i j n : Nat} (hblk : Blk wr g 21 cs) (hbel : Below w.heap.size w wr) (hg : w.heap.size ≤ g) (h : DP p q cs i (j + 1)) (hi : i ≤ p.length) (hj : j ≤ q.length)
    (hn : n = i * (q.length + 1) + j) {z : Int} (hz : z = dist (p.drop i) (q.drop j)) :
    ∃ cs', Blk (wr.setCell ⟨g, n, none⟩ (.int .i32 z)) g 21 cs' ∧ Below w.heap.size w (wr.setCell ⟨g, n, none⟩ (.int .i32 z)) ∧
      ((∃ j' : Nat, j' ≤ q.length ∧ Value.int .i64 ((j : Int) - 1) = .int .i64 j' ∧ DP p q cs' i (j' + 1)) ∨ (Value.int .i64 ((j : Int) - 1) = .int .i64 (-1) ∧ DP p q cs' i 0)) := by
  refine ⟨_, hblk.set _ _, hbel.setCell hg _, ?_⟩
  have h' := h.set hi hj n hn hz
  rcases j with _ | j
  · exact .inr ⟨rfl, h'⟩
  · exact .inl ⟨j, by omega, by congr 1; omega, h'⟩

set_option maxRecDepth 100000 in
set_option maxHeartbeats 1000000 in
theorem table_any (w : World) (va vb : Value) (xs ys : List ByteArray) (ha : Strs w va xs) (hb : Strs w vb ys) (hx : xs.length ≤ 1000) (hy : ys.length ≤ 1000) :
    Calls Try.prog 84 #[va, vb] w fun e w' => ∃ g n cs, e = .returned (.slice (some ⟨g, 0, none⟩) n n) ∧ n = (xs.length + 1) * (ys.length + 1) ∧ w.heap.size ≤ g ∧ Blk w' g 21 cs ∧ DP xs ys cs 0 0 ∧ Below w.heap.size w w' := by
  obtain ⟨A, c, rfl, hc, hm⟩ := ha.form
  obtain ⟨B, d, rfl, hc', hm'⟩ := hb.form
  obtain ⟨N, hN⟩ : ∃ N, N = (xs.length + 1) * (ys.length + 1) := ⟨_, rfl⟩
  have hN1 : N ≤ 1002001 := by rw [hN]; exact Nat.mul_le_mul (show xs.length + 1 ≤ 1001 by omega) (show ys.length + 1 ≤ 1001 by omega)
  have hNi : ((xs.length : Int) + 1) * ((ys.length : Int) + 1) = (N : Int) := by rw [hN]; simp
  have HN := Lib.hid hN
  clear hN
  obtain ⟨i0, hi, hz0, hz1, hz2⟩ := info_parts Try.info_i32
  go_enter Try.func84, Try.ntmps84
  go_wp2_with (at_make; refine wpList_make_blk _ rfl _ _ _ rfl 21 i0 (.int .i32 0) Try.underlying111 hi hz0 hz1 rfl .i64 .i64 _ _ N rfl rfl (by omega) (by omega) (by rw [hz2]; omega) (by omega) ?_; intro g w1 hg hblk hbel)
  have h0 : DP xs ys (Array.replicate N (.int .i32 0)) xs.length (ys.length + 1) := DP.start _ _ (by rw [Array.size_replicate]; exact HN.out)
  go_loopw [7] (fun i wr => ∃ cs, Blk wr g 21 cs ∧ Below w.heap.size w wr ∧ ((∃ m : Nat, m ≤ xs.length ∧ i = .int .i64 m ∧ DP xs ys cs m (ys.length + 1)) ∨ (i = .int .i64 (-1) ∧ DP xs ys cs 0 0))) (fun i _ => (intOf i + 1).toNat)
  case atStart => exact ⟨_, hblk, hbel, .inl ⟨xs.length, by omega, rfl, h0⟩⟩
  case round =>
    obtain ⟨cs, hblk, hbel', ⟨m, hm, rfl, hdp⟩ | ⟨rfl, hdp⟩⟩ := hrel
    · obtain ⟨wo, rfl⟩ : ∃ wo : World, wo = wr := ⟨_, rfl⟩
      obtain ⟨R, hR⟩ : ∃ R, R = m * (ys.length + 1) := ⟨_, rfl⟩
      have hRi : (m : Int) * ((ys.length : Int) + 1) = (R : Int) := by rw [hR]; simp
      have r1 : ∀ j, j ≤ ys.length → R + j < N := fun j hj => by rw [hR, HN.out]; exact idx_lt (by omega) hm
      have r2 : ∀ j, j ≤ ys.length → m < xs.length → R + (ys.length + 1) + j < N := fun j hj h => by
        have := idx_lt (r := ys.length + 1) (k := j) (i := m + 1) (n := xs.length) (by omega) h
        rw [Nat.add_mul, Nat.one_mul] at this
        rw [hR, HN.out]; exact this
      have HR := Lib.hid hR
      have R1 := Lib.hid r1
      have R2 := Lib.hid r2
      clear hR r1 r2
      go_wp2
      go_loopw [8] (fun k wr => ∃ cs, Blk wr g 21 cs ∧ Below w.heap.size w wr ∧ ((∃ j : Nat, j ≤ ys.length ∧ k = .int .i64 j ∧ DP xs ys cs m (j + 1)) ∨ (k = .int .i64 (-1) ∧ DP xs ys cs m 0))) (fun k _ => (intOf k + 1).toNat)
      case atStart => exact ⟨_, hblk, hbel', .inl ⟨ys.length, by omega, rfl, hdp⟩⟩
      case round =>
        clear hblk hdp hbel'
        obtain ⟨cs, hblk, hbel', ⟨j, hj, rfl, hdp⟩ | ⟨rfl, hdp⟩⟩ := hrel
        · have hsize : cs.size = N := by rw [hdp.1]; exact HN.out.symm
          have hRj := R1.out j hj
          have hfr := hblk.frozen (R + j)
          obtain ⟨u, hu⟩ : ∃ u, cs[R + j]? = some u := ⟨_, Array.getElem?_eq_getElem (by omega)⟩
          have hce := hblk.cell hu
          clear hu
          have HS := Lib.hid hsize
          clear hsize
          by_cases hmx : m = xs.length
          · have hm1 : ((m : Int) == xs.length) = true := by simp [hmx]
            have HM := Lib.hid hmx
            clear hmx
            go_wp2
            go_roundw
            case rel => exact DP.step hblk hbel' hg hdp hm hj (by rw [HR.out]) (by rw [HM.out, dist_end_l]; omega)
            case measure => simp [intOf] <;> omega
          · have hm1 : ((m : Int) == xs.length) = false := by simp; omega
            have hmx' : m < xs.length := by omega
            clear hmx
            by_cases hjy : j = ys.length
            · have hj1 : ((j : Int) == ys.length) = true := by simp [hjy]
              have HM := Lib.hid hjy
              clear hjy
              go_wp2
              go_roundw
              case rel => exact DP.step hblk hbel' hg hdp hm hj (by rw [HR.out]) (by rw [HM.out, dist_end_r]; omega)
              case measure => simp [intOf] <;> omega
            · have hj1 : ((j : Int) == ys.length) = false := by simp; omega
              have hjy' : j < ys.length := by omega
              clear hjy
              obtain ⟨b, off, rfl, ha1⟩ := (ha.keep (Keeps.of_below hbel')).get hmx'
              obtain ⟨b', off', rfl, hb1⟩ := (hb.keep (Keeps.of_below hbel')).get hjy'
              have hR2 := R2.out j hj hmx'
              have hR3 := R2.out (j + 1) (by omega) hmx'
              have d1 := dist_drop_le xs ys (m + 1) (j + 1)
              have d2 := dist_drop_le xs ys (m + 1) j
              have d3 := dist_drop_le xs ys m (j + 1)
              have c1 := hblk.cell (hdp.2 (m + 1) (j + 1) (by omega) (by omega) (.inl (by omega)))
              have c2 := hblk.cell (hdp.2 (m + 1) j (by omega) (by omega) (.inl (by omega)))
              have c3 := hblk.cell (hdp.2 m (j + 1) (by omega) (by omega) (.inr ⟨rfl, by omega⟩))
              rw [Nat.add_mul, Nat.one_mul, ← HR.out] at c1 c2
              rw [← HR.out, ← Nat.add_assoc] at c3
              rw [show R + (ys.length + 1) + (j + 1) = R + j + (ys.length + 1) + 1 by omega] at c1
              rw [show R + (ys.length + 1) + j = R + j + (ys.length + 1) by omega] at c2
              by_cases he : xs[m] = ys[j]
              · have hbe := str_eq he
                have HD := Lib.hid (dist_eq hmx' hjy' he)
                clear he d2 d3 c2 c3
                go_wp2
                go_quiet (fail)
                go_wp2
                go_roundw
                case rel => exact DP.step (hblk.drewN _) (below_drewN' hbel' _) hg hdp hm hj (by rw [HR.out]) (by rw [HD.out])
                case measure => simp [intOf] <;> omega
              · have hbe := str_ne he
                have HD := Lib.hid (dist_ne hmx' hjy' he)
                clear he d1 c1
                generalize hA2 : dist (xs.drop (m + 1)) (ys.drop j) = D2 at *
                generalize hA3 : dist (xs.drop m) (ys.drop (j + 1)) = D3 at *
                clear hA2 hA3
                go_wp2
                go_quiet (fail)
                go_wp2
                go_region
                go_wp2
                go_roundw
                case rel => exact DP.step (hblk.drewN _) (below_drewN' hbel' _) hg hdp hm hj (by rw [HR.out]) (by rw [HD.out]; split <;> omega)
                case measure => simp [intOf] <;> omega
        · go_wp2
          go_roundw
          case rel =>
            rcases m with _ | m
            · exact ⟨_, hblk, hbel', .inr ⟨rfl, hdp⟩⟩
            · exact ⟨_, hblk, hbel', .inl ⟨m, by omega, by congr 1; omega, hdp.row⟩⟩
          case measure => simp [intOf] <;> omega
    · go_wp2
      go_ret
      exact ⟨g, N, cs, rfl, HN.out, hg, hblk, hdp, hbel'⟩
end Go.Proofs.Ythobbcafemkhbaa
