/- cordwoodref05.New. -/
import Derived.Test.YtpihapkclnhklaaDkRef4
namespace Go.Proofs.Ytpihapkclnhklaa
open Go.RowKit

def newD (n z : Nat) : Dk := ⟨z, List.replicate n (nulB z), [], -1⟩

set_option maxRecDepth 100000 in
set_option maxHeartbeats 1000000 in
theorem rnew_bad (W : World) (n z : Int) (hb : ¬ (1 ≤ n ∧ n ≤ 1000 ∧ 1 ≤ z ∧ z ≤ 512)) :
    Calls Try.prog 13 #[.int .i64 n, .int .i64 z] W (DkPost W noDisk 2) := by
  have hbr := Blk.new W #[.int .i64 0, .slice none 0 0, .slice none 0 0, .int .i64 0] 26
  have hd1 := (Below.refl W.heap.size W).alloc (Nat.le_refl _) (.cells #[.int .i64 0, .slice none 0 0, .slice none 0 0, .int .i64 0] 26)
  have hcase : n < 1 ∨ (¬ n < 1 ∧ 1000 < n) ∨ (¬ n < 1 ∧ ¬ 1000 < n ∧ z < 1) ∨ (¬ n < 1 ∧ ¬ 1000 < n ∧ ¬ z < 1 ∧ 512 < z) := by omega
  clear hb
  rcases hcase with h1 | ⟨h1, h2⟩ | ⟨h1, h2, h3⟩ | ⟨h1, h2, h3, h4⟩
  all_goals
    go_enter Try.func13, Try.ntmps13
    go_upto_region 1 with (fail)
    generalize W.alloc (.cells #[.int .i64 0, .slice none 0 0, .slice none 0 0, .int .i64 0] 26) = w2 at *
    have hx := hbr.set4 (.int .i64 0) (.slice none 0 0) (.slice none 0 0) (.int .i64 0)
    have hdx := set4_below hd1 (Nat.le_refl W.heap.size) (.int .i64 0) (.slice none 0 0) (.slice none 0 0) (.int .i64 0)
    obtain ⟨t0, t1, t2, t3, r0, r1, r2, r3⟩ := box8 hbr (Below.refl _ _)
    go_wp2
    clear r0 r1 r2 r3 t0 t1 t2 t3
    generalize (((w2.setCell ⟨W.heap.size, 0, none⟩ (.int .i64 0)).setCell ⟨W.heap.size, 1, none⟩ (.slice none 0 0)).setCell ⟨W.heap.size, 2, none⟩ (.slice none 0 0)).setCell ⟨W.heap.size, 3, none⟩ (.int .i64 0) = wx at *
    obtain ⟨k0, k1, k2, k3⟩ := box4 hx (Below.refl _ _)
    exact bodyPost_ret (v := .tuple #[.agg #[.int .i64 0, .slice none 0 0, .slice none 0 0, .int .i64 0], .int .i64 2]) (by simp [results, Try.results13, go_sem, k0, k1, k2, k3]) rfl (DkPost.mk rfl rfl rfl rfl (Dsk.nodisk _) hdx)

/-- What holds between two rounds of New. -/
def NewRel (W : World) (z k : Nat) (wr : World) : Prop :=
  ∃ v, wr.ownsRow (W.heap.size + 2) 9 1 v k ((List.replicate k (nulB z)).map .string) ∧ Blk wr W.heap.size 26 #[.int .i64 0, .slice none 0 0, .slice none 0 0, .int .i64 0] ∧
    Blk wr (W.heap.size + 1) 26 #[.int .i64 z, v, .slice none 0 0, .int .i64 (-1)] ∧ Below W.heap.size W wr
theorem rep_succ (z k : Nat) : (List.replicate k (nulB z)).map Value.string ++ [.string (nulB z)] = (List.replicate (k + 1) (nulB z)).map Value.string := by
  rw [List.replicate_succ', List.map_append]; rfl

set_option maxRecDepth 100000 in
set_option maxHeartbeats 4000000 in
theorem rnew_ok (W : World) (n z : Nat) (hn1 : 1 ≤ n) (hn2 : n ≤ 40) (hz1 : 1 ≤ z) (hz2 : z ≤ 40) :
    Calls Try.prog 13 #[.int .i64 n, .int .i64 z] W (DkPost W (newD n z) 0) := by
  obtain ⟨i0, hi, hy0, hy1, hy2⟩ := info_parts Try.info_str
  have hbr0 := Blk.new W #[.int .i64 0, .slice none 0 0, .slice none 0 0, .int .i64 0] 26
  have hbr := hbr0.alloc (.cells #[.int .i64 z, .slice none 0 0, .slice none 0 0, .int .i64 (-1)] 26)
  have hbk := Blk.new (W.alloc (.cells #[.int .i64 0, .slice none 0 0, .slice none 0 0, .int .i64 0] 26)) #[.int .i64 z, .slice none 0 0, .slice none 0 0, .int .i64 (-1)] 26
  rw [World.size_alloc] at hbk
  have hd1 := ((Below.refl W.heap.size W).alloc (Nat.le_refl _) (.cells #[.int .i64 0, .slice none 0 0, .slice none 0 0, .int .i64 0] 26)).alloc (by simp) (.cells #[.int .i64 z, .slice none 0 0, .slice none 0 0, .int .i64 (-1)] 26)
  have hR : NewRel W z 0 ((W.alloc (.cells #[.int .i64 0, .slice none 0 0, .slice none 0 0, .int .i64 0] 26)).alloc (.cells #[.int .i64 z, .slice none 0 0, .slice none 0 0, .int .i64 (-1)] 26)) := ⟨_, World.ownsRow_nil _ _ _ _, hbr, hbk, hd1⟩
  have hz : ∀ (w : World), Calls Try.prog 30 #[.int .i64 z] w fun e w' => e = .returned (.string (nulB z)) ∧ w = w' := zeros_any z (by omega)
  have HZ := Lib.hid hz
  have hnz := nulB_size z
  have HNZ := Lib.hid hnz
  clear hbr0 hbr hbk hd1 hz hnz
  go_enter Try.func13, Try.ntmps13
  go_wp2
  go_loopw [7] (fun t wr => ∃ k : Nat, k ≤ n ∧ t = .int .i64 k ∧ NewRel W z k wr) (fun t _ => n - (intOf t).toNat)
  case atStart => exact ⟨0, by omega, rfl, hR⟩
  case round =>
    clear hR
    obtain ⟨k, hk, rfl, v, hown, hbr, hbk, hd⟩ := hrel
    have hB := hbk.lt
    have q0 := hbk.cell (j := 0) rfl
    have q1 := hbk.cell (j := 1) rfl
    have q2 := hbk.cell (j := 2) rfl
    have q3 := hbk.cell (j := 3) rfl
    have s1 := hbk.frozen 1
    by_cases hlt : k < n
    · have HS := Lib.hid (rep_succ z k)
      generalize hzs : nulB z = zs at *
      have HZS := Lib.hid hzs
      clear hzs
      obtain ⟨A, c, rfl⟩ := own_form hown
      go_wp2
      go_region_law (first
        | (refine step_append_any _ rfl _ _ _ rfl (W.heap.size + 2) 9 i0 _ 1 16 Try.underlying23 hi hy0 hy1 hy2 rfl (by omega) (.slice A k c) k _ rfl (World.ownsRow.drew (World.ownsRow.alloc hown _)) _ 1 1 [.string zs] rfl rfl (CellsAt.of_new _ _ _ _) (by simp [Value.oneCell']) (by omega) (by omega) (by simp; omega) ?_; intro v1 w2 hown1 hgr hat; obtain ⟨A', c', rfl⟩ := own_form hown1; have hbk2 := Blk.grown (Blk.drew (Blk.alloc hbk (.cells #[.string zs] 9))) hgr (own_ne_type hown hbk (by decide)).symm; have p1 := hbk2.cell (j := 1) rfl; have f1 := hbk2.frozen 1)
        | (go_simp; go_at_call 30; refine (HZ.out _).mono ?_; rintro e w' ⟨rfl, rfl⟩))
      all_goals
        have hbr2 := Blk.grown (Blk.drew (Blk.alloc hbr (.cells #[.string zs] 9))) hgr (own_ne_type hown hbr (by decide)).symm
        have hd2 := (below_drew1 (hd.alloc hd.size (.cells #[.string zs] 9))).grown hgr (by have := hd.size; simp; omega) (fun g' h => by have := (hown.lt g' h); omega)
        have hbr3 := hbr2.far (p := ⟨W.heap.size + 1, 1, none⟩) (by simp) (.slice A' (k + 1) c')
        have hbk3 := hbk2.set 1 (.slice A' (k + 1) c')
        have hd3 := hd2.setCell (p := ⟨W.heap.size + 1, 1, none⟩) (show W.heap.size ≤ W.heap.size + 1 by omega) (.slice A' (k + 1) c')
        have hown3 := (own_stab (M := fun b => b = W.heap.size + 1) hown1 (fun b hb e => by have := hown1.lt b hb; omega)) _ (Agree.set1 w2 (W.heap.size + 1) 1 (.slice A' (k + 1) c'))
        clear q0 q1 q2 q3 s1 p1 f1 hbr hbk hd hown hbr2 hbk2 hd2 hgr hat
        go_wp2
        go_roundw
        case rel => exact ⟨k + 1, by omega, by go_num, _, by rw [HZS.out, ← HS.out]; exact hown3, hbr3, hbk3, hd3⟩
        case measure => simp [intOf]; omega
    · obtain rfl : k = n := by omega
      obtain ⟨A, c, rfl⟩ := own_form hown
      have hbl := hbr.lt
      have hOS : OwS wr (W.heap.size + 2) (.slice A k c) (List.replicate k (nulB z)) := by unfold OwS; rw [List.length_replicate]; exact hown
      have hx := hbr.set4 (.int .i64 z) (.slice A k c) (.slice none 0 0) (.int .i64 (-1))
      have hdx := set4_below hd (Nat.le_refl _) (.int .i64 z) (.slice A k c) (.slice none 0 0) (.int .i64 (-1))
      have hvx := (((hOS.far (p := ⟨W.heap.size, 0, none⟩) (by simp) (.int .i64 z)).far (p := ⟨W.heap.size, 1, none⟩) (by simp) (.slice A k c)).far (p := ⟨W.heap.size, 2, none⟩) (by simp) (.slice none 0 0)).far (p := ⟨W.heap.size, 3, none⟩) (by simp) (.int .i64 (-1))
      obtain ⟨t0, t1, t2, t3, r0, r1, r2, r3⟩ := box8 hbr (Below.refl _ _)
      go_wp2
      clear r0 r1 r2 r3 t0 t1 t2 t3 q0 q1 q2 q3 s1
      generalize (((wr.setCell ⟨W.heap.size, 0, none⟩ (.int .i64 z)).setCell ⟨W.heap.size, 1, none⟩ (.slice A k c)).setCell ⟨W.heap.size, 2, none⟩ (.slice none 0 0)).setCell ⟨W.heap.size, 3, none⟩ (.int .i64 (-1)) = wx at *
      obtain ⟨k0, k1, k2, k3⟩ := box4 hx (Below.refl _ _)
      exact bodyPost_ret (v := .tuple #[.agg #[.int .i64 z, .slice A k c, .slice none 0 0, .int .i64 (-1)], .int .i64 0]) (by simp [results, Try.results13, go_sem, k0, k1, k2, k3]) rfl (DkPost.mk (d' := newD k z) rfl rfl rfl rfl ⟨hvx.strs, Sl.nil _ _ _, by simp [newD], by simp [newD]; omega, by simp [newD], by simp [newD]⟩ hdx)
end Go.Proofs.Ytpihapkclnhklaa
