/- disk.New. -/
import Derived.Test.YtpihapkclnhklaaDkRef7
import Derived.Test.YtpihapkclnhklaaShelf
namespace Go.Proofs.Ytpihapkclnhklaa
open Go.RowKit

theorem repeat_nul (c : Nat) : (⟨(Lib.repeatL (⟨#[0]⟩ : ByteArray).data.toList c).toArray⟩ : ByteArray) = nulB c := by
  apply ByteArray.ext
  have : ∀ c, Lib.repeatL (⟨#[0]⟩ : ByteArray).data.toList c = List.replicate c 0 := by
    intro c
    induction c with
    | zero => rfl
    | succ c ih => rw [Lib.repeatL, ih, List.replicate_succ]; rfl
  rw [this]
  simp [nulB]

theorem repeat_any (c : Nat) (h : c ≤ 1000) (w : World) : Calls Try.prog 29 #[.string ⟨#[0]⟩, .int .i64 c] w fun e w' => e = .returned (.string (nulB c)) ∧ Below w.heap.size w w' := by
  have := strings_Repeat ⟨#[0]⟩ c w (by omega) (by rw [show (⟨#[0]⟩ : ByteArray).size = 1 from rfl]; omega)
  rw [repeat_nul] at this
  exact this

set_option maxRecDepth 100000 in
set_option maxHeartbeats 1000000 in
theorem new_bad (W : World) (n z : Int) (hb : ¬ (1 ≤ n ∧ n ≤ 1000 ∧ 1 ≤ z ∧ z ≤ 512)) :
    Calls Try.prog 12 #[.int .i64 n, .int .i64 z] W (DkPost W noDisk 2) := by
  have hbr := Blk.new W #[.int .i64 0, .slice none 0 0, .slice none 0 0, .int .i64 0] 26
  have hd1 := (Below.refl W.heap.size W).alloc (Nat.le_refl _) (.cells #[.int .i64 0, .slice none 0 0, .slice none 0 0, .int .i64 0] 26)
  have hi := inRange_any n z
  rw [show inRangeB n z = false from decide_eq_false hb] at hi
  have HI := Lib.hid hi
  clear hb hi
  go_enter Try.func12, Try.ntmps12
  go_upto_region 1 with (fail)
  generalize W.alloc (.cells #[.int .i64 0, .slice none 0 0, .slice none 0 0, .int .i64 0] 26) = w2 at *
  have hx := hbr.set4 (.int .i64 0) (.slice none 0 0) (.slice none 0 0) (.int .i64 0)
  have hdx := set4_below hd1 (Nat.le_refl W.heap.size) (.int .i64 0) (.slice none 0 0) (.slice none 0 0) (.int .i64 0)
  obtain ⟨t0, t1, t2, t3, r0, r1, r2, r3⟩ := box8 hbr (Below.refl _ _)
  go_wp2_with (go_at_call 28; refine (HI.out _).mono ?_; rintro e w' ⟨rfl, rfl⟩)
  clear r0 r1 r2 r3 t0 t1 t2 t3
  generalize (((w2.setCell ⟨W.heap.size, 0, none⟩ (.int .i64 0)).setCell ⟨W.heap.size, 1, none⟩ (.slice none 0 0)).setCell ⟨W.heap.size, 2, none⟩ (.slice none 0 0)).setCell ⟨W.heap.size, 3, none⟩ (.int .i64 0) = wx at *
  obtain ⟨k0, k1, k2, k3⟩ := box4 hx (Below.refl _ _)
  exact bodyPost_ret (v := .tuple #[.agg #[.int .i64 0, .slice none 0 0, .slice none 0 0, .int .i64 0], .int .i64 2]) (by simp [results, Try.results12, go_sem, k0, k1, k2, k3]) rfl (DkPost.mk rfl rfl rfl rfl (Dsk.nodisk _) hdx)

theorem fill_step {n k : Nat} (hk : k < n) (z e : Value) : (List.replicate k z ++ List.replicate (n - k) e).set k z = List.replicate (k + 1) z ++ List.replicate (n - (k + 1)) e := by
  rw [List.set_append_right _ _ (by simp)]
  rw [show n - k = (n - (k + 1)) + 1 by omega, List.replicate_succ, List.replicate_succ', List.append_assoc]
  simp

set_option maxRecDepth 100000 in
set_option maxHeartbeats 4000000 in
theorem new_ok (W : World) (n z : Nat) (hn1 : 1 ≤ n) (hn2 : n ≤ 40) (hz1 : 1 ≤ z) (hz2 : z ≤ 40) :
    Calls Try.prog 12 #[.int .i64 n, .int .i64 z] W (DkPost W (newD n z) 0) := by
  obtain ⟨i0, hi, hy0, hy1, hy2⟩ := info_parts Try.info_str
  have hbr := Blk.new W #[.int .i64 0, .slice none 0 0, .slice none 0 0, .int .i64 0] 26
  have hd1 := (Below.refl W.heap.size W).alloc (Nat.le_refl _) (.cells #[.int .i64 0, .slice none 0 0, .slice none 0 0, .int .i64 0] 26)
  have hr := inRange_any n z
  rw [show inRangeB n z = true from decide_eq_true (by omega)] at hr
  have HI := Lib.hid hr
  have HR := Lib.hid (repeat_any z (by omega))
  clear hr
  have hsz : (W.alloc (.cells #[.int .i64 0, .slice none 0 0, .slice none 0 0, .int .i64 0] 26)).heap.size = W.heap.size + 1 := by simp
  have HSZ := Lib.hid hsz
  clear hsz
  go_enter Try.func12, Try.ntmps12
  go_upto_region 1 with (fail)
  generalize W.alloc (.cells #[.int .i64 0, .slice none 0 0, .slice none 0 0, .int .i64 0] 26) = w1 at *
  go_wp2_with (first
    | (go_at_call 28; refine (HI.out _).mono ?_; rintro e w' ⟨rfl, rfl⟩)
    | (at_make; refine wpList_make_blk _ rfl _ _ _ rfl 9 i0 (.string ByteArray.empty) Try.underlying23 hi hy0 hy1 rfl .i64 .i64 _ _ n rfl rfl (by omega) (by omega) (by rw [hy2]; omega) (by omega) ?_; intro g w2 hg hblk hbel))
  have hgW : W.heap.size + 1 ≤ g := by have := HSZ.out; omega
  have hbr2 := hbr.keep hbel
  have hd2 := hd1.trans (hbel.mono hd1.size)
  refine (HR.out w2).mono ?_
  rintro e w3 ⟨rfl, hb3⟩
  have hbr3 := hbr2.keep hb3
  have hblk3 := hblk.keep hb3
  have hd3 := hd2.trans (hb3.mono hd2.size)
  clear hbr hd1 hbr2 hd2 hblk hb3 hbel hg
  have hown : w3.ownsRow (W.heap.size + 1) 9 1 (.slice (some ⟨g, 0, none⟩) n n) n (List.replicate 0 (.string (nulB z)) ++ List.replicate (n - 0) (.string ByteArray.empty)) := by
    have := hblk3.own hgW (cap := n) (sz := 1) (n := n) (by simp) (by unfold maxLen; omega) (Nat.le_refl _)
    simpa using this
  clear hblk3
  go_wp2
  go_loopw [20] (fun t wr => ∃ k : Nat, k ≤ n ∧ t = .int .i64 k ∧ wr.ownsRow (W.heap.size + 1) 9 1 (.slice (some ⟨g, 0, none⟩) n n) n (List.replicate k (.string (nulB z)) ++ List.replicate (n - k) (.string ByteArray.empty)) ∧
    Blk wr W.heap.size 26 #[.int .i64 0, .slice none 0 0, .slice none 0 0, .int .i64 0] ∧ Below W.heap.size W wr) (fun t _ => n - (intOf t).toNat)
  case atStart => exact ⟨0, by omega, rfl, hown, hbr3, hd3⟩
  case round =>
    clear hown hbr3 hd3
    obtain ⟨k, hk, rfl, hown, hbr, hd⟩ := hrel
    by_cases hlt : k < n
    · obtain ⟨o1, o2⟩ := own_at hown (i := k) (u := .string ByteArray.empty) (by rw [List.getElem?_append_right (by simp), List.length_replicate, Nat.sub_self, List.getElem?_replicate, if_pos (by omega)])
      have HF := Lib.hid (fill_step hlt (.string (nulB z)) (.string ByteArray.empty))
      generalize hzs : nulB z = zs at *
      have HZS := Lib.hid hzs
      clear hzs
      go_wp2
      go_roundw
      case rel => exact ⟨k + 1, by omega, by go_num, by rw [← HF.out]; exact own_set hown _, hbr.far (p := ⟨g, k, none⟩) (by simp; omega) _, hd.setCell (p := ⟨g, k, none⟩) (show W.heap.size ≤ g by omega) _⟩
      case measure => simp [intOf]; omega
    · obtain rfl : k = n := by omega
      have hOS : OwS wr (W.heap.size + 1) (.slice (some ⟨g, 0, none⟩) k k) (List.replicate k (nulB z)) := by
        unfold OwS
        rw [List.length_replicate]
        simpa using hown
      have hx := hbr.set4 (.int .i64 z) (.slice (some ⟨g, 0, none⟩) k k) (.slice none 0 0) (.int .i64 (-1))
      have hdx := set4_below hd (Nat.le_refl _) (.int .i64 z) (.slice (some ⟨g, 0, none⟩) k k) (.slice none 0 0) (.int .i64 (-1))
      have hvx := (((hOS.far (p := ⟨W.heap.size, 0, none⟩) (by simp) (.int .i64 z)).far (p := ⟨W.heap.size, 1, none⟩) (by simp) (.slice (some ⟨g, 0, none⟩) k k)).far (p := ⟨W.heap.size, 2, none⟩) (by simp) (.slice none 0 0)).far (p := ⟨W.heap.size, 3, none⟩) (by simp) (.int .i64 (-1))
      obtain ⟨t0, t1, t2, t3, r0, r1, r2, r3⟩ := box8 hbr (Below.refl _ _)
      go_wp2
      clear r0 r1 r2 r3 t0 t1 t2 t3
      generalize (((wr.setCell ⟨W.heap.size, 0, none⟩ (.int .i64 z)).setCell ⟨W.heap.size, 1, none⟩ (.slice (some ⟨g, 0, none⟩) k k)).setCell ⟨W.heap.size, 2, none⟩ (.slice none 0 0)).setCell ⟨W.heap.size, 3, none⟩ (.int .i64 (-1)) = wx at *
      obtain ⟨k0, k1, k2, k3⟩ := box4 hx (Below.refl _ _)
      exact bodyPost_ret (v := .tuple #[.agg #[.int .i64 z, .slice (some ⟨g, 0, none⟩) k k, .slice none 0 0, .int .i64 (-1)], .int .i64 0]) (by simp [results, Try.results12, go_sem, k0, k1, k2, k3]) rfl (DkPost.mk (d' := newD k z) rfl rfl rfl rfl ⟨hvx.strs, Sl.nil _ _ _, by simp [newD], by simp [newD]; omega, by simp [newD], by simp [newD]⟩ hdx)
end Go.Proofs.Ytpihapkclnhklaa
