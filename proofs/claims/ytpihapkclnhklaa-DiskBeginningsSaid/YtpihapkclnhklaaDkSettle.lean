/- slices.Clone of strings, disk.settled with the closure of Sync. -/
import Derived.Test.YtpihapkclnhklaaDkConcat
import Derived.Test.YtpihapkclnhklaaDkRef6
import Derived.Test.YtpihapkclnhklaaShelf
import Derived.Deep.RegionHeld3
namespace Go.Proofs.Ytpihapkclnhklaa
open Go.RowKit

theorem clone_any (W : World) (A : Option Addr) (c : Nat) (xs : List ByteArray) (h : Strs W (.slice A xs.length c) xs) (h1 : 1 ≤ xs.length) (h2 : xs.length ≤ 100000) :
    Calls Try.prog 47 #[.slice A xs.length c] W fun e w' => ∃ v, e = .returned v ∧ OwS w' W.heap.size v xs ∧ Below W.heap.size W w' := by
  obtain ⟨b, off, rfl, _⟩ := h.get (show 0 < xs.length by omega)
  refine (slices_Clone_string b off xs.length c xs W (Nat.le_refl _) (by omega) (fun j hj => ?_)).mono ?_
  · obtain ⟨b', off', e, h3⟩ := h.get hj
    cases e
    rw [h3, List.getD_eq_getElem?_getD, List.getElem?_eq_getElem hj]
    rfl
  · rintro e w' ⟨v, rfl, ho, _, hb⟩
    rw [List.take_length] at ho
    exact ⟨v, rfl, ho, hb⟩

theorem sync1_any (s t : ByteArray) (w : World) : Calls Try.prog 40 #[.string s, .string t] w fun e w' => e = .returned (.string t) ∧ w = w' := by
  go_enter Try.func40, Try.ntmps40
  go_wp2
  go_ret
  exact ⟨rfl, rfl⟩

/-- What settled answers. -/
def SettPost (W : World) (z l : Int) (L : List ByteArray) (e : Ending) (w' : World) : Prop :=
  ∃ v, e = .returned (.agg #[.int .i64 z, v, .slice none 0 0, .int .i64 l]) ∧ OwS w' (W.heap.size + 2) v L ∧ Below W.heap.size W w'

set_option maxRecDepth 100000 in
set_option maxHeartbeats 4000000 in
theorem settled_sync (W : World) (vs vp : Value) (d : Dk) (h : DskP W vs vp d) (hv : Valid d) :
    Calls Try.prog 31 #[.agg #[.int .i64 d.size, vs, vp, .int .i64 d.left], .func (.func 40) #[] #[]] W (SettPost W d.size d.left (cur d)) := by
  obtain ⟨A, c, rfl, hc, hm⟩ := h.sec.form
  obtain ⟨P, cp, rfl, hcp, hmp⟩ := h.pen.form
  have V := Lib.hid hv
  have v1 := hv.s1
  have v2 := hv.s2
  have v3 := hv.n1
  have v4 := hv.n2
  clear hv
  have hbk0 := Blk.new W #[.int .i64 d.size, .slice A d.secs.length c, .slice P d.pend.length cp, .int .i64 d.left] 26
  have hbk := hbk0.alloc (.cells #[.int .i64 0, .slice none 0 0, .slice none 0 0, .int .i64 0] 26)
  have hbr := Blk.new (W.alloc (.cells #[.int .i64 d.size, .slice A d.secs.length c, .slice P d.pend.length cp, .int .i64 d.left] 26)) #[.int .i64 0, .slice none 0 0, .slice none 0 0, .int .i64 0] 26
  rw [World.size_alloc] at hbr
  have hd1 := ((Below.refl W.heap.size W).alloc (Nat.le_refl _) (.cells #[.int .i64 d.size, .slice A d.secs.length c, .slice P d.pend.length cp, .int .i64 d.left] 26)).alloc (by simp) (.cells #[.int .i64 0, .slice none 0 0, .slice none 0 0, .int .i64 0] 26)
  have hD1 := h.keep (Keeps.of_below hd1)
  have cl := clone_any _ A c d.secs hD1.sec v3 (by omega)
  have hs2 : ((W.alloc (.cells #[.int .i64 d.size, .slice A d.secs.length c, .slice P d.pend.length cp, .int .i64 d.left] 26)).alloc (.cells #[.int .i64 0, .slice none 0 0, .slice none 0 0, .int .i64 0] 26)).heap.size = W.heap.size + 2 := by simp
  rw [hs2] at cl
  clear hbk0 hs2
  go_enter Try.func31, Try.ntmps31
  go_upto_region 1 with (fail)
  generalize (W.alloc (.cells #[.int .i64 d.size, .slice A d.secs.length c, .slice P d.pend.length cp, .int .i64 d.left] 26)).alloc (.cells #[.int .i64 0, .slice none 0 0, .slice none 0 0, .int .i64 0] 26) = w1 at *
  obtain ⟨q0, q1, q2, q3⟩ := box4 hbk (Below.refl _ _)
  have CL := Lib.hid cl
  clear cl
  go_wp2_with fail
  refine CL.out.mono ?_
  clear CL q0 q1 q2 q3
  rintro e w2 ⟨vl, rfl, hown, hb2⟩
  have hd2 := hd1.trans (hb2.mono (by omega))
  have hbk2 := hbk.below hb2 (by omega)
  have hbr2 := hbr.below hb2 (by omega)
  clear hbk hbr hd1 hb2 hD1
  obtain ⟨g, cap, rfl, hg0, hg1, hg2, hg3⟩ := own_row hown (by omega)
  have hown0 : w2.ownsRow (W.heap.size + 2) 9 1 (.slice (some ⟨g, 0, none⟩) d.secs.length cap) d.secs.length (((d.pend.take 0).foldl putW d.secs).map .string) := hown
  have hg4 := hg1
  clear hown
  obtain ⟨q0, q1, q2, q3⟩ := box4 hbk2 (Below.refl _ _)
  go_wp2
  go_loopw [14] (fun t wr => ∃ k : Nat, k ≤ d.pend.length ∧ t = .int .i64 k ∧ wr.ownsRow (W.heap.size + 2) 9 1 (.slice (some ⟨g, 0, none⟩) d.secs.length cap) d.secs.length (((d.pend.take k).foldl putW d.secs).map .string) ∧ Blk wr W.heap.size 26 #[.int .i64 d.size, .slice A d.secs.length c, .slice P d.pend.length cp, .int .i64 d.left] ∧
    Blk wr (W.heap.size + 1) 26 #[.int .i64 0, .slice none 0 0, .slice none 0 0, .int .i64 0] ∧ Below W.heap.size W wr) (fun t _ => d.pend.length - (intOf t).toNat)
  case atStart => exact ⟨0, by omega, rfl, hown0, hbk2, hbr2, hd2⟩
  case round =>
    clear hown0 hbk2 hbr2 hd2 hg1 hg4 q0 q1 q2 q3
    obtain ⟨k, hk, rfl, hown, hbk, hbr, hd⟩ := hrel
    have hpk := h.pen.keep (Keeps.of_below hd)
    have hbl := hbk.lt
    have hgl := (hown.lt g rfl).2
    obtain ⟨q0, q1, q2, q3⟩ := box4 hbk (Below.refl _ _)
    by_cases hlt : k < d.pend.length
    · obtain ⟨b, off, rfl, a1, a2, a3, a4⟩ := hpk.get hlt
      obtain ⟨e1, e2, e3⟩ := V.out.ws _ (List.getElem_mem hlt)
      obtain ⟨m, hm1⟩ := Int.eq_ofNat_of_zero_le e1
      generalize hs1 : d.pend[k].2 = s at *
      have HS := Lib.hid (cur_succ d.secs hlt hm1 hs1)
      have hml : m < d.secs.length := by omega
      rw [hm1] at a1
      have hlen : ((d.pend.take k).foldl putW d.secs).length = d.secs.length := foldl_putW_length _ _
      generalize (d.pend.take k).foldl putW d.secs = L at *
      have hmL : m < L.length := by omega
      have HL := Lib.hid hlen
      clear hlen hm1 hs1 e1 e2 e3 a3 a4
      have hbw := Blk.new wr #[.int .i64 (m : Int), .string s] 45
      have hbk3 := hbk.alloc (.cells #[.int .i64 (m : Int), .string s] 45)
      have hbr3 := hbr.alloc (.cells #[.int .i64 (m : Int), .string s] 45)
      have hown3 := World.ownsRow.alloc hown (.cells #[.int .i64 (m : Int), .string s] 45)
      have hd3 := hd.alloc hd.size (.cells #[.int .i64 (m : Int), .string s] 45)
      go_upto_region 5 with (fail)
      generalize wr.alloc (.cells #[.int .i64 (m : Int), .string s] 45) = w3 at *
      generalize wr.heap.size = gw at *
      obtain ⟨o1, o2⟩ := own_at hown3 (i := m) (u := .string (L[m]'hmL)) (by simp)
      generalize (L[m]'hmL) = old at *
      clear q0 q1 q2 q3 a1 a2 hown hbk hbr hd
      have p0 := hbw.cell (j := 0) rfl
      have p1 := hbw.cell (j := 1) rfl
      go_still_tail 13, (by kernel_rfl)
      still_call ((sync1_any old s w3.drew).mono (fun e w' h => ⟨h.1, h.2.symm⟩))
      repeat still_step
      refine wpStill_nil ?_
      change wpList _ _ _ _ _ w3.drew
      have hbk4 := hbk3.drew
      have hbr4 := hbr3.drew
      have hown4 := own_drew hown3
      have hd4 := below_drew1 hd3
      have o3 : w3.drew.cell? ⟨g, m, none⟩ = some (.string old) := o1
      have o4 : w3.drew.frozen? ⟨g, m, none⟩ = false := o2
      clear hbk3 hbr3 hown3 hd3 hbw o1 o2 p0 p1
      generalize w3.drew = w4 at *
      go_wp2
      go_roundw
      case rel =>
        refine ⟨k + 1, by omega, by go_num, ?_, ?_, ?_, ?_⟩
        · rw [HS.out, List.map_set]
          exact own_set hown4 (.string s)
        · exact hbk4.far (p := ⟨g, m, none⟩) (by simp; omega) _
        · exact hbr4.far (p := ⟨g, m, none⟩) (by simp; omega) _
        · exact hd4.setCell (p := ⟨g, m, none⟩) (show W.heap.size ≤ g by omega) _
      case measure => simp [intOf] <;> omega
    · have hk' : d.pend.take k = d.pend := List.take_of_length_le (by omega)
      have hOS : OwS wr (W.heap.size + 2) (.slice (some ⟨g, 0, none⟩) d.secs.length cap) (cur d) := by
        unfold OwS
        rw [cur_length]
        unfold cur
        rw [← hk']
        exact hown
      obtain ⟨t0, t1, t2, t3, r0, r1, r2, r3⟩ := box8 hbr (Below.refl _ _)
      obtain ⟨q0', q1', q2', q3', s0, s1, s2, s3⟩ := box8 hbk (Below.refl _ _)
      have hlt1 := hbr.lt
      have hx := ((hbr.far (p := ⟨W.heap.size, 1, none⟩) (by simp) (.slice (some ⟨g, 0, none⟩) d.secs.length cap)).far (p := ⟨W.heap.size, 2, none⟩) (by simp) (.slice none 0 0)).set4 (.int .i64 d.size) (.slice (some ⟨g, 0, none⟩) d.secs.length cap) (.slice none 0 0) (.int .i64 d.left)
      have hdx := set4_below ((hd.setCell (p := ⟨W.heap.size, 1, none⟩) (Nat.le_refl _) (.slice (some ⟨g, 0, none⟩) d.secs.length cap)).setCell (p := ⟨W.heap.size, 2, none⟩) (Nat.le_refl _) (.slice none 0 0)) (show W.heap.size ≤ W.heap.size + 1 by omega) (.int .i64 d.size) (.slice (some ⟨g, 0, none⟩) d.secs.length cap) (.slice none 0 0) (.int .i64 d.left)
      have hvx := own_far4 ((hOS.far (p := ⟨W.heap.size, 1, none⟩) (by simp) (.slice (some ⟨g, 0, none⟩) d.secs.length cap)).far (p := ⟨W.heap.size, 2, none⟩) (by simp) (.slice none 0 0)) (show g ≠ W.heap.size + 1 by omega) (.int .i64 d.size) (.slice (some ⟨g, 0, none⟩) d.secs.length cap) (.slice none 0 0) (.int .i64 d.left)
      clear hk' hown hOS
      go_wp2
      clear r0 r1 r2 r3 t0 t1 t2 t3 q0 q1 q2 q3 q0' q1' q2' q3' s0 s1 s2 s3
      generalize (((((wr.setCell ⟨W.heap.size, 1, none⟩ (.slice (some ⟨g, 0, none⟩) d.secs.length cap)).setCell ⟨W.heap.size, 2, none⟩ (.slice none 0 0)).setCell ⟨W.heap.size + 1, 0, none⟩ (.int .i64 d.size)).setCell ⟨W.heap.size + 1, 1, none⟩ (.slice (some ⟨g, 0, none⟩) d.secs.length cap)).setCell ⟨W.heap.size + 1, 2, none⟩ (.slice none 0 0)).setCell ⟨W.heap.size + 1, 3, none⟩ (.int .i64 d.left) = wx at *
      obtain ⟨k0, k1, k2, k3⟩ := box4 hx (Below.refl _ _)
      exact bodyPost_ret (v := .agg #[.int .i64 d.size, .slice (some ⟨g, 0, none⟩) d.secs.length cap, .slice none 0 0, .int .i64 d.left]) (by simp [results, Try.results31, go_sem, k0, k1, k2, k3]) rfl ⟨_, rfl, hvx, hdx⟩
end Go.Proofs.Ytpihapkclnhklaa
