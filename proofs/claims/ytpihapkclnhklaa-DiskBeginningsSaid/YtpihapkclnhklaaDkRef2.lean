/- cordwoodref05.Current, Read. -/
import Derived.Test.YtpihapkclnhklaaDkRef1
namespace Go.Proofs.Ytpihapkclnhklaa
open Go.RowKit

theorem own_ne_type' {w : World} {base : Nat} {e : TypeId} {size n m cap g : Nat} {xs : List Value} (h : w.ownsRow base e size (.slice (some ⟨g, 0, none⟩) m cap) n xs) {g' : Nat} {t : TypeId} {cs : Array Value} (hg : Blk w g' t cs) (hne : e ≠ t) : g ≠ g' := fun h' =>
  own_ne_type h hg hne (by rw [← h']; rfl)
theorem own_drew {w : World} {base : Nat} {e : TypeId} {size n : Nat} {v : Value} {xs : List Value} (h : w.ownsRow base e size v n xs) : w.drew.ownsRow base e size v n xs := h
theorem below_drew1 {B : Nat} {a w : World} (h : Below B a w) : Below B a w.drew := below_drewN' h 1
theorem cur_succ (secs : List ByteArray) {p : List (Int × ByteArray)} {k m : Nat} {s : ByteArray} (h : k < p.length) (h1 : p[k].1 = (m : Int)) (h2 : p[k].2 = s) :
    (p.take (k + 1)).foldl putW secs = ((p.take k).foldl putW secs).set m s := by
  rw [foldl_take_succ _ _ _ h]; unfold putW; rw [h1, h2, Int.toNat_natCast]

set_option maxRecDepth 100000 in
set_option maxHeartbeats 2000000 in
theorem rcur_any (W : World) (vs vp : Value) (d : Dk) (h : DskP W vs vp d) (hv : Valid d) :
    Calls Try.prog 38 #[.agg #[.int .i64 d.size, vs, vp, .int .i64 d.left]] W (CurPost W d) := by
  obtain ⟨i0, hi, hz0, hz1, hz2⟩ := info_parts Try.info_str
  obtain ⟨size, secs, pend, left⟩ := d
  obtain ⟨hs, hp, z0, z1, f0, f1⟩ := h
  obtain ⟨v1, v2, v3, v4, v5, v6, v7⟩ := hv
  simp only at hs hp z0 z1 f0 f1 v1 v2 v3 v4 v5 v6 v7
  generalize hfull : cur ⟨size, secs, pend, left⟩ = full
  have HF : Hid (full = pend.foldl putW secs) := hfull.symm
  have V6 := Lib.hid v6
  clear hfull v5 v6
  obtain ⟨A, c, rfl, hc, hm⟩ := hs.form
  obtain ⟨P, cp, rfl, hcp, hmp⟩ := hp.form
  have hbk := Blk.new W #[.int .i64 size, .slice A secs.length c, .slice P pend.length cp, .int .i64 left] 26
  have hd1 := (Below.refl W.heap.size W).alloc (Nat.le_refl _) (.cells #[.int .i64 size, .slice A secs.length c, .slice P pend.length cp, .int .i64 left] 26)
  go_enter Try.func38, Try.ntmps38
  go_upto_region 1 with (fail)
  generalize W.alloc (.cells #[.int .i64 size, .slice A secs.length c, .slice P pend.length cp, .int .i64 left] 26) = w1 at *
  have q1 := hbk.cell (j := 1) rfl
  have hbl := hbk.lt
  have hs1 := (hs.keep (Keeps.of_below hd1)).keep (Keeps.alloc w1 (.cells #[] 9))
  have ho0 := (Blk.new w1 #[] 9).own (base := W.heap.size) (cap := 0) (sz := 1) (n := 0) hd1.size rfl (by unfold maxLen; omega) (by omega)
  have hd2 := hd1.alloc hd1.size (.cells #[] 9)
  have hbk2 := hbk.alloc (.cells #[] 9)
  have hB := hd1.size
  go_wp2_with (at_builtin; go_must (refine wpList_append_any _ rfl (.tmp 5) (.tmp 7) _ rfl W.heap.size 9 i0 _ 1 16 Try.underlying23 hi hz0 hz1 hz2 rfl (by omega) _ 0 [] rfl ho0 A secs.length c (secs.map .string) rfl (by simp) (strs_cells' hs1) (by simp [Value.oneCell']) (by omega) (by omega) (by simp; omega) ?_))
  intro v2' w2 hown hgr hat
  have hown : w2.ownsRow W.heap.size 9 1 v2' secs.length (secs.map .string) := by simpa using hown
  obtain ⟨g, cap, rfl, hg0, hg1, hg2, hg3⟩ := own_row hown (by omega)
  have hd3 := hd2.grown hgr (by simp; omega) (fun g' h => (ho0.lt g' h).1)
  have hbk3 := hbk2.grown hgr (own_ne_type ho0 hbk2 (by decide)).symm
  clear ho0 hgr hat hd2 hbk2 hs1 hd1 hbk q1 hbl hB
  have hown0 : w2.ownsRow W.heap.size 9 1 (.slice (some ⟨g, 0, none⟩) secs.length cap) secs.length (((pend.take 0).foldl putW secs).map .string) := hown
  have hgW : g ≠ W.heap.size := own_ne_type' hown hbk3 (by decide)
  clear hown
  go_wp2
  go_loopw [4] (fun t wr => ∃ k : Nat, k ≤ pend.length ∧ t = .int .i64 k ∧ wr.ownsRow W.heap.size 9 1 (.slice (some ⟨g, 0, none⟩) secs.length cap) secs.length (((pend.take k).foldl putW secs).map .string) ∧ Blk wr W.heap.size 26 #[.int .i64 size, .slice A secs.length c, .slice P pend.length cp, .int .i64 left] ∧ Below W.heap.size W wr) (fun t _ => pend.length - (intOf t).toNat)
  case atStart => exact ⟨0, by omega, rfl, hown0, hbk3, hd3⟩
  case round =>
    clear hown0 hbk3 hd3 hg1
    obtain ⟨k, hk, rfl, hown, hbk, hd⟩ := hrel
    have hpk := hp.keep (Keeps.of_below hd)
    have hbl := hbk.lt
    have q2 := hbk.cell (j := 2) rfl
    by_cases hlt : k < pend.length
    · obtain ⟨b, off, rfl, a1, a2, a3, a4⟩ := hpk.get hlt
      obtain ⟨e1, e2, e3⟩ := V6.out _ (List.getElem_mem hlt)
      obtain ⟨m, hm1⟩ := Int.eq_ofNat_of_zero_le e1
      generalize hs1 : pend[k].2 = s at *
      have HS := Lib.hid (cur_succ secs hlt hm1 hs1)
      have hml : m < secs.length := by omega
      rw [hm1] at a1
      have hlen : ((pend.take k).foldl putW secs).length = secs.length := foldl_putW_length _ _
      generalize (pend.take k).foldl putW secs = L at *
      have hmL : m < L.length := by omega
      obtain ⟨o1, o2⟩ := own_at hown (i := m) (u := .string (L[m]'hmL)) (by simp)
      clear hm1 hs1 e1 e2 e3 a3 a4
      generalize (L[m]'hmL) = old at *
      have HL := Lib.hid hlen
      clear hlen
      go_wp2
      go_region
      all_goals
        go_wp2
        go_roundw
        case rel =>
          refine ⟨k + 1, by omega, by go_num, ?_, ?_, ?_⟩
          · rw [HS.out, List.map_set]
            exact own_drew (own_set hown (.string s))
          · exact (hbk.far (p := ⟨g, m, none⟩) hgW.symm _).drew
          · exact below_drew1 (hd.setCell (p := ⟨g, m, none⟩) hg0 _)
        case measure => simp [intOf] <;> omega
    · have hk' : pend.take k = pend := List.take_of_length_le (by omega)
      have HK := Lib.hid hk'
      clear hk'
      go_wp2
      go_ret
      rw [HK.out] at hown
      refine ⟨_, rfl, ?_, hd⟩
      rw [show cur ⟨size, secs, pend, left⟩ = pend.foldl putW secs from rfl]
      unfold OwS
      rw [foldl_putW_length]
      exact hown
end Go.Proofs.Ytpihapkclnhklaa
