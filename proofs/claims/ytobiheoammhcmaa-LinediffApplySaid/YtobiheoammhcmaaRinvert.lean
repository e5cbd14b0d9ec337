/- cordwoodref18.Invert: the walk. -/
import Derived.Test.YtobiheoammhcmaaInvert
import Derived.BigRegion
namespace Go.Proofs.Ytobiheoammhcmaa
open Go.RowKit

set_option maxRecDepth 100000 in
set_option maxHeartbeats 4000000 in
theorem rinvert_any (W : World) (vl : Value) (hs : List Hk) (hl : Hks W vl hs) (hn : hs.length ≤ 100000) (hb : ∀ h ∈ hs, h.2.1.length ≤ 100000 ∧ h.2.2.length ≤ 100000) :
    Calls Try.prog 24 #[vl] W fun e w' => ∃ v, e = .returned v ∧ Hks w' v (invW hs) ∧ Below W.heap.size W w' := by
  obtain ⟨i1, hi1, hy0, hy1, hy2⟩ := info_parts Try.info_hunk
  obtain ⟨L, d, rfl, hc', hm'⟩ := hl.form
  have HZ := Lib.hid (zsum_take hb hn)
  have HB := Lib.hid hb
  clear hb
  go_enter Try.func24, Try.ntmps24
  go_wp2
  go_loopw [3, 4, 5] (fun v s t wr => InvRel W hs v s t wr) (fun _ _ t _ => hs.length - (intOf t).toNat)
  case atStart => exact ⟨0, rfl, rfl, by omega, ⟨_, (Blk.new W #[] 32).own (Nat.le_refl _) (cap := 0) (sz := 3) (n := 0) rfl (by unfold maxLen; omega) (by omega), rfl⟩, (Below.refl _ _).alloc (Nat.le_refl _) _⟩
  case round =>
    obtain ⟨i, rfl, rfl, hin, how, hd⟩ := hrel
    by_cases hlt : i < hs.length
    · obtain ⟨b, off, vo, vn, rfl, a1, a2, a3, a4, a5, a6, a7⟩ := hl.get hlt
      have hbd := HB.out _ (List.getElem_mem hlt)
      have hz := HZ.out i
      rcases hhe : hs[i] with ⟨n, o, e⟩
      rw [hhe] at a1 a4 a5 a6 a7 hbd
      simp only at a1 a4 a5 a6 a7 hbd
      have HE1 := Lib.hid (zsum_succ hlt hhe)
      have HE2 := Lib.hid (inv_succ IntKind.i64.wrap hlt hhe)
      clear hhe
      obtain ⟨Ao, co, rfl, o1, o2⟩ := a4.form
      obtain ⟨An, cn, rfl, e1, e2⟩ := a5.form
      have b1 := (Keeps.of_below hd) _ _ _ a1
      have b2 := (Keeps.of_below hd) _ _ _ a2
      have b3 := (Keeps.of_below hd) _ _ _ a3
      have hsz := hd.size
      have hlen : (invF IntKind.i64.wrap 0 (hs.take i)).length = i := by rw [invF_length, List.length_take]; omega
      generalize invF IntKind.i64.wrap 0 (hs.take i) = done at *
      generalize zsum (hs.take i) = z at *
      have z1 : IntKind.i64.wrap (z + (e.length : Int)) = z + (e.length : Int) := i64w (by omega) (by omega)
      have z2 : IntKind.i64.wrap (z + (e.length : Int) - (o.length : Int)) = z + (e.length : Int) - (o.length : Int) := i64w (by omega) (by omega)
      have hwr := wrap_range (n + z)
      generalize hnz : IntKind.i64.wrap (n + z) = nz at *
      obtain ⟨oc, hoo, hoe⟩ := how
      rw [hlen] at hoo
      go_wp2
      go_region_law ((refine step_append_any _ rfl _ _ _ rfl W.heap.size 32 i1 _ 3 56 Try.underlying26 hi1 hy0 hy1 hy2 rfl (by omega) u3 i oc rfl (World.ownsRow.drew (World.ownsRow.alloc hoo _)) _ 1 1 [.int .i64 nz, .slice An e.length cn, .slice Ao o.length co] rfl rfl (CellsAt.of_new _ _ _ _) (by simp [Value.oneCell']) (by omega) (by omega) (by have := hd.size; simp; omega) ?_; intro v1 w2 hown hgr hat; obtain ⟨A', c', rfl⟩ := own_form hown))
      all_goals
        have lt1 := fun g' h => (hoo.lt g' h).1
        have hd2 := (below_drewN' (hd.alloc hsz (.cells #[.int .i64 nz, .slice An e.length cn, .slice Ao o.length co] 32)) 1).grown hgr (by have := hd.size; simp; omega) lt1
        have how2 : Ow w2 W.heap.size 32 3 (HkR W) (.slice A' (i + 1) c') (done ++ [(nz, e, o)]) :=
          ⟨_, by rw [List.length_append, hlen]; exact hown, hoe.append (Elems.one ⟨_, _, rfl, a5, a4, hwr.1, hwr.2⟩ rfl)⟩
        have d1 := (Keeps.of_below hd2) _ _ _ a1
        have d2 := (Keeps.of_below hd2) _ _ _ a2
        have d3 := (Keeps.of_below hd2) _ _ _ a3
        clear hd hoo hoe hown hgr hat lt1 b1 b2 b3
        go_wp2
        go_quiet (fail)
        rename Nat => nq
        go_wp2
        go_roundw
        case rel => exact ⟨i + 1, by go_num, by rw [HE1.out, Int.add_sub_assoc], by omega, by rw [HE2.out]; exact how2, below_drewN' hd2 nq⟩
        case measure => simp [intOf] <;> omega
    · go_wp2
      go_ret
      exact ⟨_, rfl, inv_end how hin hlt hd, hd⟩
end Go.Proofs.Ytobiheoammhcmaa
