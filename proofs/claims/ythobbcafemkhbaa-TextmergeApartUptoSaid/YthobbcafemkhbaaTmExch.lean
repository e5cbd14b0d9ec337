/- cordwoodref19.Exchanged, cordwoodlaw19.few. -/
import Derived.Test.YthobbcafemkhbaaTmRmerge
namespace Go.Proofs.Ythobbcafemkhbaa
open Go.RowKit

theorem cells_new1 (w : World) (o : Obj) (cs : Array Value) (t : TypeId) : CellsAt ((w.alloc o).alloc (.cells cs t)) (some ⟨w.heap.size + 1, 0, none⟩) cs.toList := by
  have := CellsAt.of_new (w.alloc o) cs t (0, 0)
  rwa [World.size_alloc] at this
theorem take_map_succ {L : List Rg} {k : Nat} (h : k < L.length) : (L.take (k + 1)).map swapR = (L.take k).map swapR ++ [swapR L[k]] := by
  rw [List.take_succ_eq_append_getElem h, List.map_append]; rfl

set_option maxRecDepth 100000 in
set_option maxHeartbeats 1000000 in
theorem exchanged_any (w : World) (v : Value) (L : List Rg) (h : Rgs w v L) (hlen : L.length ≤ 1000000) :
    Calls Try.prog 17 #[v] w fun e w' => ∃ v', e = .returned v' ∧ Rgs w' v' (L.map swapR) ∧ Below w.heap.size w w' := by
  obtain ⟨i1, hi1, hy0, hy1, hy2⟩ := info_parts Try.info_reg
  obtain ⟨A, c, rfl, hc, hm⟩ := h.form
  go_enter Try.func17, Try.ntmps17
  go_wp2
  go_loopw [3, 4] (fun vo i wr => ∃ k : Nat, k ≤ L.length ∧ i = .int .i64 k ∧ Ow wr w.heap.size 58 4 (RgR w) vo ((L.take k).map swapR) ∧ Below w.heap.size w wr) (fun _ i _ => L.length - (intOf i).toNat)
  case atStart => exact ⟨0, by omega, rfl, ⟨[], (Blk.new w #[] 58).own (Nat.le_refl _) (cap := 0) (by simp) (by simp) (by simp), rfl⟩, (Below.refl _ _).alloc (Nat.le_refl _) _⟩
  case round =>
    obtain ⟨k, hk, rfl, how, hb⟩ := hrel
    by_cases hlt : k < L.length
    · obtain ⟨b, off, v1, v2, v3, rfl, a1, a2, a3, a4, a5, a6, a7⟩ := h.get hlt
      have r1 := cell_later hb a1
      have r2 := cell_later hb a2
      have r3 := cell_later hb a3
      have r4 := cell_later hb a4
      have HS := Lib.hid (take_map_succ hlt)
      obtain ⟨cells, hown, hel⟩ := how
      have hlk : ((L.take k).map swapR).length = k := by simp; omega
      rw [hlk] at hown
      have HEL := Lib.hid hel
      generalize L[k] = x at *
      obtain ⟨x1, xb, xl, xr⟩ := x
      simp only at a5 a6 a7 r1
      have hbs := hb.size
      obtain ⟨A1, c1, rfl, _, _⟩ := a5.form
      obtain ⟨A2, c2, rfl, _, _⟩ := a6.form
      obtain ⟨A3, c3, rfl, _, _⟩ := a7.form
      have A5 := Lib.hid a5
      have A6 := Lib.hid a6
      have A7 := Lib.hid a7
      clear a1 a2 a3 a4 a5 a6 a7 hel hlk
      cases x1
      · go_wp2_with (at_builtin; go_must (refine wpList_append_any _ rfl (.tmp 25) (.tmp 27) _ rfl w.heap.size 58 i1 _ 4 80 Try.underlying24 hi1 hy0 hy1 hy2 rfl (by omega) u3 k cells rfl ((hown.alloc _).alloc _) _ 1 1 [.bool false, .slice A1 xb.length c1, .slice A2 xl.length c2, .slice A3 xr.length c3] rfl rfl (cells_new1 _ _ _ _) (by simp [Value.oneCell']) (by omega) (by omega) (by simp; omega) ?_)
                     intro v' w1 ho1 hg1 ha1)
        go_roundw
        case rel =>
          refine ⟨k + 1, by omega, by go_num, ?_, ((hb.alloc hbs _).alloc (by simp; omega) _).grown hg1 (by simp; omega) fun j hj => (hown.lt j hj).1⟩
          rw [HS.out]
          refine ⟨_, by rw [List.length_append, List.length_map, List.length_take, Nat.min_eq_left (by omega)]; exact ho1, HEL.out.append (Elems.one ⟨_, _, _, rfl, A5.out, A6.out, A7.out⟩ rfl)⟩
        case measure => simp [intOf]; omega
      · go_wp2_with (at_builtin; go_must (refine wpList_append_any _ rfl (.tmp 25) (.tmp 27) _ rfl w.heap.size 58 i1 _ 4 80 Try.underlying24 hi1 hy0 hy1 hy2 rfl (by omega) u3 k cells rfl ((hown.alloc _).alloc _) _ 1 1 [.bool true, .slice A1 xb.length c1, .slice A3 xr.length c3, .slice A2 xl.length c2] rfl rfl (cells_new1 _ _ _ _) (by simp [Value.oneCell']) (by omega) (by omega) (by simp; omega) ?_)
                     intro v' w1 ho1 hg1 ha1)
        go_roundw
        case rel =>
          refine ⟨k + 1, by omega, by go_num, ?_, ((hb.alloc hbs _).alloc (by simp; omega) _).grown hg1 (by simp; omega) fun j hj => (hown.lt j hj).1⟩
          rw [HS.out]
          refine ⟨_, by rw [List.length_append, List.length_map, List.length_take, Nat.min_eq_left (by omega)]; exact ho1, HEL.out.append (Elems.one ⟨_, _, _, rfl, A5.out, A7.out, A6.out⟩ rfl)⟩
        case measure => simp [intOf]; omega
    · have hk : L.take k = L := List.take_of_length_le (by omega)
      rw [hk] at how
      have how := Lib.hid how
      clear hk
      go_wp2
      go_ret
      exact ⟨_, rfl, Sl.keep how.out.sl (Keeps.refl _) (RgR.keep (Keeps.of_below hb)), hb⟩

/-- Short texts with few lines. -/
def few1 (s : ByteArray) : Bool := decide (s.size ≤ 200) && decide ((lns s).length ≤ 20)
def fewB (l : List ByteArray) : Bool := l.all few1
theorem fewB_at {l : List ByteArray} {k : Nat} (h : k < l.length) : fewB (l.drop k) = (few1 l[k] && fewB (l.drop (k + 1))) := by
  rw [List.drop_eq_getElem_cons h]; rfl

set_option maxRecDepth 100000 in
set_option maxHeartbeats 1000000 in
theorem few_any (w : World) (v : Value) (l : List ByteArray) (h : Strs w v l) :
    Calls Try.prog 12 #[v] w fun e w' => e = .returned (.bool (fewB l)) ∧ Below w.heap.size w w' := by
  obtain ⟨A, c, rfl, hc, hm⟩ := h.form
  go_enter Try.func12, Try.ntmps12
  go_wp2
  go_loopw [7] (fun i wr => ∃ k : Nat, k ≤ l.length ∧ i = .int .i64 k ∧ Hid (fewB l = fewB (l.drop k)) ∧ Below w.heap.size w wr) (fun i _ => l.length - (intOf i).toNat)
  case atStart => exact ⟨0, by omega, rfl, rfl, Below.refl _ _⟩
  case round =>
    obtain ⟨k, hk, rfl, HK, hb⟩ := hrel
    by_cases hlt : k < l.length
    · obtain ⟨b, off, rfl, a1⟩ := (h.keep (Keeps.of_below hb)).get hlt
      have HS := Lib.hid (fewB_at hlt)
      generalize l[k] = s at *
      by_cases h1 : s.size ≤ 200
      · have e1 : decide ((200 : Int) < (s.size : Int)) = false := by simp; omega
        have cl := rlns_any s (by omega) wr
        have HF : Hid (few1 s = decide ((lns s).length ≤ 20)) := by show _ = _; unfold few1; rw [decide_eq_true h1, Bool.true_and]
        generalize lns s = ls at *
        by_cases h2 : ls.length ≤ 20
        · have e2 : decide ((20 : Int) < (ls.length : Int)) = false := by simp; omega
          have HE : Hid (fewB l = fewB (l.drop (k + 1))) := by show _ = _; rw [HK.out, HS.out, HF.out, decide_eq_true h2, Bool.true_and]
          clear HS HK HF
          go_wp2_with fail
          refine cl.mono ?_
          clear cl
          rintro e w1 ⟨v1, rfl, o1, b1⟩
          obtain ⟨A1, c1, rfl, _, _⟩ := Strs.form o1.sl
          have hb2 := hb.trans (b1.mono hb.size)
          clear a1 o1 b1
          go_wp2
          go_roundw
          case rel => exact ⟨k + 1, by omega, by go_num, HE, hb2⟩
          case measure => simp [intOf]; omega
        · have e2 : decide ((20 : Int) < (ls.length : Int)) = true := by simp; omega
          have HE : Hid (fewB l = false) := by show _ = _; rw [HK.out, HS.out, HF.out, decide_eq_false h2, Bool.false_and]
          clear HS HK HF
          go_wp2_with fail
          refine cl.mono ?_
          clear cl
          rintro e w1 ⟨v1, rfl, o1, b1⟩
          obtain ⟨A1, c1, rfl, _, _⟩ := Strs.form o1.sl
          have hb2 := hb.trans (b1.mono hb.size)
          clear a1 o1 b1
          go_wp2
          go_ret
          exact ⟨ret_bool HE.out.symm, hb2⟩
      · have e1 : decide ((200 : Int) < (s.size : Int)) = true := by simp; omega
        have HE : Hid (fewB l = false) := by show _ = _; rw [HK.out, HS.out]; unfold few1; rw [decide_eq_false h1]; rfl
        clear HS HK
        go_wp2
        go_ret
        exact ⟨ret_bool HE.out.symm, hb⟩
    · have HE : Hid (fewB l = true) := by show _ = _; rw [HK.out, List.drop_of_length_le (by omega)]; rfl
      go_wp2
      go_ret
      exact ⟨ret_bool HE.out.symm, hb⟩
end Go.Proofs.Ythobbcafemkhbaa
