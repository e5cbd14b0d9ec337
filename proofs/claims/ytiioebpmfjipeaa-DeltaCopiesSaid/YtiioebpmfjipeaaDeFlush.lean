/- delta: join's closure flush. -/
import Derived.Test.YtiioebpmfjipeaaDeJoinM
import Derived.Test.YtiioebpmfjipeaaDeAdd
namespace Go.Proofs.Ytiioebpmfjipeaa
set_option linter.unusedVariables false
set_option linter.unusedSimpArgs false
open Go.RowKit

theorem Try.info_op : (Try.prog.info? 28).map (fun i => (i.zero, i.size, i.bytes)) = some (some (.agg #[.int .i64 0, .int .i64 0, .string ⟨#[]⟩]), 3, 32) := by kernel_rfl
def FlushE (H h N : Nat) (l : List DOp) (t : List UInt8) (W : World) (e : Ending) (W' : World) : Prop :=
  e = .returned (.tuple #[]) ∧ (∃ v, JSt H h N v (flushD (l, t)) [] W') ∧ FrJ H h N W W'

set_option maxRecDepth 100000 in
set_option maxHeartbeats 2000000 in
theorem flush_any (H h N : Nat) (v : Value) (l : List DOp) (t : List UInt8) (W : World) (J : JSt H h N v l t W) (hW : h ≤ W.heap.size) (hN : N ≤ W.heap.size) (hl : l.length ≤ 1000000000) :
    Calls Try.prog 63 #[.pointer (some ⟨H + 1, 0, none⟩), .pointer (some ⟨H, 0, none⟩)] W (FlushE H h N l t W) := by
  obtain ⟨i1, hi1, hy0, hy1, hy2⟩ := info_parts Try.info_op
  have CL := Lib.hid (blen_any H (H + 1) t W J.bld)
  by_cases ht : t = []
  · subst ht
    have HE : FlushE H h N l [] W (.returned (.tuple #[])) W := ⟨rfl, ⟨v, by rw [show flushD (l, ([] : List UInt8)) = l from if_pos rfl]; exact J⟩, FrJ.refl _⟩
    have HE' := Lib.hid HE
    clear J HE
    go_enter Try.func63, Try.ntmps63
    go_wp2_with fail
    refine CL.out.mono ?_
    rintro e w1 ⟨rfl, rfl⟩
    go_wp2
    exact bodyPost_end (results_none rfl _ _ _) rfl HE'.out
  · have hh := J.hh
    have htl : 0 < t.length := by cases t with
      | nil => exact absurd rfl ht
      | cons => simp
    have c0 := J.row.box.cell (j := 0) rfl
    have hsH : H < W.heap.size := J.row.box.lt
    obtain ⟨A, c, rfl⟩ := own_form J.row.row
    have CS : Calls Try.prog 40 #[.pointer (some ⟨H + 1, 0, none⟩)] W.drew fun e w' => e = .returned (.string (strB t)) ∧ Bld H (H + 1) t w' ∧ Below H W.drew w' ∧ Lib.OthersKept 5 (some (H + 1)) W.drew w' :=
      str_any H (H + 1) t W.drew (J.bld.below (Below.refl _ _).drew) (by simp; omega)
    have CS' := Lib.hid CS
    have HJ := Lib.hid J
    have hfl : Hid (flushD (l, t) = l ++ [⟨0, 0, t⟩]) := if_neg ht
    clear CS J ht
    have c0' : W.cell? ⟨H, 0, none⟩ = some (.slice A l.length c) := c0
    clear c0
    go_enter Try.func63, Try.ntmps63
    go_wp2_with fail
    refine CL.out.mono ?_
    rintro e w1 ⟨rfl, rfl⟩
    go_wp2_with fail
    refine AtS.start (S := fun w' => w'.cell? ⟨H, 0, none⟩ = some (.slice A l.length c)) (by kernel_rfl) c0' 4 ?_
    -- takes '[]' load:0
    (refine AtS.load (i := 0) (v := ?_) (by simp only [List.getElem?_toArray, List.getElem?_cons_succ, List.getElem?_cons_zero]; rfl) (by kernel_rfl) (by kernel_rfl) (by kernel_rfl) (fun _ _ _ h => h) [] (by kernel_rfl) (Or.inl ⟨by rfl, fun w hSw => ?_⟩) ?_; rotate_left; ((try dsimp only at hSw); go_split_ands; go_simp; try with_reducible rfl); simp only [Act.put, List.setIfInBounds_toArray, List.set_cons_zero, List.set_cons_succ])
    -- end takes
    refine AtS.only (i := 1) (by simp only [List.getElem?_toArray, List.getElem?_cons_succ, List.getElem?_cons_zero]; rfl) (by kernel_rfl) (by rfl) ?_
    intro K hK
    go_simp
    refine CS'.out.mono ?_
    rintro e w2 ⟨rfl, hb2, hB2, ko2⟩
    have J1 := HJ.out.below (Below.refl w1.heap.size w1).drew
    obtain ⟨J2, F2⟩ := J1.built hb2 hB2 ko2
    have hW2 : h ≤ w2.heap.size := by have := hB2.size; simp at this; omega
    have c2 : w2.cell? ⟨H, 0, none⟩ = some (.slice A l.length c) := J2.row.box.cell (j := 0) rfl
    have hK' := hK
    clear hK CS' CL
    refine hK' _ _ c2 ?_
    clear hK' K
    -- takes '[]' free:2
    (refine AtS.free (i := 2) (v := ?_) (by simp only [List.getElem?_toArray, List.getElem?_cons_succ, List.getElem?_cons_zero]; rfl) (by kernel_rfl) (by kernel_rfl) (by kernel_rfl) (fun _ _ _ h => h) (by kernel_rfl) (Or.inl ⟨by rfl, fun w _ => ?_⟩) ?_; rotate_left; (go_simp; try with_reducible rfl); simp only [Act.put, List.setIfInBounds_toArray, List.set_cons_zero, List.set_cons_succ])
    -- end takes
    refine AtS.only (i := 3) (by simp only [List.getElem?_toArray, List.getElem?_cons_succ, List.getElem?_cons_zero]; rfl) (by kernel_rfl) (by rfl) ?_
    intro K hK
    go_simp
    have hal := (Below.refl w2.heap.size w2).alloc (Nat.le_refl _) (.cells #[.int .i64 0, .int .i64 0, .string (strB t)] 28)
    have hK' := hK
    clear hK
    refine hK' _ _ (by rw [hal.cell (p := ⟨H, 0, none⟩) (by simp only; omega)]; exact c2) ?_
    clear hK' K
    have J3 := J2.below hal
    have hrow := J3.row.row
    refine AtS.law (i := 4) (by simp only [List.getElem?_toArray, List.getElem?_cons_succ, List.getElem?_cons_zero]; rfl) (by kernel_rfl) (by rfl) ?_
    refine step_append_any _ rfl _ _ _ rfl H 28 i1 _ 3 32 Try.underlying24 hi1 hy0 hy1 hy2 rfl (by omega) (.slice A l.length c) l.length _ rfl hrow _ 1 1 [.int .i64 0, .int .i64 0, .string (strB t)] rfl rfl (CellsAt.of_new _ _ _ _) (by simp [Value.oneCell']) (by omega) (by omega) (by simp; omega) ?_
    intro v4 w4 hown4 hgr4 hat4
    obtain ⟨A', c', rfl⟩ := own_form hown4
    have hne := own_ne_type hrow J3.row.box (t := 24) (by decide)
    have hbx := J3.row.box.grown hgr4 hne.symm
    have p4 : w4.cell? ⟨H, 0, none⟩ = some (.slice A l.length c) := hbx.cell (j := 0) rfl
    have f4 := hbx.frozen 0
    obtain ⟨J5, F5⟩ := J3.push (y := ⟨0, 0, t⟩) (by simp; omega) (by have := hB2.size; simp at this; simp; omega) hat4 hown4 hgr4
    have F : FrJ H h N w1 (w4.setCell ⟨H, 0, none⟩ (.slice A' (l.length + 1) c')) := ((FrJ.of_below (Below.refl w1.heap.size w1).drew (by omega)).trans F2).trans ((FrJ.of_below hal (by omega)).trans F5)
    simp only [Act.put, List.setIfInBounds_toArray, List.set_cons_zero, List.set_cons_succ]
    refine AtS.late (i := 5) (by simp only [List.getElem?_toArray, List.getElem?_cons_succ, List.getElem?_cons_zero]; rfl) (by kernel_rfl) (by rfl) (by rfl) ?_
    intro K hK
    go_simp
    refine hK _ _ (AtS.done (by kernel_rfl) ?_)
    clear hK K p4 f4 hbx hgr4 hown4 hat4 hrow J3 J2 J1 F2 F5 hb2 hB2 ko2 c2 hal
    have hw5 : h ≤ (w4.setCell ⟨H, 0, none⟩ (.slice A' (l.length + 1) c')).heap.size := by have := F.size; omega
    generalize w4.setCell ⟨H, 0, none⟩ (.slice A' (l.length + 1) c') = w5 at *
    refine NoPanic.normal ?_
    obtain ⟨p, q, hbk⟩ : ∃ p q, Blk w5 (H + 1) 57 #[p, q] := by
      rcases J5.bld with ⟨_, q, hv, _⟩ | ⟨_, q, hv, _⟩ <;> exact ⟨_, q, hv⟩
    have CR := Lib.hid (reset_any (H + 1) p q w5 hbk)
    obtain ⟨J6, F6⟩ := J5.reset hbk
    have HE : FlushE H h N l t w1 (.returned (.tuple #[])) ((w5.setCell ⟨H + 1, 0, none⟩ (.pointer none)).setCell ⟨H + 1, 1, none⟩ (.slice none 0 0)) := ⟨rfl, ⟨_, by rw [hfl.out]; exact J6⟩, by
      refine F.trans ?_
      exact F6⟩
    have HE' := Lib.hid HE
    clear HE F6 J6 F J5 hbk hfl HJ
    go_wp2_with fail
    refine CR.out.mono ?_
    rintro e w6 ⟨rfl, hw6⟩
    rw [← hw6] at HE'
    clear hw6
    go_wp2
    exact bodyPost_end (results_none rfl _ _ _) rfl HE'.out
end Go.Proofs.Ytiioebpmfjipeaa
