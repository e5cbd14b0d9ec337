/- strings.Builder: copyCheck, WriteString, with what they leave alone. -/
import Derived.Test.YthobbcafemkhbaaShelf
import Derived.Test.YthobbcafemkhbaaMem
import Derived.Lib.AppendStr
namespace Go.Proofs.Ythobbcafemkhbaa
open Go.RowKit Go.Shelf

/-- A builder that the call has made. -/
abbrev Bld (B b : Nat) (l : List UInt8) (w : World) : Prop := Lib.IsBuilder 74 5 B b (Lib.byteCells l) w
/-- All blocks but the builder's own are kept. -/
def FrB (b : Nat) (w w' : World) : Prop := ∀ g t cs, g ≠ b → t ≠ 5 → Blk w g t cs → Blk w' g t cs
theorem FrB.refl (b : Nat) (w : World) : FrB b w w := fun _ _ _ _ _ h => h
theorem FrB.trans {b : Nat} {w w' w'' : World} (h : FrB b w w') (k : FrB b w' w'') : FrB b w w'' := fun g t cs h1 h2 x => k g t cs h1 h2 (h g t cs h1 h2 x)
theorem FrB.set (b o : Nat) (w : World) (u : Value) : FrB b w (w.setCell ⟨b, o, none⟩ u) := fun _ _ _ h1 _ x => x.far (p := ⟨b, o, none⟩) h1 u
theorem FrB.grown {b B : Nat} {w w' : World} {n : Nat} {v : Value} {xs : List Value} (ho : w.ownsRow B 5 1 v n xs) (hg : w.grownBy w' v.ownBlock) : FrB b w w' := fun _ _ _ _ h2 x =>
  x.grown hg (fun e => Lib.ownBlock_ne ho x h2 e.symm)
theorem Bld.keep {B b : Nat} {l : List UInt8} {w w' : World} (h : Bld B b l w) (k : Below w.heap.size w w') : Bld B b l w' := by
  have go : ∀ p, Lib.BuilderAt 74 5 B b p (Lib.byteCells l) w → Lib.BuilderAt 74 5 B b p (Lib.byteCells l) w' := fun p ⟨h1, v, h2, h3, h4⟩ =>
    ⟨h1, v, Blk.keep (t := 74) h2 k, own_stab (M := fun _ => False) h3 (fun _ _ h => h) _ (Agree.of_below k _), h4⟩
  exact h.imp (go _) (go _)
theorem Bld.new (w : World) {B : Nat} (hB : B ≤ w.heap.size) : Bld B w.heap.size [] (w.alloc (.cells #[.pointer none, .slice none 0 0] 74)) :=
  .inl ⟨hB, .slice none 0 0, heap_alloc_new w _, World.ownsRow_nil _ _ _ _, by simp [Value.ownBlock]⟩

theorem cc_any (B b : Nat) (bs : List Value) (w : World) (h : Lib.IsBuilder 74 5 B b bs w) :
    Calls Try.prog 67 #[.pointer (some ⟨b, 0, none⟩)] w fun e w' => e = .returned (.tuple #[]) ∧ Lib.BuilderAt 74 5 B b (.pointer (some ⟨b, 0, none⟩)) bs w' ∧ Below B w w' ∧ FrB b w w' := by
  rcases h with h | h
  · refine (Any.Builder_copyCheck_fresh (ρ := lays156_ren) { lays156 with } Builder_Extra_156.toX72 b w h.cell0 h.shape h.frozen0).mono ?_
    rintro e w' ⟨rfl, rfl⟩
    exact ⟨rfl, h.used _, (Below.refl B w).setCell (p := ⟨b, 0, none⟩) h.1 _, FrB.set _ _ _ _⟩
  · refine (Any.Builder_copyCheck_used (ρ := lays156_ren) { lays156 with } Builder_Extra_156.toX72 b w h.cell0).mono ?_
    rintro e w' ⟨rfl, rfl⟩
    exact ⟨rfl, h, Below.refl B _, FrB.refl _ _⟩

theorem Try.info_u8 : (Try.prog.info? 5).map (fun i => (i.zero, i.size, i.bytes)) = some (some (.int .u8 0), 1, 1) := by kernel_rfl
set_option maxHeartbeats 2000000 in
set_option maxRecDepth 100000 in
theorem ws_any (B b : Nat) (l : List UInt8) (s : ByteArray) (w : World) (h : Bld B b l w) (hlen : l.length + s.size ≤ 140737488355328) (hBw : B ≤ w.heap.size) :
    Calls Try.prog 52 #[.pointer (some ⟨b, 0, none⟩), .string s] w fun e w' => e = .returned (.tuple #[.int .i64 s.size, .nilIface]) ∧ Bld B b (l ++ s.data.toList) w' ∧ Below B w w' ∧ FrB b w w' := by
  obtain ⟨i0, hi, hz0, hz1, hz2⟩ := info_parts Try.info_u8
  have hcl : (Lib.byteCells l).length = l.length := Lib.byteCells_length l
  have CC := Lib.hid (cc_any B b _ w h)
  have HE : Hid (Lib.byteCells (l ++ s.data.toList) = Lib.byteCells l ++ Lib.strCells s) := by show _ = _; simp [Lib.byteCells, Lib.strCells]
  clear h
  generalize Lib.byteCells l = bs at *
  go_enter Try.func52, Try.ntmps52
  go_wp2_with fail
  refine CC.out.mono ?_
  rintro e w1 ⟨rfl, h1, hb1, hf1⟩
  obtain ⟨hB, v, hbk, hown, hne⟩ := h1
  have c0 : w1.cell? ⟨b, 0, none⟩ = some (.pointer (some ⟨b, 0, none⟩)) := by rw [Lib.cell_of_heap hbk]; rfl
  have c1 : w1.cell? ⟨b, 1, none⟩ = some v := by rw [Lib.cell_of_heap hbk]; rfl
  have HCL := Lib.hid hcl
  have hle : bs.length + s.size ≤ 140737488355328 := by omega
  clear hcl CC
  go_wp2_with (at_builtin; go_must (refine Lib.wpList_append_own_string _ rfl _ _ 72 9 rfl B 5 i0 Try.underlying72 Try.underlying9 hi hz0 hz1 hz2 _ _ _ rfl hown s rfl ?c3 ?c4 ?c5 ?_))
  case c3 => unfold maxLen; omega
  case c4 => omega
  case c5 => have := hb1.size; omega
  intro v' w2 hown' hgrow _
  have hlt : b < w1.heap.size := Blk.lt (t := 74) hbk
  have hb2 : w2.heap[b]? = some (.cells #[.pointer (some ⟨b, 0, none⟩), v] 74 (0, 0)) := by
    rw [hgrow.block b hlt (fun e => hne e.symm)]
    exact hbk
  have d0 : w2.cell? ⟨b, 0, none⟩ = some (.pointer (some ⟨b, 0, none⟩)) := by rw [Lib.cell_of_heap hb2]; rfl
  have d1 : w2.cell? ⟨b, 1, none⟩ = some v := by rw [Lib.cell_of_heap hb2]; rfl
  have f1 : w2.frozen? ⟨b, 1, none⟩ = false := Lib.frozen_of_heap hb2 1
  obtain ⟨ao, n', cap, rfl⟩ : ∃ ao n' cap, v' = .slice ao n' cap := by
    rcases hown'.2 with ⟨hv, _⟩ | ⟨g, cap, cur, hv, _⟩
    · exact ⟨_, _, _, hv⟩
    · exact ⟨_, _, _, hv⟩
  go_wp2
  go_ret2
  refine ⟨rfl, ?_, ?_, ?_⟩
  · show Lib.IsBuilder _ _ _ _ _ _
    rw [HE.out]
    exact .inr (Lib.BuilderAt.put (T := 74) (e := 5) hB hb2 (bs' := bs ++ Lib.strCells s) (by simpa [Lib.strCells_length] using hown') (by decide))
  · exact (hb1.grown hgrow (by have := hb1.size; omega) (fun k hk => (hown.lt k hk).1)).setCell (p := ⟨b, 1, none⟩) hB _
  · exact (hf1.trans (FrB.grown hown hgrow)).trans (FrB.set _ _ _ _)
end Go.Proofs.Ythobbcafemkhbaa
