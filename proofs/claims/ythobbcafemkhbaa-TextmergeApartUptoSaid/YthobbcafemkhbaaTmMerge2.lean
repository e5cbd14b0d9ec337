/- textmerge.Merge. -/
import Derived.Test.YthobbcafemkhbaaTmKept
import Derived.Test.YthobbcafemkhbaaLines2
import Derived.Sort.CutIn
namespace Go.Proofs.Ythobbcafemkhbaa
open Go.RowKit
set_option linter.unusedVariables false
attribute [local go_sem] Oper.semAt_some

theorem cell_none {w : World} {r o : Nat} {ob : Obj} (h : w.heap[r]? = some ob) (ho : ob.isCells = false) : w.cell? ⟨r, o, none⟩ = none := by
  cases ob <;> simp_all [World.cell?, Obj.isCells]
theorem cell_set {w : World} {r : Nat} {ob : Obj} (hs : r < w.heap.size) (o : Nat) {w0 : World} (h0 : w0.heap[r]? = some ob) : (w.putObj r ob).cell? ⟨r, o, none⟩ = w0.cell? ⟨r, o, none⟩ :=
  World.cell?_of_block (a := ⟨r, o, none⟩) ((World.putObj_heap_same hs).trans h0.symm)
/-- A block without strings may change besides. -/
theorem Stab.other {W W' : World} {M : Nat → Prop} {φ : World → Prop} {g : Nat} (h : Stab W M φ) (hφ : ∀ a b, KeepsS a b → φ a → φ b) (hns : ∀ o s, W.cell? ⟨g, o, none⟩ ≠ some (.string s)) (hk : Agree (fun b => b = g) W W') : Stab W' M φ := by
  intro W2 k
  by_cases hlt : g < W.heap.size
  · obtain ⟨ob, hob⟩ : ∃ ob, W.heap[g]? = some ob := ⟨_, Array.getElem?_eq_getElem hlt⟩
    have hs2 : g < W2.heap.size := by have := k.size; have := hk.size; omega
    have h3 : φ (W2.putObj g ob) := by
      refine h _ ⟨by have := k.size; have := hk.size; simp; omega, fun b hb hn => ?_⟩
      by_cases hbr : b = g
      · subst hbr
        rw [World.putObj_heap_same hs2, hob]
      · rw [World.putObj_heap_other hbr, k.block b (by have := hk.size; omega) hn, hk.block b hb hbr]
    refine hφ _ _ (fun b off u hu => ?_) h3
    by_cases hbr : b = g
    · subst hbr
      rw [cell_set hs2 off hob] at hu
      exact absurd hu (hns _ _)
    · exact (World.cell?_of_block (a := ⟨b, off, none⟩) (World.putObj_heap_other (o := ob) hbr).symm).trans hu
  · exact h.shift ⟨hk.size, fun b hb _ => hk.block b hb (by omega)⟩ (fun _ _ h => h) W2 k
theorem elems_keepS {L : List Rg} {cells : List Value} : ∀ a b, KeepsS a b → Elems 4 (RgR a) L cells → Elems 4 (RgR b) L cells :=
  fun _ _ k h => h.mono fun _ _ ⟨vb, vl, vr, e, h1, h2, h3⟩ => ⟨vb, vl, vr, e, h1.keepS k, h2.keepS k, h3.keepS k⟩
theorem strs_keepS {v : Value} {xs : List ByteArray} : ∀ a b, KeepsS a b → Strs a v xs → Strs b v xs := fun _ _ k h => h.keepS k
theorem CRow.put {W : World} {B : Nat} {v : Value} {L : List Rg} {r : Nat} {o o' : Obj} (h : CRow W B v L) (hr : W.heap[r]? = some o) (ho : o.isCells = false) : CRow (W.putObj r o') B v L := by
  have hns : ∀ off s, W.cell? ⟨r, off, none⟩ ≠ some (.string s) := fun off s e => by rw [cell_none hr ho] at e; cases e
  have hk : Agree (fun b => b = r) W (W.putObj r o') := ⟨by simp, fun b _ hn => World.putObj_heap_other hn⟩
  obtain ⟨cells, h1, h2⟩ := h
  refine ⟨cells, ownsRow_putObj h1 _ hr ho, ?_⟩
  rcases h2 with ⟨h2, h3⟩ | ⟨D, ls, vl, c0, e1, e2, ⟨vs, h3, h5⟩, h4⟩
  · exact .inl ⟨h2, h3.other elems_keepS hns hk⟩
  · exact .inr ⟨D, ls, vl, c0, e1, e2, ⟨vs, ownsRow_putObj h3 _ hr ho, h5⟩, h4.other elems_keepS hns hk⟩
theorem blk_ns {W : World} {g : Nat} {t : TypeId} {cs : Array Value} (hb : Blk W g t cs) (hns : ∀ (o : Nat) s, cs[o]? ≠ some (.string s)) : ∀ o s, W.cell? ⟨g, o, none⟩ ≠ some (.string s) := fun o s e => by
  rw [cell_of_row W g o cs t (0, 0) hb] at e; exact hns o s e
theorem CRow.box {W : World} {B : Nat} {v : Value} {L : List Rg} {g o : Nat} {t : TypeId} {cs : Array Value} {u : Value} (h : CRow W B v L) (hb : Blk W g t cs) (ht : t ≠ 58) (ht2 : t ≠ 9) (hns : ∀ (o : Nat) s, cs[o]? ≠ some (.string s)) :
    CRow (W.setCell ⟨g, o, none⟩ u) B v L := by
  have hk := Agree.set1 W g o u
  have hn := blk_ns hb hns
  obtain ⟨cells, h1, h2⟩ := h
  refine ⟨cells, own_stab (M := fun b => b = g) h1 (fun b hv e => own_ne_type h1 hb (Ne.symm ht) (e ▸ hv)) _ hk, ?_⟩
  rcases h2 with ⟨h2, h3⟩ | ⟨D, ls, vl, c0, e1, e2, h3, h4⟩
  · exact .inl ⟨h2, h3.other elems_keepS hn hk⟩
  · refine .inr ⟨D, ls, vl, c0, e1, e2, ?_, h4.other elems_keepS hn hk⟩
    obtain ⟨vs, o1, o2⟩ := id h3
    exact h3.stab (M := fun b => b = g) (fun b hv e => own_ne_type o1 hb (Ne.symm ht2) (e ▸ hv)) _ hk

/-- What the loop of Merge has made: regions, behind boxes. -/
def MgI (w : World) (g : Nat) (va vb vc : Value) (a b c : List ByteArray) (xs : List (Nat × Nat × Nat)) (full : List Rg) (pre : List (Nat × Nat × Nat)) (W : World) : Prop :=
  ∃ (i j k : Nat) (L : List Rg) (v : Value), Blk W g 36 #[va] ∧ Blk W (g + 1) 36 #[vb] ∧ Blk W (g + 1 + 1) 36 #[vc] ∧ Blk W (g + 1 + 1 + 1) 24 #[v] ∧
    Blk W (g + 1 + 1 + 1 + 1) 59 #[.int .i64 i, .int .i64 j, .int .i64 k] ∧ CRow W g v L ∧ (Far W g fun w' => Strs w' va a) ∧ (Far W g fun w' => Strs w' vb b) ∧ (Far W g fun w' => Strs w' vc c) ∧ Below w.heap.size w W ∧ RgB (3000 * pre.length) L ∧
    Hid (∀ rest, xs = pre ++ rest → full = mgK a b c rest i j k L ∧ incK a.length b.length c.length i j k rest)
section
variable {w W W' : World} {g : Nat} {va vb vc : Value} {a b c : List ByteArray} {xs pre : List (Nat × Nat × Nat)} {full : List Rg}
theorem MgI.below (h : MgI w g va vb vc a b c xs full pre W) (k : Below W.heap.size W W') : MgI w g va vb vc a b c xs full pre W' := by
  obtain ⟨i, j, k', L, v, h1, h2, h3, h4, h5, h6, h7, h8, h9, h10, h11, h12⟩ := h
  have hg := h1.lt
  exact ⟨i, j, k', L, v, h1.keep k, h2.keep k, h3.keep k, h4.keep k, h5.keep k, h6.below k, h7.below (k.mono (by omega)), h8.below (k.mono (by omega)), h9.below (k.mono (by omega)), h10.trans (k.mono h10.size), h11, h12⟩
theorem MgI.put {r : Nat} {o o' : Obj} (h : MgI w g va vb vc a b c xs full pre W) (hr : W.heap[r]? = some o) (ho : o.isCells = false) (hlt : w.heap.size ≤ r) : MgI w g va vb vc a b c xs full pre (W.putObj r o') := by
  obtain ⟨i, j, k', L, v, h1, h2, h3, h4, h5, h6, h7, h8, h9, h10, h11, h12⟩ := h
  have hns : ∀ off s, W.cell? ⟨r, off, none⟩ ≠ some (.string s) := fun off s e => by rw [cell_none hr ho] at e; cases e
  have hk : Agree (fun b => b = r) W (W.putObj r o') := ⟨by simp, fun b _ hn => World.putObj_heap_other hn⟩
  exact ⟨i, j, k', L, v, KeepT.put hr ho _ _ h1, KeepT.put hr ho _ _ h2, KeepT.put hr ho _ _ h3, KeepT.put hr ho _ _ h4, KeepT.put hr ho _ _ h5, h6.put hr ho, h7.other strs_keepS hns hk, h8.other strs_keepS hns hk, h9.other strs_keepS hns hk,
    h10.grown (grownBy_putObj' W r o') h10.size (fun k e => by cases e; omega), h11, h12⟩
end

/-- The boxes of Merge in a round. -/
structure MgB (w W : World) (g gx : Nat) (va vb vc : Value) (a b c : List ByteArray) (i j k : Int) (n p q : Int) (vr : Value) : Prop where
  h1 : Blk W g 36 #[va]
  h2 : Blk W (g + 1) 36 #[vb]
  h3 : Blk W (g + 1 + 1) 36 #[vc]
  h4 : Blk W (g + 1 + 1 + 1) 24 #[vr]
  h5 : Blk W (g + 1 + 1 + 1 + 1) 59 #[.int .i64 i, .int .i64 j, .int .i64 k]
  hx : Blk W gx 59 #[.int .i64 n, .int .i64 p, .int .i64 q]
  fa : Far W g fun w' => Strs w' va a
  fb : Far W g fun w' => Strs w' vb b
  fc : Far W g fun w' => Strs w' vc c
  bel : Below w.heap.size w W
  hg : w.heap.size ≤ g
  ne : gx ≠ g + 1 + 1 + 1 + 1
theorem KeepT.box {W : World} {g o : Nat} {t t' : TypeId} {cs : Array Value} (hb : Blk W g t cs) (ht : t ≠ t') (u : Value) : KeepT t' W (W.setCell ⟨g, o, none⟩ u) :=
  fun g' cs' x => x.far (p := ⟨g, o, none⟩) (fun e => hb.ne_type x ht e.symm) u
section
variable {w W W' : World} {g gx : Nat} {va vb vc vr : Value} {a b c : List ByteArray} {i j k n p q : Int}
theorem MgB.call (h : MgB w W g gx va vb vc a b c i j k n p q vr) (hb : Below g W W') (hf : FrX W W') : MgB w W' g gx va vb vc a b c i j k n p q vr :=
  ⟨hf.keep _ _ _ (by decide) (by decide) h.h1, hf.keep _ _ _ (by decide) (by decide) h.h2, hf.keep _ _ _ (by decide) (by decide) h.h3, hf.keep _ _ _ (by decide) (by decide) h.h4, hf.keep _ _ _ (by decide) (by decide) h.h5, hf.keep _ _ _ (by decide) (by decide) h.hx,
    h.fa.below hb, h.fb.below hb, h.fc.below hb, h.bel.trans (hb.mono h.hg), h.hg, h.ne⟩
theorem MgB.drew (h : MgB w W g gx va vb vc a b c i j k n p q vr) : MgB w W.drew g gx va vb vc a b c i j k n p q vr := h.call (Below.refl _ _).drew (FrX.of_below (Below.refl _ _).drew)
theorem MgB.putR (h : MgB w W g gx va vb vc a b c i j k n p q vr) (u : Value) : MgB w (W.setCell ⟨g + 1 + 1 + 1, 0, none⟩ u) g gx va vb vc a b c i j k n p q u := by
  have hk : Below g W (W.setCell ⟨g + 1 + 1 + 1, 0, none⟩ u) := (Below.refl _ _).setCell (p := ⟨g + 1 + 1 + 1, 0, none⟩) (by simp <;> omega) u
  exact ⟨h.h1.far (p := ⟨_, 0, none⟩) (by simp <;> omega) u, h.h2.far (p := ⟨_, 0, none⟩) (by simp <;> omega) u, h.h3.far (p := ⟨_, 0, none⟩) (by simp <;> omega) u, h.h4.set 0 u, h.h5.far (p := ⟨_, 0, none⟩) (by simp <;> omega) u, h.hx.far (p := ⟨_, 0, none⟩) (fun e => h.h4.ne_type h.hx (by decide) e.symm) u,
    h.fa.below hk, h.fb.below hk, h.fc.below hk, h.bel.trans (hk.mono h.hg), h.hg, h.ne⟩
theorem MgB.putA (h : MgB w W g gx va vb vc a b c i j k n p q vr) (i' j' k' : Int) :
    MgB w (((W.setCell ⟨g + 1 + 1 + 1 + 1, 0, none⟩ (.int .i64 i')).setCell ⟨g + 1 + 1 + 1 + 1, 1, none⟩ (.int .i64 j')).setCell ⟨g + 1 + 1 + 1 + 1, 2, none⟩ (.int .i64 k')) g gx va vb vc a b c i' j' k' n p q vr := by
  have key : ∀ (W : World) (o : Nat) (u : Value), Blk W g 36 #[va] ∧ Blk W (g + 1) 36 #[vb] ∧ Blk W (g + 1 + 1) 36 #[vc] ∧ Blk W (g + 1 + 1 + 1) 24 #[vr] ∧ Blk W gx 59 #[.int .i64 n, .int .i64 p, .int .i64 q] →
      Blk (W.setCell ⟨g + 1 + 1 + 1 + 1, o, none⟩ u) g 36 #[va] ∧ Blk (W.setCell ⟨g + 1 + 1 + 1 + 1, o, none⟩ u) (g + 1) 36 #[vb] ∧ Blk (W.setCell ⟨g + 1 + 1 + 1 + 1, o, none⟩ u) (g + 1 + 1) 36 #[vc] ∧ Blk (W.setCell ⟨g + 1 + 1 + 1 + 1, o, none⟩ u) (g + 1 + 1 + 1) 24 #[vr] ∧ Blk (W.setCell ⟨g + 1 + 1 + 1 + 1, o, none⟩ u) gx 59 #[.int .i64 n, .int .i64 p, .int .i64 q] :=
    fun W o u ⟨a1, a2, a3, a4, a5⟩ => ⟨a1.far (p := ⟨_, o, none⟩) (by simp <;> omega) u, a2.far (p := ⟨_, o, none⟩) (by simp <;> omega) u, a3.far (p := ⟨_, o, none⟩) (by simp <;> omega) u, a4.far (p := ⟨_, o, none⟩) (by simp <;> omega) u, a5.far (p := ⟨_, o, none⟩) h.ne u⟩
  obtain ⟨r1, r2, r3, r4, r5⟩ := key _ 2  (.int .i64 k') (key _ 1  (.int .i64 j') (key _ 0  (.int .i64 i') ⟨h.h1, h.h2, h.h3, h.h4, h.hx⟩))
  have hk : Below g W (((W.setCell ⟨g + 1 + 1 + 1 + 1, 0, none⟩ (.int .i64 i')).setCell ⟨g + 1 + 1 + 1 + 1, 1, none⟩ (.int .i64 j')).setCell ⟨g + 1 + 1 + 1 + 1, 2, none⟩ (.int .i64 k')) :=
    (((Below.refl _ _).setCell (p := ⟨_, 0, none⟩) (by simp <;> omega) _).setCell (p := ⟨_, 1, none⟩) (by simp <;> omega) _).setCell (p := ⟨_, 2, none⟩) (by simp <;> omega) _
  exact ⟨r1, r2, r3, r4, ((h.h5.set 0 _).set 1 _).set 2 _, r5, h.fa.below hk, h.fb.below hk, h.fc.below hk, h.bel.trans (hk.mono h.hg), h.hg, h.ne⟩
theorem MgB.cells (h : MgB w W g gx va vb vc a b c i j k n p q vr) : W.cell? ⟨g, 0, none⟩ = some va ∧ W.cell? ⟨g + 1, 0, none⟩ = some vb ∧ W.cell? ⟨g + 1 + 1, 0, none⟩ = some vc ∧ W.cell? ⟨g + 1 + 1 + 1, 0, none⟩ = some vr ∧
    W.cell? ⟨g + 1 + 1 + 1 + 1, 0, none⟩ = some (.int .i64 i) ∧ W.cell? ⟨g + 1 + 1 + 1 + 1, 1, none⟩ = some (.int .i64 j) ∧ W.cell? ⟨g + 1 + 1 + 1 + 1, 2, none⟩ = some (.int .i64 k) ∧
    W.cell? ⟨gx, 0, none⟩ = some (.int .i64 n) ∧ W.cell? ⟨gx, 1, none⟩ = some (.int .i64 p) ∧ W.cell? ⟨gx, 2, none⟩ = some (.int .i64 q) ∧
    W.frozen? ⟨g + 1 + 1 + 1, 0, none⟩ = false ∧ W.frozen? ⟨g + 1 + 1 + 1 + 1, 0, none⟩ = false ∧ W.frozen? ⟨g + 1 + 1 + 1 + 1, 1, none⟩ = false ∧ W.frozen? ⟨g + 1 + 1 + 1 + 1, 2, none⟩ = false :=
  ⟨h.h1.cell rfl, h.h2.cell rfl, h.h3.cell rfl, h.h4.cell rfl, h.h5.cell rfl, h.h5.cell rfl, h.h5.cell rfl, h.hx.cell rfl, h.hx.cell rfl, h.hx.cell rfl, h.h4.frozen _, h.h5.frozen _, h.h5.frozen _, h.h5.frozen _⟩
theorem one_ns {v : Value} (hv : ∀ s, v ≠ .string s) : ∀ (o : Nat) s, (#[v] : Array Value)[o]? ≠ some (.string s) := by
  intro o s e
  cases o with
  | zero => simp at e; exact hv _ e
  | succ o => simp at e
theorem int3_ns {x y z : Int} : ∀ (o : Nat) s, (#[.int .i64 x, .int .i64 y, .int .i64 z] : Array Value)[o]? ≠ some (.string s) := by
  intro o s e
  rcases o with _ | _ | _ | o <;> simp at e
theorem MgB.rowR (h : MgB w W g gx va vb vc a b c i j k n p q vr) (hv : ∀ s, vr ≠ .string s) {B : Nat} {v : Value} {L : List Rg} (hr : CRow W B v L) (u : Value) : CRow (W.setCell ⟨g + 1 + 1 + 1, 0, none⟩ u) B v L :=
  hr.box h.h4 (by decide) (by decide) (one_ns hv)
theorem MgB.rowA (h : MgB w W g gx va vb vc a b c i j k n p q vr) (i' j' k' : Int) {B : Nat} {v : Value} {L : List Rg} (hr : CRow W B v L) :
    CRow (((W.setCell ⟨g + 1 + 1 + 1 + 1, 0, none⟩ (.int .i64 i')).setCell ⟨g + 1 + 1 + 1 + 1, 1, none⟩ (.int .i64 j')).setCell ⟨g + 1 + 1 + 1 + 1, 2, none⟩ (.int .i64 k')) B v L :=
  ((hr.box h.h5 (by decide) (by decide) int3_ns).box (h.h5.set 0 (.int .i64 i')) (by decide) (by decide) int3_ns).box ((h.h5.set 0 (.int .i64 i')).set 1 (.int .i64 j')) (by decide) (by decide) int3_ns
theorem MgB.othA (h : MgB w W g gx va vb vc a b c i j k n p q vr) (i' j' k' : Int) :
    KeepsOthers W (((W.setCell ⟨g + 1 + 1 + 1 + 1, 0, none⟩ (.int .i64 i')).setCell ⟨g + 1 + 1 + 1 + 1, 1, none⟩ (.int .i64 j')).setCell ⟨g + 1 + 1 + 1 + 1, 2, none⟩ (.int .i64 k')) ∧
    KeepT 3 W (((W.setCell ⟨g + 1 + 1 + 1 + 1, 0, none⟩ (.int .i64 i')).setCell ⟨g + 1 + 1 + 1 + 1, 1, none⟩ (.int .i64 j')).setCell ⟨g + 1 + 1 + 1 + 1, 2, none⟩ (.int .i64 k')) :=
  ⟨((KeepsOthers.setCell _ _ _).trans (KeepsOthers.setCell _ _ _)).trans (KeepsOthers.setCell _ _ _),
   ((KeepT.box h.h5 (by decide) _).trans (KeepT.box (h.h5.set 0 (.int .i64 i')) (by decide) _)).trans (KeepT.box ((h.h5.set 0 (.int .i64 i')).set 1 (.int .i64 j')) (by decide) _)⟩
end

theorem kept_len : ∀ (X Y : List Int) (n : Nat), (keptF n X Y).length ≤ X.length
  | [], Y, n => by cases Y <;> simp [keptF]
  | x :: X, [], n => by simp [keptF]
  | x :: X, y :: Y, n => by
    have h := kept_len X Y (n + 1)
    by_cases hx : x < 0 ∨ y < 0
    · rw [kept_skip hx, List.length_cons]; omega
    · have e : keptF n (x :: X) (y :: Y) = (n, x.toNat, y.toNat) :: keptF (n + 1) X Y := if_neg hx
      rw [e, List.length_cons, List.length_cons]; omega
theorem lns2_any (s : ByteArray) (hs : s.size ≤ 1000000000) (w : World) : Calls Try.prog 35 #[.string s] w fun e w' => ∃ v, e = .returned v ∧ Ow w' w.heap.size 9 1 Str1 v (lns s) ∧ Below w.heap.size w w' :=
  (lines_any s hs w).mono fun _ _ ⟨v, h1, h2, h3⟩ => ⟨v, h1, lns_own h2, h3⟩
set_option maxHeartbeats 1000000 in
theorem kept_any (va vb vc : Value) (A B C : Option Addr) (n c n' c' n'' c'' : Nat) (ha : va = .slice A n c) (hb : vb = .slice B n' c') (hc : vc = .slice C n'' c'') (w : World) :
    Calls Try.prog 36 #[va, vb, vc] w fun e w' => e = .returned (.func (.func 58) #[] #[.pointer (some ⟨w.heap.size, 0, none⟩), .pointer (some ⟨w.heap.size + 1, 0, none⟩), .pointer (some ⟨w.heap.size + 2, 0, none⟩)]) ∧
      w' = ((w.alloc (.cells #[va] 36)).alloc (.cells #[vb] 36)).alloc (.cells #[vc] 36) := by
  subst ha hb hc
  go_enter Try.func36, Try.ntmps36
  go_wp2
  go_ret
  exact ⟨rfl, rfl⟩

set_option maxRecDepth 100000 in
set_option maxHeartbeats 2000000 in
theorem merge_gen (base left right : ByteArray) (hb0 : base.size ≤ 65536) (hl0 : left.size ≤ 65536) (hr0 : right.size ≤ 65536) (a b c : List ByteArray) (full : List Rg) (ea : lns base = a) (eb : lns left = b) (ec : lns right = c) (ef : mergeL a b c = full)
    (ha1 : a.length ≤ 100) (hb1 : b.length ≤ 100) (hc1 : c.length ≤ 100) (w : World) :
    Calls Try.prog 14 #[.string base, .string left, .string right] w fun e w' => ∃ v, e = .returned (.tuple #[v, .int .i64 0]) ∧ Rgs w' v full ∧ Below w.heap.size w w' := by
  obtain ⟨i0, hi, hz0, hz1, hz2⟩ := info_parts Try.info_str
  have hd1 : decide ((65536 : Int) < (base.size : Int)) = false := by simp; omega
  have hd2 : decide ((65536 : Int) < (left.size : Int)) = false := by simp; omega
  have hd3 : decide ((65536 : Int) < (right.size : Int)) = false := by simp; omega
  have c1 := lns2_any base (by omega)
  have c2 := lns2_any left (by omega)
  have c3 := lns2_any right (by omega)
  simp only [ea] at c1
  simp only [eb] at c2
  simp only [ec] at c3
  have C1 := Lib.hid c1
  have C2 := Lib.hid c2
  have C3 := Lib.hid c3
  have EF := Lib.hid ef
  clear c1 c2 c3 ea eb ec ef
  refine (callsIn_wide (n := 3)).1 ?_
  refine callsIn_of_wp_marks Try.func14 rfl trivial ?_ rfl
  simp only [Try.ntmps14, List.size_toArray, List.length_cons, List.length_nil, Nat.reduceAdd, Nat.reduceSub, Array.replicate_succ, Array.replicate_zero, List.push_toArray, List.append_toArray, List.nil_append, List.cons_append]
  gi_wp2_with fail
  refine ⟨trivial, ?_⟩
  refine (callsIn_wide.2 (C1.out w)).mono ?_
  rintro e w1 ⟨va, rfl, oa, k1⟩
  gi_wp2_with fail
  refine ⟨trivial, ?_⟩
  refine (callsIn_wide.2 (C2.out w1)).mono ?_
  rintro e w2 ⟨vb, rfl, ob, k2⟩
  gi_wp2_with fail
  refine ⟨trivial, ?_⟩
  refine (callsIn_wide.2 (C3.out w2)).mono ?_
  rintro e w3 ⟨vc, rfl, oc, k3⟩
  have sa := (Strs.keep oa.sl (Keeps.of_below k2)).keep (Keeps.of_below k3)
  have sb := Strs.keep ob.sl (Keeps.of_below k3)
  have sc : Strs w3 vc c := oc.sl
  have kk3 := k1.trans ((k2.mono k1.size).trans (k3.mono (by have := k1.size; have := k2.size; omega)))
  obtain ⟨Aa, ca, rfl, a1, a2⟩ := sa.form
  obtain ⟨Ab, cb, rfl, b1, b2⟩ := sb.form
  obtain ⟨Ac, cc, rfl, e1, e2⟩ := sc.form
  clear C1 C2 C3 k1 k2 k3 oa ob oc
  gi_wp2_with fail
  refine ⟨trivial, ?_⟩
  refine (callsIn_wide.2 (kept_any _ _ _ _ _ _ _ _ _ _ _ _ rfl rfl rfl _)).mono ?_
  rintro e w' ⟨rfl, rfl⟩
  gi_wp2_with fail
  have HM : Hid (full = mgI a b c ((plcL a b).zip (plcL a c)) 0 0 0 0 []) := EF.out.symm
  have HI : Hid (incK a.length b.length c.length 0 0 0 (keptF 0 (plcL a b) (plcL a c))) :=
    incK_kept _ _ 0 0 0 0 _ (Nat.le_refl _) (by rw [plcL_len]; omega) (plcL_inc _ _) (plcL_inc _ _)
  clear EF
  have b8 : Below w3.heap.size w3 ((((((((w3.alloc (.cells #[.slice Aa a.length ca] 36)).alloc (.cells #[.slice Ab b.length cb] 36)).alloc (.cells #[.slice Ac c.length cc] 36)).alloc (.cells #[.slice none 0 0] 24)).alloc (.cells #[.int .i64 0, .int .i64 0, .int .i64 0] 59)).alloc (.cells #[.slice Aa a.length ca] 36)).alloc (.cells #[.slice Ab b.length cb] 36)).alloc (.cells #[.slice Ac c.length cc] 36)) :=
    ((((((((Below.refl _ _).alloc (by simp <;> omega) _).alloc (by simp <;> omega) _).alloc (by simp <;> omega) _).alloc (by simp <;> omega) _).alloc (by simp <;> omega) _).alloc (by simp <;> omega) _).alloc (by simp <;> omega) _).alloc (by simp <;> omega) _
  have q0 := Blk.new w3 #[.slice Aa a.length ca] 36
  generalize hv0 : w3.alloc (.cells #[.slice Aa a.length ca] 36) = v0 at *
  have z0 : v0.heap.size = w3.heap.size + 1 := by rw [← hv0]; simp
  have q1 := Blk.new v0 #[.slice Ab b.length cb] 36
  have q0 := q0.alloc (.cells #[.slice Ab b.length cb] 36)
  generalize hv1 : v0.alloc (.cells #[.slice Ab b.length cb] 36) = v1 at *
  have z1 : v1.heap.size = w3.heap.size + 1 + 1 := by rw [← hv1]; simp [z0]
  have q2 := Blk.new v1 #[.slice Ac c.length cc] 36
  have q0 := q0.alloc (.cells #[.slice Ac c.length cc] 36)
  have q1 := q1.alloc (.cells #[.slice Ac c.length cc] 36)
  generalize hv2 : v1.alloc (.cells #[.slice Ac c.length cc] 36) = v2 at *
  have z2 : v2.heap.size = w3.heap.size + 1 + 1 + 1 := by rw [← hv2]; simp [z1]
  have q3 := Blk.new v2 #[.slice none 0 0] 24
  have q0 := q0.alloc (.cells #[.slice none 0 0] 24)
  have q1 := q1.alloc (.cells #[.slice none 0 0] 24)
  have q2 := q2.alloc (.cells #[.slice none 0 0] 24)
  generalize hv3 : v2.alloc (.cells #[.slice none 0 0] 24) = v3 at *
  have z3 : v3.heap.size = w3.heap.size + 1 + 1 + 1 + 1 := by rw [← hv3]; simp [z2]
  have q4 := Blk.new v3 #[.int .i64 0, .int .i64 0, .int .i64 0] 59
  have q0 := q0.alloc (.cells #[.int .i64 0, .int .i64 0, .int .i64 0] 59)
  have q1 := q1.alloc (.cells #[.int .i64 0, .int .i64 0, .int .i64 0] 59)
  have q2 := q2.alloc (.cells #[.int .i64 0, .int .i64 0, .int .i64 0] 59)
  have q3 := q3.alloc (.cells #[.int .i64 0, .int .i64 0, .int .i64 0] 59)
  generalize hv4 : v3.alloc (.cells #[.int .i64 0, .int .i64 0, .int .i64 0] 59) = v4 at *
  have z4 : v4.heap.size = w3.heap.size + 1 + 1 + 1 + 1 + 1 := by rw [← hv4]; simp [z3]
  have b47 : Below v4.heap.size v4 (((v4.alloc (.cells #[.slice Aa a.length ca] 36)).alloc (.cells #[.slice Ab b.length cb] 36)).alloc (.cells #[.slice Ac c.length cc] 36)) :=
    (((Below.refl _ _).alloc (by simp <;> omega) _).alloc (by simp <;> omega) _).alloc (by simp <;> omega) _
  have x5 := ((Blk.new v4 #[.slice Aa a.length ca] 36).alloc (.cells #[.slice Ab b.length cb] 36)).alloc (.cells #[.slice Ac c.length cc] 36)
  have x6 := (Blk.new (v4.alloc (.cells #[.slice Aa a.length ca] 36)) #[.slice Ab b.length cb] 36).alloc (.cells #[.slice Ac c.length cc] 36)
  have x7 := Blk.new ((v4.alloc (.cells #[.slice Aa a.length ca] 36)).alloc (.cells #[.slice Ab b.length cb] 36)) #[.slice Ac c.length cc] 36
  simp only [World.size_alloc] at x6 x7
  have q0 := q0.keep b47
  have q1 := q1.keep b47
  have q2 := q2.keep b47
  have q3 := q3.keep b47
  have q4 := q4.keep b47
  rw [z0] at q1
  rw [z1] at q2
  rw [z2] at q3
  rw [z3] at q4
  rw [z4] at x5 x6 x7
  generalize ((v4.alloc (.cells #[.slice Aa a.length ca] 36)).alloc (.cells #[.slice Ab b.length cb] 36)).alloc (.cells #[.slice Ac c.length cc] 36) = W0 at *
  have fa := (far_strs sa).below b8
  have fb := (far_strs sb).below b8
  have fc := (far_strs sc).below b8
  have hbw := kk3.trans (b8.mono kk3.size)
  have hgs := kk3.size
  have hI0 : MgI w w3.heap.size (.slice Aa a.length ca) (.slice Ab b.length cb) (.slice Ac c.length cc) a b c (keptF 0 (plcL a b) (plcL a c)) full [] W0 :=
    ⟨0, 0, 0, [], _, q0, q1, q2, q3, q4, CRow.nil _ _, fa, fb, fc, hbw, RgB.nil, fun rest hr => by
      rw [List.nil_append] at hr
      subst hr
      exact ⟨by rw [HM.out, mgK_eq], HI.out⟩⟩
  have hs0 : w3.heap.size + 1 + 1 + 1 + 1 < W0.heap.size := q4.lt
  clear hv0 hv1 hv2 hv3 hv4 z0 z1 z2 z3 z4 q0 q1 q2 q3 q4 b47 b8 hbw HM HI
  generalize hg3 : w3.heap.size = g at *
  have hlK : (keptF 0 (plcL a b) (plcL a c)).length ≤ 100 := by
    have h1 := kept_len (plcL a b) (plcL a c) 0
    rw [plcL_len] at h1
    omega
  refine wp_range_far (α := Nat × Nat × Nat) (gf := 58) (lb := #[.pointer (some ⟨g + 1 + 1 + 1 + 1 + 1, 0, none⟩), .pointer (some ⟨g + 1 + 1 + 1 + 1 + 1 + 1, 0, none⟩), .pointer (some ⟨g + 1 + 1 + 1 + 1 + 1 + 2, 0, none⟩)]) rfl
    (enters_of Try.func58 (by kernel_rfl) rfl) enc3 rfl (fun pre x => ∃ rest, keptF 0 (plcL a b) (plcL a c) = pre ++ x :: rest) (keptF 0 (plcL a b) (plcL a c)) 3
    (MgI w g (.slice Aa a.length ca) (.slice Ab b.length cb) (.slice Ac c.length cc) a b c (keptF 0 (plcL a b) (plcL a c)) full) (fun pre W W' k h => h.below k) (fun pre W r o o' hr h h1 h2 => h.put h1 h2 (by omega)) hI0
    (fun l J hJ hY W hB hJ0 => kept1_in _ l _ (by omega) J hJ _ _ _ a b c W ((fa.now).keep (Keeps.of_below hB)) ((fb.now).keep (Keeps.of_below hB)) ((fc.now).keep (Keeps.of_below hB)) (by omega) (by omega) (by omega) ((x5.keep hB).cell rfl) ((x6.keep hB).cell rfl) ((x7.keep hB).cell rfl) hY hJ0)
    (fun x W => W.alloc (.cells #[.int .i64 x.1, .int .i64 x.2.1, .int .i64 x.2.2] 59)) (fun x W => (Below.refl _ _).alloc (Nat.le_refl _) _)
    (fun x W => { tmps := #[.string base, .string left, .string right, undef, undef, undef, .slice none 0 0, .int .i64 0, .pointer (some ⟨g, 0, none⟩), .pointer (some ⟨g + 1, 0, none⟩), .pointer (some ⟨g + 1 + 1, 0, none⟩), .pointer (some ⟨g + 1 + 1 + 1, 0, none⟩), .pointer (some ⟨g + 1 + 1 + 1 + 1, 0, none⟩), .pointer (some ⟨W.heap.size, 0, none⟩), .string base, .int .i64 base.size, .bool false, .bool false, .string left, .int .i64 left.size, .bool false, .bool false, .bool false, .string right, .int .i64 right.size, .bool false, .bool false, .string base, .slice Aa a.length ca, .string left, .slice Ab b.length cb, .string right, .slice Ac c.length cc, .agg #[.int .i64 0, .int .i64 0, .int .i64 0], .slice Aa a.length ca, .slice Ab b.length cb, .slice Ac c.length cc, .func (.func 58) #[] #[.pointer (some ⟨g + 1 + 1 + 1 + 1 + 1, 0, none⟩), .pointer (some ⟨g + 1 + 1 + 1 + 1 + 1 + 1, 0, none⟩), .pointer (some ⟨g + 1 + 1 + 1 + 1 + 1 + 2, 0, none⟩)], .agg #[.int .i64 x.1, .int .i64 x.2.1, .int .i64 x.2.2], undef, undef, undef, undef, undef, undef, undef, undef, undef, undef, undef, undef, undef, undef, undef, undef, undef, undef, undef, undef, undef, undef, undef, undef, undef, undef, undef, undef, undef, undef, undef, undef, undef, undef, undef, undef, undef, undef, undef, undef, undef, undef, undef, undef, undef, undef, undef, undef, undef, undef, undef, undef, undef], defers := [] })
    ?assign ?body ?done
  case assign =>
    intro l x W K hK
    simp only [enc3]
    gi_wp2
    exact hK
  case body =>
    rintro l pre ⟨n, p, q⟩ W W' hWs ⟨r, o, o', hr, ho, hW'⟩ ⟨i, j, k, L, v, h1, h2, h3, h4, h5, h6, h7, h8, h9, h10, h11, h12⟩ ⟨rest, hrest⟩
    have hx : Blk W' W.heap.size 59 #[.int .i64 n, .int .i64 p, .int .i64 q] := by rw [hW']; exact KeepT.put hr ho _ _ (Blk.new W _ _)
    have hne : W.heap.size ≠ g + 1 + 1 + 1 + 1 := by omega
    clear hr ho hW' hWs
    generalize W.heap.size = gx at *
    obtain ⟨hm, i1, i2, j1, j2, k1, k2, hinc⟩ := h12.out _ hrest
    have HM2 : Hid (full = mgK a b c rest (n + 1) (p + 1) (q + 1) (addL (addG L ((a.drop i).take (n - i)) ((b.drop j).take (p - j)) ((c.drop k).take (q - k))) ((a.drop n).take 1))) := hm
    have HI := Lib.hid hinc
    have HR := Lib.hid hrest
    have hpl : pre.length < 100 := by rw [hrest] at hlK; simp at hlK; omega
    have hbx : MgB w W' g gx (.slice Aa a.length ca) (.slice Ab b.length cb) (.slice Ac c.length cc) a b c i j k n p q v := ⟨h1, h2, h3, h4, h5, hx, h7, h8, h9, h10, hgs, hne⟩
    have hsz : g ≤ W'.heap.size := by have := h1.lt; omega
    clear h1 h2 h3 h4 h5 hx h7 h8 h9 h10 h12 hm hinc hrest hne hI0 x5 x6 x7 fa fb fc sa sb sc
    obtain ⟨A1, d1, hs1, g1⟩ := run_at_both' (P := Try.prog) (R := Str1) 36 9 i0 Try.underlying36 hi hz1 (A := Aa) (n := a.length) (c := ca) a1 .i64 .i64 i n (by omega) (by omega)
    obtain ⟨A2, d2, hs2, g2⟩ := run_at_both' (P := Try.prog) (R := Str1) 36 9 i0 Try.underlying36 hi hz1 (A := Ab) (n := b.length) (c := cb) b1 .i64 .i64 j p (by omega) (by omega)
    obtain ⟨A3, d3, hs3, g3⟩ := run_at_both' (P := Try.prog) (R := Str1) 36 9 i0 Try.underlying36 hi hz1 (A := Ac) (n := c.length) (c := cc) e1 .i64 .i64 k q (by omega) (by omega)
    obtain ⟨A4, d4, hs4, g4⟩ := run_at_both' (P := Try.prog) (R := Str1) 36 9 i0 Try.underlying36 hi hz1 (A := Aa) (n := a.length) (c := ca) a1 .i64 .i64 n (n + 1) (by omega) (by omega)
    rw [show n + 1 - n = 1 by omega] at hs4 g4
    rw [show ((n + 1 : Nat) : Int) = (n : Int) + 1 from rfl] at hs4
    have hN2 := h11.addG ((a.drop i).take (n - i)) ((b.drop j).take (p - j)) ((c.drop k).take (q - k))
    have hN3 := (hN2.addL ((a.drop n).take 1)).mono (M := 3000 * (pre.length + 1)) (by simp only [List.length_take, List.length_drop]; omega)
    have hbd := hbx.drew
    have cg := addGap_any W'.drew g v _ _ _ L _ _ _ (h6.below ((Below.refl _ _).drew)) (by simp; omega) (g1 _ a hbd.fa.now) (g2 _ b hbd.fb.now) (g3 _ c hbd.fc.now) h11 (by omega) (by simp only [List.length_take, List.length_drop]; omega) (by simp only [List.length_take, List.length_drop]; omega) (by simp only [List.length_take, List.length_drop]; omega)
    have cag := fun w2 v2 (h : CRow w2 g v2 _) hB2 (hx : Far w2 g fun w' => Strs w' _ a) => addLines_any w2 g v2 _ _ _ h hB2 (g4 w2 a hx.now) hN2 (by simp only [List.length_take, List.length_drop]; omega) (by simp only [List.length_take, List.length_drop]; omega)
    have CG := Lib.hid cg
    have CAG := Lib.hid cag
    obtain ⟨Av, cv, rfl, _, _⟩ := h6.form
    obtain ⟨y1, y2, y3, y4, y5, y6, y7, y8, y9, y10, y11, y12, y13, y14⟩ := hbx.cells
    clear cg cag g1 g2 g3 g4 hN2 h6
    gi_wp2_with fail
    refine wpIn_region_still_tail (Wid.round l) 19 (by kernel_rfl) (by kernel_rfl) (by kernel_rfl) ?_
    simp only [List.take_succ_cons, List.take_zero, List.drop_succ_cons, List.drop_zero]
    repeat still_step
    refine wpStill_nil ?_
    gi_wp2_with fail
    refine ⟨trivial, ?_⟩
    refine ((Wid.round l).calls CG.out).mono ?_
    rintro e w2 ⟨v2, rfl, r2, hb2, hf2⟩
    have hb2 : Below g W' w2 := ⟨hb2.os, hb2.tape, hb2.output, hb2.size, hb2.block⟩
    have hf2 := (FrX.of_below (Below.refl W'.heap.size W').drew).trans hf2
    have hx2 := hbx.call hb2 hf2
    have ko2 := hf2.others
    have kt2 : KeepT 3 W' w2 := fun g cs x => hf2.keep g _ cs (by decide) (by decide) x
    have hsz2 := hb2.size
    obtain ⟨A5, d5, rfl, _, _⟩ := r2.form
    clear hs1 hs2 hs3 y1 y2 y3 y4 y5 y6 y7 y8 y9 y10 y11 y12 y13 y14 hbd CG hbx hf2
    obtain ⟨y1, y2, y3, y4, y5, y6, y7, y8, y9, y10, y11, y12, y13, y14⟩ := hx2.cells
    gi_wp2_with fail
    clear y1 y2 y3 y4 y5 y6 y7 y8 y9 y10 y11 y12 y13 y14
    have hx3 := hx2.putR (.slice A5 (addG L ((a.drop i).take (n - i)) ((b.drop j).take (p - j)) ((c.drop k).take (q - k))).length d5)
    have r3 := hx2.rowR (by intro s e; cases e) r2 (.slice A5 (addG L ((a.drop i).take (n - i)) ((b.drop j).take (p - j)) ((c.drop k).take (q - k))).length d5)
    have ko3 := ko2.trans (KeepsOthers.setCell w2 ⟨g + 1 + 1 + 1, 0, none⟩ (.slice A5 (addG L ((a.drop i).take (n - i)) ((b.drop j).take (p - j)) ((c.drop k).take (q - k))).length d5))
    have kt3 := kt2.trans (KeepT.box (o := 0) hx2.h4 (by decide) (.slice A5 (addG L ((a.drop i).take (n - i)) ((b.drop j).take (p - j)) ((c.drop k).take (q - k))).length d5))
    have hsz3 : g ≤ (w2.setCell ⟨g + 1 + 1 + 1, 0, none⟩ (.slice A5 (addG L ((a.drop i).take (n - i)) ((b.drop j).take (p - j)) ((c.drop k).take (q - k))).length d5)).heap.size := by simp [World.setCell]; omega
    clear hx2 r2 ko2 kt2 hsz2 hb2
    generalize w2.setCell ⟨g + 1 + 1 + 1, 0, none⟩ (.slice A5 (addG L ((a.drop i).take (n - i)) ((b.drop j).take (p - j)) ((c.drop k).take (q - k))).length d5) = w4 at *
    have CG2 := Lib.hid (CAG.out w4.drew _ (r3.below ((Below.refl _ _).drew)) (by simp; omega) hx3.drew.fa)
    obtain ⟨y1, y2, y3, y4, y5, y6, y7, y8, y9, y10, y11, y12, y13, y14⟩ := hx3.cells
    clear r3 CAG
    generalize addG L ((a.drop i).take (n - i)) ((b.drop j).take (p - j)) ((c.drop k).take (q - k)) = L1 at *
    gi_wp2_with fail
    have zn : IntKind.i64.wrap ((n : Int) + 1) = (n : Int) + 1 := i64w (by omega) (by omega)
    refine wpIn_region_still_tail (Wid.round l) 8 (by kernel_rfl) (by kernel_rfl) (by kernel_rfl) ?_
    simp only [List.take_succ_cons, List.take_zero, List.drop_succ_cons, List.drop_zero]
    repeat still_step
    refine wpStill_nil ?_
    gi_wp2_with fail
    refine ⟨trivial, ?_⟩
    refine ((Wid.round l).calls CG2.out).mono ?_
    rintro e w5 ⟨v5, rfl, r5, hb5, hf5⟩
    have hb5 : Below g w4 w5 := ⟨hb5.os, hb5.tape, hb5.output, hb5.size, hb5.block⟩
    have hf5 := (FrX.of_below (Below.refl w4.heap.size w4).drew).trans hf5
    have hx5 := hx3.call hb5 hf5
    have ko5 := ko3.trans hf5.others
    have kt5 : KeepT 3 W' w5 := kt3.trans fun g cs x => hf5.keep g _ cs (by decide) (by decide) x
    have hsz5 := hb5.size
    obtain ⟨A6, d6, rfl, _, _⟩ := r5.form
    clear zn hs4 y1 y2 y3 y4 y5 y6 y7 y8 y9 y10 y11 y12 y13 y14 CG2 hf5 hx3 ko3 kt3 hb5
    obtain ⟨y1, y2, y3, y4, y5, y6, y7, y8, y9, y10, y11, y12, y13, y14⟩ := hx5.cells
    generalize addL L1 ((a.drop n).take 1) = L2 at *
    have hx6 := hx5.putR (.slice A6 L2.length d6)
    have r6 := hx5.rowR (by intro s e; cases e) r5 (.slice A6 L2.length d6)
    have ko6 := ko5.trans (KeepsOthers.setCell w5 ⟨g + 1 + 1 + 1, 0, none⟩ (.slice A6 L2.length d6))
    have kt6 := kt5.trans (KeepT.box (o := 0) hx5.h4 (by decide) (.slice A6 L2.length d6))
    clear hx5 r5 ko5 kt5 hsz5
    gi_upto_region 10 with (fail)
    clear y1 y2 y3 y4 y5 y6 y7 y8 y9 y10 y11 y12 y13 y14
    generalize w5.setCell ⟨g + 1 + 1 + 1, 0, none⟩ (.slice A6 L2.length d6) = w6 at *
    obtain ⟨y1, y2, y3, y4, y5, y6, y7, y8, y9, y10, y11, y12, y13, y14⟩ := hx6.cells
    have hx7 := hx6.putA (n + 1) (p + 1) (q + 1)
    have r7 := hx6.rowA (n + 1) (p + 1) (q + 1) r6
    obtain ⟨ko7, kt7⟩ := hx6.othA (n + 1) (p + 1) (q + 1)
    have ko7 := ko6.trans ko7
    have kt7 := kt6.trans kt7
    have hp7 : p < 100 := by omega
    have hq7 : q < 100 := by omega
    clear hx6 r6 ko6 kt6
    gi_wp2
    refine ⟨ko7, kt7, n + 1, p + 1, q + 1, L2, _, hx7.h1, hx7.h2, hx7.h3, hx7.h4, hx7.h5, r7, hx7.fa, hx7.fb, hx7.fc, hx7.bel, by simpa using hN3, fun rest' hr => ?_⟩
    have e1 : rest' = rest := by
      have h := HR.out
      rw [hr, List.append_assoc] at h
      exact (List.cons.inj (List.append_cancel_left h)).2
    subst e1
    exact ⟨HM2.out, HI.out⟩
  case done =>
    rintro D W hD ⟨i, j, k, L, v, h1, h2, h3, h4, h5, h6, h7, h8, h9, h10, h11, h12⟩ hK
    obtain ⟨hm, i1, j1, k1⟩ := h12.out [] (List.append_nil _).symm
    have HM : Hid (full = addG L (a.drop i) (b.drop j) (c.drop k)) := hm
    have hsz : g ≤ W.heap.size := by have := h1.lt; omega
    obtain ⟨A1, d1, hs1, g1⟩ := run_at_from' (P := Try.prog) (R := Str1) 36 9 i0 Try.underlying36 hi hz1 (A := Aa) (n := a.length) (c := ca) a1 .i64 i (by omega)
    obtain ⟨A2, d2, hs2, g2⟩ := run_at_from' (P := Try.prog) (R := Str1) 36 9 i0 Try.underlying36 hi hz1 (A := Ab) (n := b.length) (c := cb) b1 .i64 j (by omega)
    obtain ⟨A3, d3, hs3, g3⟩ := run_at_from' (P := Try.prog) (R := Str1) 36 9 i0 Try.underlying36 hi hz1 (A := Ac) (n := c.length) (c := cc) e1 .i64 k (by omega)
    have hdk : ∀ {v : Value} {xs : List ByteArray}, (Far W g fun w' => Strs w' v xs) → Strs W.drew v xs := fun h => h.now.keep (Keeps.drew _)
    have cg := addGap_any W.drew g v _ _ _ L _ _ _ (h6.below ((Below.refl _ _).drew)) (by simp; omega) (g1 _ a (hdk h7)) (g2 _ b (hdk h8)) (g3 _ c (hdk h9)) h11 (by omega) (by simp only [List.length_drop]; omega) (by simp only [List.length_drop]; omega) (by simp only [List.length_drop]; omega)
    have CG := Lib.hid cg
    obtain ⟨Av, cv, rfl, _, _⟩ := h6.form
    have y1 := h1.cell (j := 0) rfl
    have y2 := h2.cell (j := 0) rfl
    have y3 := h3.cell (j := 0) rfl
    have y4 := h4.cell (j := 0) rfl
    have y5 := h5.cell (j := 0) rfl
    have y6 := h5.cell (j := 1) rfl
    have y7 := h5.cell (j := 2) rfl
    have hbw : Below w.heap.size w W.drew := h10.drew
    clear cg g1 g2 g3 h1 h2 h3 h4 h5 h6 h7 h8 h9 h10 h11 h12 hI0 x5 x6 x7 fa fb fc sa sb sc hm hdk
    gi_wp2_with fail
    refine wpIn_region_still_tail Wid.wide 13 (by kernel_rfl) (by kernel_rfl) (by kernel_rfl) ?_
    simp only [List.take_succ_cons, List.take_zero, List.drop_succ_cons, List.drop_zero]
    repeat still_step
    refine wpStill_nil ?_
    gi_wp2_with fail
    refine ⟨trivial, ?_⟩
    refine (Wid.wide.calls CG.out).mono ?_
    rintro e w2 ⟨v2, rfl, r2, hb2, hf2⟩
    have hK2 : w2.heap[D]? = some (.deferred (some [])) := hf2.others.same D _ hK rfl
    have hbw2 := hbw.trans (hb2.mono hgs)
    clear CG hs1 hs2 hs3 y1 y2 y3 y4 y5 y6 y7 hf2 hb2 hbw
    gi_wp2
    refine ⟨by simp, .inl ⟨_, _, rfl, run_takeDeferred hK2, ?_⟩⟩
    refine ⟨_, results_tmp2 rfl _ _ _, v2, rfl, ?_, hbw2.grown (grownBy_putObj' w2 D _) hbw2.size (fun k e => by cases e; have := kk3.size; omega)⟩
    rw [HM.out]
    exact (r2.put hK2 rfl).rgs

theorem merge_any (base left right : ByteArray) (hb0 : base.size ≤ 65536) (hl0 : left.size ≤ 65536) (hr0 : right.size ≤ 65536) (ha1 : (lns base).length ≤ 100) (hb1 : (lns left).length ≤ 100) (hc1 : (lns right).length ≤ 100) (w : World) :
    Calls Try.prog 14 #[.string base, .string left, .string right] w fun e w' => ∃ v, e = .returned (.tuple #[v, .int .i64 0]) ∧ Rgs w' v (mergeL (lns base) (lns left) (lns right)) ∧ Below w.heap.size w w' :=
  merge_gen base left right hb0 hl0 hr0 _ _ _ _ rfl rfl rfl rfl ha1 hb1 hc1 w
end Go.Proofs.Ythobbcafemkhbaa
