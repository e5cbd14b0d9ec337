/- delta: what join holds in memory; its closure that takes the waiting text. -/
import Derived.Test.YtiioebpmfjipeaaDeOps
import Derived.Test.YtiioebpmfjipeaaDeMem
import Derived.Test.YtiioebpmfjipeaaHold
import Derived.Test.YtiioebpmfjipeaaRangeOwn
import Derived.Deep.CutBlock
namespace Go.Proofs.Ytiioebpmfjipeaa
set_option linter.unusedVariables false
set_option linter.unusedSimpArgs false
open Go.RowKit

/-- The frame of join's pieces: what lies below H, and from h up to N, is as it was. -/
structure FrJ (H h N : Nat) (W W' : World) : Prop where
  bel : Below H W W'
  keep : ∀ b o, h ≤ b ∧ b < N → W.heap[b]? = some o → (∀ cs fz, o ≠ .cells cs 5 fz) → W'.heap[b]? = some o
  oth : KeepsOthers W W'
section
variable {H h N : Nat} {W W' W'' : World}
theorem FrJ.refl (W : World) : FrJ H h N W W := ⟨Below.refl _ _, fun _ _ _ h _ => h, KeepsOthers.refl _⟩
theorem FrJ.trans (x : FrJ H h N W W') (y : FrJ H h N W' W'') : FrJ H h N W W'' := ⟨x.bel.trans y.bel, fun b o hb hx ho => y.keep b o hb (x.keep b o hb hx ho) ho, x.oth.trans y.oth⟩
theorem FrJ.size (x : FrJ H h N W W') : W.heap.size ≤ W'.heap.size := x.bel.size
theorem FrJ.keepA (x : FrJ H h W.heap.size W W') (hH : H ≤ W.heap.size) : KeepA 5 H h W W' := ⟨x.size, fun b o hb hx ho => by
  have hlt := (Array.getElem?_eq_some_iff.1 hx).1
  rcases hb with hb | hb
  · exact (x.bel.block b hb).trans hx
  · exact x.keep b o ⟨hb, hlt⟩ hx ho, fun b o hb hx => (x.bel.block b hb).trans hx⟩
theorem KeepsOthers.of_below (k : Below W.heap.size W W') : KeepsOthers W W' := ⟨k.size, fun i o hi _ => (k.block i (Array.getElem?_eq_some_iff.1 hi).1).trans hi⟩
theorem FrJ.of_below (k : Below W.heap.size W W') (hH : H ≤ W.heap.size) : FrJ H h N W W' := ⟨k.mono hH, fun b o _ hx _ => (k.block b (Array.getElem?_eq_some_iff.1 hx).1).trans hx, KeepsOthers.of_below k⟩
theorem FrJ.set {b o : Nat} (h1 : H ≤ b) (h2 : b < h ∨ N ≤ b) (u : Value) : FrJ H h N W (W.setCell ⟨b, o, none⟩ u) :=
  ⟨(Below.refl H W).setCell (p := ⟨b, o, none⟩) h1 u, fun k x hk hx _ => (Below.heap_setCell W ⟨b, o, none⟩ u k (by simp only; omega)).trans hx, KeepsOthers.setCell W ⟨b, o, none⟩ u⟩
theorem FrJ.grown {row : Option Nat} (hg : W.grownBy W' row) (hH : H ≤ W.heap.size) (hr : ∀ g, row = some g → H ≤ g ∧ (g < h ∨ N ≤ g) ∧ ∃ cs t fz, W.heap[g]? = some (.cells cs t fz)) : FrJ H h N W W' := by
  refine ⟨(Below.refl H W).grown hg hH fun g hk => (hr g hk).1, fun b o hb hx _ => (hg.block b (Array.getElem?_eq_some_iff.1 hx).1 fun e => ?_).trans hx, ⟨hg.size, fun b o hx ho => (hg.block b (Array.getElem?_eq_some_iff.1 hx).1 fun e => ?_).trans hx⟩⟩
  · have := hr b e.symm; omega
  · obtain ⟨_, _, cs, t, fz, hc⟩ := hr b e.symm
    rw [hx] at hc
    cases hc
    cases ho
theorem FrJ.bld {l : List UInt8} (hb : Bld H (H + 1) l W) (k : Below H W W') (ko : Lib.OthersKept 5 (some (H + 1)) W W') (h2 : H + 1 < h) : FrJ H h N W W' := by
  have hc : ∃ cs t fz, W.heap[H + 1]? = some (.cells cs t fz) := by
    rcases hb with ⟨_, v, hv, _⟩ | ⟨_, v, hv, _⟩ <;> exact ⟨_, _, _, hv⟩
  refine ⟨k, fun b o hb hx ho => ?_, ⟨k.size, fun b o hx ho => ko b o hx (fun e => ?_) fun c fz e => ?_⟩⟩
  · exact ko b o hx (by intro e; injection e with e; omega) ho
  · injection e with e
    subst e
    obtain ⟨cs, t, fz, hc⟩ := hc
    rw [hx] at hc
    cases hc
    cases ho
  · subst e; cases ho
/-- A builder is kept where only other blocks are written. -/
theorem Bld.kept {B b : Nat} {l : List UInt8} {row : Option Nat} (hb : Bld B b l W) (hg : W.grownBy W' row) (hr : ∀ g, row = some g → g ≠ b ∧ ∃ cs t fz, W.heap[g]? = some (.cells cs t fz) ∧ t ≠ 5) : Bld B b l W' := by
  have go : ∀ p, Lib.BuilderAtF 57 5 B b p (Lib.byteCells l) W → Lib.BuilderAtF 57 5 B b p (Lib.byteCells l) W' := fun p ⟨h1, v, h2, h3, h4⟩ => by
    refine ⟨h1, v, (hg.block b (Array.getElem?_eq_some_iff.1 h2).1 fun e => (hr b e.symm).1 rfl).trans h2, h3.kept hg ?_, h4⟩
    rcases h3.2 with ⟨rfl, _⟩ | ⟨g, cap, cur, fz, rfl, _, hgg, _⟩
    · exact .inl rfl
    · refine .inr fun e => ?_
      obtain ⟨_, cs, t, fz', hc, ht⟩ := hr g e.symm
      rw [hgg] at hc
      injection hc with hc
      injection hc with _ hc
      exact ht hc.symm
  exact hb.imp (go _) (go _)
theorem grownBy_set (W : World) (b o : Nat) (u : Value) : W.grownBy (W.setCell ⟨b, o, none⟩ u) (some b) := ⟨rfl, rfl, rfl, by simp [World.setCell], fun k _ hk => Below.heap_setCell W ⟨b, o, none⟩ u k fun e => hk (by rw [e])⟩
theorem grownBy_below {W W' : World} (k : Below W.heap.size W W') : W.grownBy W' none := ⟨k.os, k.tape, k.output, k.size, fun i hi _ => k.block i hi⟩
theorem Bld.below {B b : Nat} {l : List UInt8} (hb : Bld B b l W) (k : Below W.heap.size W W') : Bld B b l W' := hb.kept (grownBy_below k) fun g e => (by cases e)
theorem Bld.lt {B b : Nat} {l : List UInt8} (hb : Bld B b l W) : b < W.heap.size := by
  rcases hb with h | h <;> exact h.lt
end

def flushV (H : Nat) : Value := .func (.func 63) #[] #[.pointer (some ⟨H + 1, 0, none⟩), .pointer (some ⟨H, 0, none⟩)]
/-- The list, the text that waits, the closure. -/
structure JRow (H h N : Nat) (v : Value) (l : List DOp) (W : World) : Prop where
  box : Blk W H 24 #[v]
  row : W.ownsRow H 28 3 v l.length (l.flatMap dC)
  low : ∀ g, v.ownBlock = some g → g < h ∨ N ≤ g
structure JSt (H h N : Nat) (v : Value) (l : List DOp) (t : List UInt8) (W : World) : Prop where
  row : JRow H h N v l W
  bld : Bld H (H + 1) t W
  flu : Blk W (H + 2) 1 #[flushV H]
  hh : H + 3 ≤ h
section
variable {H h N : Nat} {v : Value} {l : List DOp} {t : List UInt8} {W W' : World}
theorem JRow.below (x : JRow H h N v l W) (k : Below W.heap.size W W') : JRow H h N v l W' := ⟨x.box.keep k, own_stab (M := fun _ => False) x.row (fun _ _ h => h) _ (Agree.of_below k _), x.low⟩
theorem JSt.below (x : JSt H h N v l t W) (k : Below W.heap.size W W') : JSt H h N v l t W' := ⟨x.row.below k, x.bld.below k, x.flu.keep k, x.hh⟩
theorem JSt.fin {N' : Nat} (x : JSt H h N v l t W) (hh : h ≤ W.heap.size) : JSt H W.heap.size N' v l t W := ⟨⟨x.row.box, x.row.row, fun g e => .inl (x.row.row.lt g e).2⟩, x.bld, x.flu, by have := x.hh; omega⟩
theorem JSt.any {N' : Nat} (x : JSt H h W.heap.size v l t W) : JSt H h N' v l t W := ⟨⟨x.row.box, x.row.row, fun g e => by have := x.row.low g e; have := (x.row.row.lt g e).2; omega⟩, x.bld, x.flu, x.hh⟩
theorem JSt.mono {h' : Nat} (x : JSt H h W.heap.size v l t W) (hh : h ≤ h') : JSt H h' W.heap.size v l t W := ⟨⟨x.row.box, x.row.row, fun g e => by have := x.row.low g e; omega⟩, x.bld, x.flu, by have := x.hh; omega⟩
theorem Bld.blk {B b : Nat} (hb : Bld B b t W) : ∃ cs fz, W.heap[b]? = some (.cells cs 57 fz) := by
  rcases hb with ⟨_, v, hv, _⟩ | ⟨_, v, hv, _⟩ <;> exact ⟨_, _, hv⟩
theorem JRow.others (x : JRow H h N v l W) (hb : Bld H (H + 1) t W) (ko : Lib.OthersKept 5 (some (H + 1)) W W') : JRow H h N v l W' := by
  refine ⟨ko H _ x.box (fun e => by injection e with e; omega) (fun cs fz e => by injection e with _ e; exact absurd e (by decide)), ⟨x.row.1, ?_⟩, x.low⟩
  rcases x.row.2 with hn | ⟨g, cap, cur, rfl, hb', hg, rest⟩
  · exact .inl hn
  · refine .inr ⟨g, cap, cur, rfl, hb', ko g _ hg (fun e => ?_) (fun cs fz e => by injection e with _ e; exact absurd e (by decide)), rest⟩
    injection e with e
    obtain ⟨cs, fz, hc⟩ := hb.blk
    rw [← e, hg] at hc
    injection hc with hc
    injection hc with _ hc
    exact absurd hc (by decide)
/-- What a writing method of the builder leaves. -/
theorem JSt.built {t' : List UInt8} (x : JSt H h N v l t W) (hb : Bld H (H + 1) t' W') (k : Below H W W') (ko : Lib.OthersKept 5 (some (H + 1)) W W') : JSt H h N v l t' W' ∧ FrJ H h N W W' :=
  ⟨⟨x.row.others x.bld ko, hb, ko (H + 2) _ x.flu (fun e => by injection e with e; omega) (fun cs fz e => by injection e with _ e; exact absurd e (by decide)), x.hh⟩, FrJ.bld x.bld k ko (by have := x.hh; omega)⟩
/-- One more element. -/
theorem JSt.push {v' : Value} {y : DOp} (x : JSt H h N v l t W) (hW : h ≤ W.heap.size) (hN : N ≤ W.heap.size) (hat : v'.ownBlock = v.ownBlock ∨ v'.ownBlock = some W.heap.size) (ho : W'.ownsRow H 28 3 v' (l.length + 1) (l.flatMap dC ++ dC y)) (hg : W.grownBy W' v.ownBlock) :
    JSt H h N v' (l ++ [y]) t (W'.setCell ⟨H, 0, none⟩ v') ∧ FrJ H h N W (W'.setCell ⟨H, 0, none⟩ v') := by
  have hh := x.hh
  have hr : ∀ g, v.ownBlock = some g → H ≤ g ∧ (g < h ∨ N ≤ g) ∧ ∃ cs, W.heap[g]? = some (.cells cs 28 (0, 0)) := fun g e => by
    refine ⟨(x.row.row.lt g e).1, x.row.low g e, ?_⟩
    rcases x.row.row.2 with ⟨rfl, _⟩ | ⟨g', cap, cur, rfl, _, hgg, _⟩
    · cases e
    · have : g' = g := by simpa [Value.ownBlock] using e
      subst this
      exact ⟨_, hgg⟩
  have hA : Agree (OwnB v) W W' := Agree.of_grown hg fun b hb => hb
  have hbox : Blk W' H 24 #[v] := blk_stab x.row.box (M := OwnB v) (own_ne_type x.row.row x.row.box (by decide)) _ hA
  have hflu : Blk W' (H + 2) 1 #[flushV H] := blk_stab x.flu (M := OwnB v) (own_ne_type x.row.row x.flu (by decide)) _ hA
  have hbld : Bld H (H + 1) t W' := x.bld.kept hg fun g e => by
    obtain ⟨h1, h2, cs, hc⟩ := hr g e
    refine ⟨fun e2 => ?_, cs, _, _, hc, by decide⟩
    obtain ⟨cs', fz, hc'⟩ := x.bld.blk
    rw [← e2, hc] at hc'
    injection hc' with hc'
    injection hc' with _ hc'
    exact absurd hc' (by decide)
  have hsz : (W'.setCell ⟨H, 0, none⟩ v').heap.size = W'.heap.size := by simp [World.setCell]
  have hgs := hg.size
  refine ⟨⟨⟨hbox.set 0 v', ?_, fun g e => ?_⟩, ?_, hflu.far (p := ⟨H, 0, none⟩) (by simp only; omega) _, by omega⟩, (FrJ.grown hg (by omega) fun g e => ?_).trans (FrJ.set (Nat.le_refl _) (.inl (by omega)) _)⟩
  · rw [List.flatMap_append, List.length_append]
    have e1 : [y].flatMap dC = dC y := by simp
    rw [e1]
    exact own_stab (M := fun b => b = H) ho (fun b hb e => own_ne_type ho hbox (by decide) (by rw [← e]; exact hb)) _ (Agree.set1 W' H 0 v')
  · rcases hat with h1 | h1
    · exact x.row.low g (h1 ▸ e)
    · rw [h1] at e; injection e with e; omega
  · refine hbld.kept (grownBy_set W' H 0 v') fun g e => ?_
    injection e with e
    subst e
    exact ⟨by omega, _, _, _, hbox, by decide⟩
  · obtain ⟨h1, h2, cs, hc⟩ := hr g e
    exact ⟨h1, h2, cs, _, _, hc⟩
theorem set_last {α : Type} (m : List α) (y y' : α) : (m ++ [y]).set m.length y' = m ++ [y'] := by
  rw [List.set_append_right _ _ (Nat.le_refl _), Nat.sub_self]; rfl
/-- The last element's length is written. -/
theorem JSt.putLast {m : List DOp} {y : DOp} {gr c : Nat} (x : JSt H h N (.slice (some ⟨gr, 0, none⟩) (m ++ [y]).length c) (m ++ [y]) t W) (L : Int) :
    JSt H h N (.slice (some ⟨gr, 0, none⟩) (m ++ [y]).length c) (m ++ [{ y with len := L }]) t (W.setCell ⟨gr, m.length * 3 + 1, none⟩ (.int .i64 L)) ∧ FrJ H h N W (W.setCell ⟨gr, m.length * 3 + 1, none⟩ (.int .i64 L)) := by
  have hlt := x.row.row.lt gr rfl
  have hlo := x.row.low gr rfl
  obtain ⟨s1, _⟩ := x.row.row.stored (m.length * 3 + 1) (.int .i64 L)
  rw [flat_set dC_len (m ++ [y]) m.length 1 y { y with len := L } (.int .i64 L) (by simp) (by omega) rfl, set_last] at s1
  have hl : (m ++ [{ y with len := L }]).length = (m ++ [y]).length := by simp
  have hne : ∀ {g : Nat} {t : TypeId} {cs : Array Value}, 28 ≠ t → Blk W g t cs → g ≠ gr := fun ht hb e => own_ne_type x.row.row hb ht (by rw [e]; rfl)
  obtain ⟨cs, hbl⟩ : ∃ cs, W.heap[gr]? = some (.cells cs 28 (0, 0)) := by
    rcases x.row.row.2 with ⟨e, _⟩ | ⟨g', cap, cur, e, _, hgg, _⟩
    · cases e
    · injection e with e _ _
      injection e with e
      injection e with e _ _
      subst e
      exact ⟨_, hgg⟩
  refine ⟨⟨⟨x.row.box.far (p := ⟨gr, m.length * 3 + 1, none⟩) (hne (by decide) x.row.box) _, by rw [hl]; exact s1, x.row.low⟩, x.bld.kept (grownBy_set W gr _ _) fun g e => ?_, x.flu.far (p := ⟨gr, m.length * 3 + 1, none⟩) (hne (by decide) x.flu) _, x.hh⟩, FrJ.set hlt.1 hlo _⟩
  injection e with e
  subst e
  refine ⟨fun e2 => ?_, cs, _, _, hbl, by decide⟩
  obtain ⟨cs', fz, hc'⟩ := x.bld.blk
  rw [← e2, hbl] at hc'
  injection hc' with hc'
  injection hc' with _ hc'
  exact absurd hc' (by decide)
end

set_option maxHeartbeats 1000000 in
theorem reset_any (b : Nat) (p v : Value) (W : World) (hb : Blk W b 57 #[p, v]) :
    Calls Try.prog 65 #[.pointer (some ⟨b, 0, none⟩)] W fun e W' => e = .returned (.tuple #[]) ∧ W' = (W.setCell ⟨b, 0, none⟩ (.pointer none)).setCell ⟨b, 1, none⟩ (.slice none 0 0) := by
  have c0 := hb.cell (j := 0) rfl
  have f0 := hb.frozen 0
  have hb1 := hb.set 0 (.pointer none)
  have c1 : (W.setCell ⟨b, 0, none⟩ (.pointer none)).cell? ⟨b, 1, none⟩ = some v := hb1.cell (j := 1) rfl
  have f1 := hb1.frozen 1
  clear hb hb1
  go_enter Try.func65, Try.ntmps65
  go_upto_region 1 with (fail)
  generalize hW1 : W.setCell ⟨b, 0, none⟩ (.pointer none) = W1 at *
  have HW1 := Lib.hid hW1
  clear c0 f0 hW1
  go_wp2
  exact bodyPost_end (results_none rfl _ _ _) rfl ⟨rfl, by rw [HW1.out]⟩
theorem JSt.reset {H h N : Nat} {v : Value} {l : List DOp} {t : List UInt8} {W : World} {p q : Value} (x : JSt H h N v l t W) (hb : Blk W (H + 1) 57 #[p, q]) :
    JSt H h N v l [] ((W.setCell ⟨H + 1, 0, none⟩ (.pointer none)).setCell ⟨H + 1, 1, none⟩ (.slice none 0 0)) ∧ FrJ H h N W ((W.setCell ⟨H + 1, 0, none⟩ (.pointer none)).setCell ⟨H + 1, 1, none⟩ (.slice none 0 0)) := by
  have hh := x.hh
  have far : ∀ {g : Nat} {t : TypeId} {cs : Array Value}, g ≠ H + 1 → Blk W g t cs → Blk ((W.setCell ⟨H + 1, 0, none⟩ (.pointer none)).setCell ⟨H + 1, 1, none⟩ (.slice none 0 0)) g t cs := fun hg h => (h.far (p := ⟨H + 1, 0, none⟩) hg _).far (p := ⟨H + 1, 1, none⟩) hg _
  have hA : Agree (fun b => b = H + 1) W ((W.setCell ⟨H + 1, 0, none⟩ (.pointer none)).setCell ⟨H + 1, 1, none⟩ (.slice none 0 0)) := (Agree.set1 W (H + 1) 0 _).trans (Agree.set1 _ (H + 1) 1 _)
  refine ⟨⟨⟨far (by omega) x.row.box, own_stab (M := fun b => b = H + 1) x.row.row (fun b hb' e => own_ne_type x.row.row hb (by decide) (by rw [← e]; exact hb')) _ hA, x.row.low⟩, ?_, far (by omega) x.flu, x.hh⟩, (FrJ.set (o := 0) (by omega) (.inl (by omega)) _).trans (FrJ.set (o := 1) (by omega) (.inl (by omega)) _)⟩
  exact .inl ⟨by omega, .slice none 0 0, (hb.set 0 _).set 1 _, ⟨rfl, .inl ⟨rfl, rfl⟩⟩, by simp [Value.ownBlock]⟩
end Go.Proofs.Ytiioebpmfjipeaa
