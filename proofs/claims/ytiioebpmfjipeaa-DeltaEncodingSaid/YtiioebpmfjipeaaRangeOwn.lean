/- A range over a function whose iterator makes memory, and whose body writes rows of its own: the iterator's fresh blocks are kept. Over any program. -/
import Derived.Test.YtiioebpmfjipeaaFence
namespace Go.Proofs.Ytiioebpmfjipeaa
open Go.RowKit

/-- Blocks below B, and from h on, are as they were, but for rows of t. -/
structure KeepA (t : TypeId) (B h : Nat) (W W' : World) : Prop where
  size : W.heap.size ≤ W'.heap.size
  same : ∀ b o, b < B ∨ h ≤ b → W.heap[b]? = some o → (∀ cs fz, o ≠ .cells cs t fz) → W'.heap[b]? = some o
  low : ∀ b o, b < B → W.heap[b]? = some o → W'.heap[b]? = some o
section
variable {t : TypeId} {B h : Nat}
theorem KeepA.refl (W : World) : KeepA t B h W W := ⟨Nat.le_refl _, fun _ _ _ h _ => h, fun _ _ _ h => h⟩
theorem KeepA.trans {a b c : World} (x : KeepA t B h a b) (y : KeepA t B h b c) : KeepA t B h a c := ⟨Nat.le_trans x.size y.size, fun i o hi hl ho => y.same i o hi (x.same i o hi hl ho) ho, fun i o hi hl => y.low i o hi (x.low i o hi hl)⟩
theorem KeepA.of_below {a b : World} (k : Below a.heap.size a b) : KeepA t B h a b := ⟨k.size, fun i _ _ hl _ => (k.block i (Array.getElem?_eq_some_iff.1 hl).1).trans hl, fun i _ _ hl => (k.block i (Array.getElem?_eq_some_iff.1 hl).1).trans hl⟩
theorem World.putObj_size (W : World) (r : Nat) (o : Obj) : (W.putObj r o).heap.size = W.heap.size := by simp [World.putObj]
theorem KeepA.put {W : World} {r : Nat} {o o' : Obj} (_ : W.heap[r]? = some o) (h1 : B ≤ r) (h2 : r < h) : KeepA t B h W (W.putObj r o') :=
  ⟨by rw [World.putObj_size]; exact Nat.le_refl _, fun b _ hb hl _ => (World.putObj_heap_other (by omega)).trans hl, fun b _ hb hl => (World.putObj_heap_other (by omega)).trans hl⟩
theorem KeepA.mono {h' : Nat} {W W' : World} (k : KeepA t B h W W') (hh : h ≤ h') : KeepA t B h' W W' := ⟨k.size, fun b o hb => k.same b o (by omega), k.low⟩
theorem KeepA.blk {W W' : World} {g : Nat} {t' : TypeId} {cs : Array Value} (k : KeepA t B h W W') (hb : Blk W g t' cs) (hg : g < B ∨ h ≤ g) (ht : t' ≠ t) : Blk W' g t' cs :=
  k.same g _ hg hb fun cs' fz e => ht (by injection e)
end

/-- How a round of such a body ends. -/
def ownPost {α : Type} (tk : TypeId) (B h : Nat) (I : Nat → List α → World → Prop) (xs : List α) (W : World) : Exit → Act → World → Prop
  | .normal, _, W' => KeepsOthers W W' ∧ KeepA tk B h W W' ∧ I W'.heap.size xs W'
  | _, _, _ => False

theorem wp_range_own {α : Type} {P : Program} {n : Nat} {g : Operand} {ps : Array Tmp} {assign body : Code} {Q : Exit → Act → World → Prop} {a : Act} {w : World}
    {gf : Nat} {lb : Array Value} (hg : a.eval g = .func (.func gf) #[] lb) (eg : ∀ args w, (callFunc gf args).run P w = .ok (.enter gf args) w)
    (enc : α → Value) (hps : ps.size = 1) (G : List α → α → Prop) (xs : List α) (tk : TypeId) (B : Nat) (I : Nat → List α → World → Prop) (hBw : B ≤ w.heap.size) (hIm : ∀ h h' pre W, h ≤ h' → I h pre W → I h' pre W)
    (hIb : ∀ h pre W W', Below W.heap.size W W' → I h pre W → I h pre W') (hIp : ∀ h pre W r o o', w.heap.size ≤ r → I h pre W → W.heap[r]? = some o → o.isCells = false → I h pre (W.putObj r o'))
    (h0 : I w.heap.size [] w)
    (hit : ∀ (l : Nat) (J : Nat → List α → World → Prop), (∀ h pre W W', Below W.heap.size W W' → J h pre W → J h pre W') → (∀ h h' pre W, h ≤ h' → J h pre W → J h' pre W) →
      (∀ h pre x W, J h pre W → h ≤ W.heap.size → G pre x → YieldAt Fence.wide (n - 1 - 1) P l #[enc x] W fun e W' => e = .returned (.bool true) ∧ J W'.heap.size (pre ++ [x]) W' ∧ KeepA tk B h W W') →
      ∀ W, Below w.heap.size w W → J W.heap.size [] W → CallsIn Fence.wide (n - 1) P gf (#[.func (.yield l) #[] #[]] ++ lb) W fun e W' => (∃ v, e = .returned v) ∧ J W'.heap.size xs W')
    (up : α → World → World) (hup : ∀ x W, Below W.heap.size W (up x W)) (a₁ : α → World → Act)
    (hassign : ∀ (l : Nat) (x : α) (W : World) (K : Act → World → Prop), K (a₁ x W) (up x W) →
      assign.wpIn (Fence.wide.inRound l) (n - 1 - 1) P (Exit.then K (fun _ _ _ => False)) { tmps := (ps.zip #[enc x]).foldl (fun t (p, v) => t.setIfInBounds p v) a.tmps, defers := [] } W)
    (hbody : ∀ (l h : Nat) (pre : List α) (x : α) (W W' : World), w.heap.size + 2 ≤ h → h ≤ W.heap.size → (∃ r o o', (up x W).heap[r]? = some o ∧ o.isCells = false ∧ W' = (up x W).putObj r o') → I h pre W' → G pre x →
      body.wpIn (Fence.wide.inRound l) (n - 1 - 1) P (ownPost tk B h I (pre ++ [x]) W') (a₁ x W) W')
    (hdone : ∀ (D : Nat) (W : World), w.heap.size ≤ D → I W.heap.size xs W → W.heap[D]? = some (.deferred (some [])) → Q .normal { a with defers := { target := .collected D, args := #[] } :: a.defers } W) :
    (Code.rangeFunc g ps assign body).wpIn Fence.wide n P Q a w := by
  refine wpIn_rangeFunc ?_
  intro fn hfn
  obtain ⟨rec, hrec⟩ : ∃ rec : LoopState → Option Code → Loop, rec = fun st pe => { state := st, pending := pe, fn, tmps := a.tmps, params := ps, assign, body, defers := w.heap.size } := ⟨_, rfl⟩
  obtain ⟨W1, hW1⟩ : ∃ W1, (w.alloc (.deferred (some []))).alloc (.loop (rec .ready none)) = W1 := ⟨_, rfl⟩
  have hL1 : W1.heap[w.heap.size + 1]? = some (.loop (rec .ready none)) := by
    rw [← hW1]; have := World.alloc_heap_new (w.alloc (.deferred (some []))) (.loop (rec .ready none)); rwa [World.size_alloc] at this
  have hK1 : W1.heap[w.heap.size]? = some (.deferred (some [])) := by
    rw [← hW1]; exact (Below.heap_alloc _ _ _ (by simp)).trans (World.alloc_heap_new w _)
  have hB1 : Below w.heap.size w W1 := by rw [← hW1]; exact ((Below.refl _ _).alloc (Nat.le_refl _) _).alloc (by simp) _
  have hI1 : I W1.heap.size [] W1 := hIm _ _ _ _ hB1.size (hIb _ _ _ _ hB1 h0)
  have hs1 : w.heap.size + 2 ≤ W1.heap.size := by have := (Array.getElem?_eq_some_iff.1 hL1).1; omega
  refine ⟨w.heap.size + 1, [{ target := .collected w.heap.size, args := #[] }], W1, { target := .fn (.func gf) lb, args := #[.func (.yield (w.heap.size + 1)) #[] #[]] }, W1, gf,
    #[.func (.yield (w.heap.size + 1)) #[] #[]] ++ lb, W1, ?_, ?_, fun _ _ => trivial, ?_, (fun h => by cases h), ?_⟩
  · rw [← hW1, hrec]; exact run_enterLoop_outer _ _ _ _ _
  · simp only [resolve, hg]
    simp [go_sem]
  · simp [invoke, go_sem, eg]
  · refine (hit (w.heap.size + 1) (fun h pre W => (I h pre W ∧ w.heap.size + 2 ≤ h) ∧ W.heap[w.heap.size + 1]? = some (.loop (rec .ready none)) ∧ W.heap[w.heap.size]? = some (.deferred (some [])))
      (fun h pre W W' hb h => ⟨⟨hIb _ _ _ _ hb h.1.1, h.1.2⟩, (hb.block _ (Array.getElem?_eq_some_iff.1 h.2.1).1).trans h.2.1, (hb.block _ (Array.getElem?_eq_some_iff.1 h.2.2).1).trans h.2.2⟩) (fun h h' pre W hle k => ⟨⟨hIm _ _ _ _ hle k.1.1, by omega⟩, k.2⟩) ?_ W1 hB1 ⟨⟨hI1, hs1⟩, hL1, hK1⟩).mono ?_
    · rintro h pre x W ⟨⟨hi, hh⟩, hl, hk⟩ hhW hlen
      have hlt : w.heap.size + 1 < W.heap.size := (Array.getElem?_eq_some_iff.1 hl).1
      have hy := run_yield (P := P) (args := #[enc x]) hl (by rw [hrec]; exact hps.symm)
      rw [hrec] at hy
      have hb9 := hup x W
      have hl9 := (hb9.block _ hlt).trans hl
      have hk9 := (hb9.block _ (Array.getElem?_eq_some_iff.1 hk).1).trans hk
      have hi9 := hIb _ _ _ _ hb9 hi
      refine ⟨fn, _, assign, body, hy, roundIn_of_wpIn hfn (hassign _ x W _ ⟨_, run_beginRound hl9 (by rw [hrec]), ?_⟩)⟩
      have hu : ∀ o', ∃ r o o'', (up x W).heap[r]? = some o ∧ o.isCells = false ∧ (up x W).putObj (w.heap.size + 1) o' = (up x W).putObj r o'' := fun o' => ⟨_, _, o', hl9, rfl, rfl⟩
      have hlt9 : w.heap.size + 1 < (up x W).heap.size := (Array.getElem?_eq_some_iff.1 hl9).1
      have hT9 : KeepA tk B h W (up x W) := KeepA.of_below hb9
      have hl2 : ((up x W).putObj (w.heap.size + 1) (.loop { rec .ready none with state := .busy })).heap[w.heap.size + 1]? = some (.loop { rec .ready none with state := .busy }) := World.putObj_heap_same hlt9
      have hk2 : ((up x W).putObj (w.heap.size + 1) (.loop { rec .ready none with state := .busy })).heap[w.heap.size]? = some (.deferred (some [])) := (World.putObj_heap_other (by omega)).trans hk9
      have hb2 : KeepA tk B h W ((up x W).putObj (w.heap.size + 1) (.loop { rec .ready none with state := .busy })) := hT9.trans (KeepA.put hl9 (by omega) (by omega))
      refine wpIn_mono (hbody _ h pre x W _ hh hhW (hu _) (hIp _ _ _ _ _ _ (by omega) hi9 hl9 rfl) hlen) ?_
      rintro e a3 W3 hp
      cases e with
      | normal =>
        obtain ⟨hk3, hb3, hi3⟩ := hp
        have hl3 := hk3.same _ _ hl2 rfl
        have hr := run_endRound (P := P) none hl3
        rw [hrec] at hr
        refine ⟨_, _, hr, rfl, ⟨⟨by rw [World.putObj_size]; exact hIp _ _ _ _ _ _ (by omega) hi3 hl3 rfl, ?_⟩, ?_, (World.putObj_heap_other (by omega)).trans (hk3.same _ _ hk2 rfl)⟩, (hb2.trans hb3).trans (KeepA.put hl3 (by omega) (by omega))⟩
        · have := (Array.getElem?_eq_some_iff.1 hl3).1
          rw [World.putObj_size]; omega
        rw [hrec]
        exact World.putObj_heap_same (Array.getElem?_eq_some_iff.1 hl3).1
      | ret => exact hp.elim
      | exit id => exact hp.elim
      | goto t => exact hp.elim
      | panic ch => exact hp.elim
      | outgrown => exact hp.elim
    · rintro e W2 ⟨⟨v, rfl⟩, ⟨hi, _⟩, hl, hk⟩
      have := run_endLoop (P := P) hl (by rw [hrec]; simp)
      rw [hrec] at this
      exact ⟨none, _, this, hdone w.heap.size _ (Nat.le_refl _) (by rw [World.putObj_size]; exact hIp _ _ _ _ _ _ (by omega) hi hl rfl) ((World.putObj_heap_other (by omega)).trans hk)⟩
end Go.Proofs.Ytiioebpmfjipeaa
