/- A region that draws its order, in a fence: reads first, then the rest one after another. A range over a function whose iterator makes memory. Over any program. -/
import Derived.StillTailTactics
import Derived.OrdersIn
import Derived.RangeFuncCalls
import Derived.Test.YthobbcafemkhbaaRangeBox
namespace Go.Proofs.Ythobbcafemkhbaa
open Go.RowKit

/-- No fence at all, in a round or not. -/
def Wid (F : Fence) : Prop := F = Fence.wide ∨ ∃ l, F = Fence.wide.inRound l
theorem Wid.wide : Wid Fence.wide := .inl rfl
theorem Wid.round (l : Nat) : Wid (Fence.wide.inRound l) := .inr ⟨l, rfl⟩

section
variable {F : Fence} {P : Program} {n : Nat} {ops : Array Oper} {md : Region.Mode} {w : World}
theorem Wid.fn (h : Wid F) (f : FuncId) : F.fn f := by rcases h with rfl | ⟨l, rfl⟩ <;> trivial
theorem Wid.depth (h : Wid F) : F.depth.isSome = true → 1 ≤ n := by rcases h with rfl | ⟨l, rfl⟩ <;> (intro e; cases e)
theorem Wid.calls (h : Wid F) {f : FuncId} {args : Array Value} {R : Ending → World → Prop} (hc : Calls P f args w R) : CallsIn F n P f args w R := by
  rcases h with rfl | ⟨l, rfl⟩
  · exact callsIn_wide.2 hc
  · exact CallsIn.inRound l (callsIn_wide.2 hc)
theorem Wid.rows (h : Wid F) {f : String} {args : Array Value} {R : Value → World → Prop} (hc : Rows P f args w R) : RowsIn F n P f args w R := by
  intro c cs _
  obtain ⟨v, w', r, s⟩ := hc c cs
  refine ⟨v, w', r, ?_⟩
  rcases h with rfl | ⟨l, rfl⟩
  · exact stepsIn_wide.2 s
  · exact stepsIn_wide.2 s

def isDefer (o : Oper) : Bool := match o.op with
  | .defer _ => true
  | _ => false
theorem not_defer {o : Oper} (h : isDefer o = false) : ∀ c, o.op ≠ .defer c := fun c e => by unfold isDefer at h; rw [e] at h; cases h

theorem wpIn_of_still (hF : Wid F) {o : Oper} (hd : isDefer o = false) {a : Act} {K : Act → Prop} {K' : Act → World → Prop} {Q : Exit → Act → World → Prop} (h : ∀ a, K a → K' a w) (hh : o.still P a w K) : o.wpIn F n P a w K' Q := by
  refine ⟨fun f _ => hF.fn f, ?_⟩
  rw [Oper.semAt_eq _ _ _ (not_defer hd)]
  unfold Oper.still at hh
  generalize (execOp a.eval o).run P w = r at *
  cases r with
  | ok x w' =>
    cases x <;> simp only [Oper.stillUpon] at hh <;> simp only [Oper.uponIn]
    case enter f args =>
      obtain ⟨rfl, v, hc, hn⟩ := hh
      exact ⟨hF.depth, hF.calls (hc.mono fun e w'' ⟨he, hw⟩ => by subst he; subst hw; exact h _ hn)⟩
    all_goals (obtain ⟨rfl, h2⟩ := hh; exact h _ h2)
  | halt x w' => simp only [Oper.stillUpon] at hh
theorem wpOpIn_of_stOp (hF : Wid F) (hd : ∀ o ∈ ops, isDefer o = false) {i : Nat} {a : Act} {K : Act → Prop} {K' : Act → World → Prop} {Q' : Exit → Act → World → Prop} (h : ∀ a, K a → K' a w) (hh : stOp P ops w i K a) : wpOpIn F n P ops Q' i K' a w := by
  unfold stOp at hh
  unfold wpOpIn
  split
  · rename_i ho; simp only [ho] at hh; exact h _ hh
  · rename_i o ho
    simp only [ho] at hh
    split
    · rename_i hw; simp only [hw, if_true] at hh; exact wpIn_of_still hF (hd o (Array.mem_of_getElem? ho)) h hh
    · rename_i hw; simp only [hw] at hh; exact ⟨fun f _ => hF.fn f, h _ hh⟩
theorem wpAnyIn_of_head (hF : Wid F) (hd : ∀ o ∈ ops, isDefer o = false) {m g : Nat} {L : Array Bool → Act → Prop} {Q' : Exit → Act → World → Prop} (hL : ∀ listed a, L listed a → wpAnyIn F n P md ops Q' g listed a w) :
    ∀ (f : Nat) (listed : Array Bool) (a : Act), wpAnyL P md ops w m L f listed a → wpAnyIn F n P md ops Q' (f + g) listed a w
  | 0, listed, a, h => by rw [Nat.zero_add]; exact hL _ _ h
  | f + 1, listed, a, h => by
    rw [show f + 1 + g = (f + g) + 1 by omega]
    exact ⟨fun h0 => absurd h0 h.1, fun i hi => wpOpIn_of_stOp hF hd (fun a' h' => wpAnyIn_of_head hF hd hL f _ a' h') (h.2 i hi).2⟩
theorem wpAnyIn_of_seq {Q' : Exit → Act → World → Prop} : ∀ (l : List Oper) (k : Nat) (listed : Array Bool) (a : Act) (w : World), (∀ j, l[j]? = ops[k + j]?) →
    Region.seqB md ops l.length k listed = true → wpListIn F n P ops Q' l a w → wpAnyIn F n P md ops Q' l.length listed a w
  | [], _, _, _, _, _, hB, h => ⟨by simpa [Region.seqB] using hB, h⟩
  | o :: l, k, listed, a, w, hl, hB, h => by
    have h0 : ops[k]? = some o := by simpa using (hl 0).symm
    simp only [List.length_cons, Region.seqB, Bool.and_eq_true, decide_eq_true_eq] at hB
    refine ⟨fun h1 => (by rw [hB.1] at h1; cases h1), fun i hi => ?_⟩
    rw [hB.1] at hi
    have hik : i = k := by simpa using hi
    subst hik
    have hw : wpOpIn F n P ops Q' i (wpListIn F n P ops Q' l) a w := by unfold wpOpIn; simp only [h0]; exact h
    exact wpOpIn_mono (fun a' w' h' => wpAnyIn_of_seq l (i + 1) _ a' w' (fun j => by have := hl (j + 1); simpa [Nat.add_assoc, Nat.add_comm 1 j] using this) hB.2 h') hw

/-- Reads and quiet calls first, the last ones one after another, in a fence. -/
theorem wpIn_region_still_tail (hF : Wid F) {id : Nat} {Q : Exit → Act → World → Prop} {a : Act} {l : List Oper} (m : Nat) (hm : P.follows .mixedOrders = true) (hB : Region.lexTailB .any l.toArray m = true) (hd : l.all (fun o => !isDefer o) = true)
    (h : wpStill P l.toArray { w with drawn := w.drawn + 1 } (fun a' => wpListIn F n P l.toArray Q (l.drop m) a' { w with drawn := w.drawn + 1 }) (l.take m) a) : (Code.region id l.toArray true).wpIn F n P Q a w := by
  simp only [Region.lexTailB, Bool.and_eq_true, decide_eq_true_eq] at hB
  obtain ⟨⟨⟨⟨hsel, hn⟩, hs⟩, hc⟩, hlex⟩ := hB
  have hd' : ∀ o ∈ l.toArray, isDefer o = false := fun o ho => by simpa using List.all_eq_true.1 hd o (by simpa using ho)
  have hn' : m < l.length := by simpa using hn
  have htl : (l.take m).length = m := by simp; omega
  have hdl : (l.drop m).length = l.toArray.size - m := by simp
  have inv0 : HeadInv .any l.toArray m (Array.replicate l.toArray.size false) :=
    ⟨by simp, fun j oj _ hl => (by rw [getD_replicate_false] at hl; cases hl), fun t _ ht => getD_in (by simpa using ht) (getD_replicate_false _ _)⟩
  have H := wpAnyL_lex (md := .any) (g := l.toArray.size - m) hsel hs hc hn (l.take m) 0 _ a (fun j hj => by
    have hj' : j < m := by rw [htl] at hj; exact hj
    simp [hj']) (by simpa using htl) inv0 (by rw [htl]; exact hlex) h
  refine wpIn_region_any hm ?_
  have := wpAnyIn_of_head (n := n) (Q' := Q) (g := l.toArray.size - m) hF hd' (fun listed a' hL => by
    have := wpAnyIn_of_seq (F := F) (n := n) (md := .any) (Q' := Q) (l.drop m) m listed a' { w with drawn := w.drawn + 1 } (fun j => by simp [List.getElem?_drop]) (by rw [hdl]; exact hL.1) hL.2
    rwa [hdl] at this) _ _ _ H
  rw [htl, show m + (l.toArray.size - m) = l.toArray.size by omega] at this
  exact this
end

/-! ### a range over a function whose iterator makes memory -/

/-- Blocks of this element type are as they were. -/
def KeepT (t : TypeId) (W W' : World) : Prop := ∀ g cs, Blk W g t cs → Blk W' g t cs
theorem KeepT.refl (t : TypeId) (W : World) : KeepT t W W := fun _ _ h => h
theorem KeepT.trans {t : TypeId} {a b c : World} (h : KeepT t a b) (k : KeepT t b c) : KeepT t a c := fun g cs x => k g cs (h g cs x)
theorem KeepT.of_below {t : TypeId} {a b : World} (h : Below a.heap.size a b) : KeepT t a b := fun _ _ x => x.keep h
theorem KeepT.put {t : TypeId} {W : World} {r : Nat} {o o' : Obj} (hr : W.heap[r]? = some o) (ho : o.isCells = false) : KeepT t W (W.putObj r o') := by
  intro g cs hb
  have hne : g ≠ r := by
    rintro rfl
    unfold Blk at hb
    rw [hb] at hr
    cases hr
    simp [Obj.isCells] at ho
  exact (World.putObj_heap_other hne).trans hb

/-- How a round of such a body ends. -/
def farPost {α : Type} (t : TypeId) (I : List α → World → Prop) (xs : List α) (W : World) : Exit → Act → World → Prop
  | .normal, _, W' => KeepsOthers W W' ∧ KeepT t W W' ∧ I xs W'
  | _, _, _ => False

theorem wp_range_far {α : Type} {P : Program} {n : Nat} {g : Operand} {ps : Array Tmp} {assign body : Code} {Q : Exit → Act → World → Prop} {a : Act} {w : World}
    {gf : Nat} {lb : Array Value} (hg : a.eval g = .func (.func gf) #[] lb) (eg : ∀ args w, (callFunc gf args).run P w = .ok (.enter gf args) w)
    (enc : α → Value) (hps : ps.size = 1) (G : List α → α → Prop) (xs : List α) (t : TypeId) (I : List α → World → Prop)
    (hIb : ∀ pre W W', Below W.heap.size W W' → I pre W → I pre W') (hIp : ∀ pre W r o o', w.heap.size ≤ r → I pre W → W.heap[r]? = some o → o.isCells = false → I pre (W.putObj r o'))
    (h0 : I [] w)
    (hit : ∀ (l : Nat) (J : List α → World → Prop), (∀ pre W W', Below W.heap.size W W' → J pre W → J pre W') →
      (∀ pre x W, J pre W → G pre x → YieldAt Fence.wide (n - 1 - 1) P l #[enc x] W fun e W' => e = .returned (.bool true) ∧ J (pre ++ [x]) W' ∧ KeepT t W W') →
      ∀ W, Below w.heap.size w W → J [] W → CallsIn Fence.wide (n - 1) P gf (#[.func (.yield l) #[] #[]] ++ lb) W fun e W' => (∃ v, e = .returned v) ∧ J xs W')
    (up : α → World → World) (hup : ∀ x W, Below W.heap.size W (up x W)) (a₁ : α → World → Act)
    (hassign : ∀ (l : Nat) (x : α) (W : World) (K : Act → World → Prop), K (a₁ x W) (up x W) →
      assign.wpIn (Fence.wide.inRound l) (n - 1 - 1) P (Exit.then K (fun _ _ _ => False)) { tmps := (ps.zip #[enc x]).foldl (fun t (p, v) => t.setIfInBounds p v) a.tmps, defers := [] } W)
    (hbody : ∀ (l : Nat) (pre : List α) (x : α) (W W' : World), w.heap.size ≤ W.heap.size → (∃ r o o', (up x W).heap[r]? = some o ∧ o.isCells = false ∧ W' = (up x W).putObj r o') → I pre W' → G pre x →
      body.wpIn (Fence.wide.inRound l) (n - 1 - 1) P (farPost t I (pre ++ [x]) W') (a₁ x W) W')
    (hdone : ∀ (D : Nat) (W : World), w.heap.size ≤ D → I xs W → W.heap[D]? = some (.deferred (some [])) → Q .normal { a with defers := { target := .collected D, args := #[] } :: a.defers } W) :
    (Code.rangeFunc g ps assign body).wpIn Fence.wide n P Q a w := by
  refine wpIn_rangeFunc ?_
  intro fn hfn
  obtain ⟨rec, hrec⟩ : ∃ rec : LoopState → Option Code → Loop, rec = fun st pe => { state := st, pending := pe, fn, tmps := a.tmps, params := ps, assign, body, defers := w.heap.size } := ⟨_, rfl⟩
  obtain ⟨W1, hW1⟩ : ∃ W1, (w.alloc (.deferred (some []))).alloc (.loop (rec .ready none)) = W1 := ⟨_, rfl⟩
  have hL1 : W1.heap[w.heap.size + 1]? = some (.loop (rec .ready none)) := by
    rw [← hW1]; have := World.alloc_heap_new (w.alloc (.deferred (some []))) (.loop (rec .ready none)); rwa [World.size_alloc] at this
  have hK1 : W1.heap[w.heap.size]? = some (.deferred (some [])) := by
    rw [← hW1]; exact (Below.heap_alloc _ _ _ (by simp)).trans (World.alloc_heap_new w _)
  have hB1 : Below w.heap.size w W1 := by rw [← hW1]; exact ((Below.refl _ _).alloc (Nat.le_refl _) _).alloc (by simp) _
  have hI1 : I [] W1 := hIb _ _ _ hB1 h0
  refine ⟨w.heap.size + 1, [{ target := .collected w.heap.size, args := #[] }], W1, { target := .fn (.func gf) lb, args := #[.func (.yield (w.heap.size + 1)) #[] #[]] }, W1, gf,
    #[.func (.yield (w.heap.size + 1)) #[] #[]] ++ lb, W1, ?_, ?_, fun _ _ => trivial, ?_, (fun h => by cases h), ?_⟩
  · rw [← hW1, hrec]; exact run_enterLoop_outer _ _ _ _ _
  · simp only [resolve, hg]
    simp [go_sem]
  · simp [invoke, go_sem, eg]
  · refine (hit (w.heap.size + 1) (fun pre W => I pre W ∧ W.heap[w.heap.size + 1]? = some (.loop (rec .ready none)) ∧ W.heap[w.heap.size]? = some (.deferred (some [])))
      (fun pre W W' hb h => ⟨hIb _ _ _ hb h.1, (hb.block _ (Array.getElem?_eq_some_iff.1 h.2.1).1).trans h.2.1, (hb.block _ (Array.getElem?_eq_some_iff.1 h.2.2).1).trans h.2.2⟩) ?_ W1 hB1 ⟨hI1, hL1, hK1⟩).mono ?_
    · rintro pre x W ⟨hi, hl, hk⟩ hlen
      have hlt : w.heap.size + 1 < W.heap.size := (Array.getElem?_eq_some_iff.1 hl).1
      have hy := run_yield (P := P) (args := #[enc x]) hl (by rw [hrec]; exact hps.symm)
      rw [hrec] at hy
      have hb9 := hup x W
      have hl9 := (hb9.block _ hlt).trans hl
      have hk9 := (hb9.block _ (Array.getElem?_eq_some_iff.1 hk).1).trans hk
      have hi9 := hIb _ _ _ hb9 hi
      refine ⟨fn, _, assign, body, hy, roundIn_of_wpIn hfn (hassign _ x W _ ⟨_, run_beginRound hl9 (by rw [hrec]), ?_⟩)⟩
      have hu : ∀ o', ∃ r o o'', (up x W).heap[r]? = some o ∧ o.isCells = false ∧ (up x W).putObj (w.heap.size + 1) o' = (up x W).putObj r o'' := fun o' => ⟨_, _, o', hl9, rfl, rfl⟩
      have hlt9 : w.heap.size + 1 < (up x W).heap.size := (Array.getElem?_eq_some_iff.1 hl9).1
      have hT9 : KeepT t W (up x W) := KeepT.of_below hb9
      have hl2 : ((up x W).putObj (w.heap.size + 1) (.loop { rec .ready none with state := .busy })).heap[w.heap.size + 1]? = some (.loop { rec .ready none with state := .busy }) := World.putObj_heap_same hlt9
      have hk2 : ((up x W).putObj (w.heap.size + 1) (.loop { rec .ready none with state := .busy })).heap[w.heap.size]? = some (.deferred (some [])) := (World.putObj_heap_other (by omega)).trans hk9
      have hb2 : KeepT t W ((up x W).putObj (w.heap.size + 1) (.loop { rec .ready none with state := .busy })) := hT9.trans (KeepT.put hl9 rfl)
      refine wpIn_mono (hbody _ pre x W _ (by omega) (hu _) (hIp _ _ _ _ _ (by omega) hi9 hl9 rfl) hlen) ?_
      rintro e a3 W3 hp
      cases e with
      | normal =>
        obtain ⟨hk3, hb3, hi3⟩ := hp
        have hl3 := hk3.same _ _ hl2 rfl
        have hr := run_endRound (P := P) none hl3
        rw [hrec] at hr
        refine ⟨_, _, hr, rfl, ⟨hIp _ _ _ _ _ (by omega) hi3 hl3 rfl, ?_, (World.putObj_heap_other (by omega)).trans (hk3.same _ _ hk2 rfl)⟩, (hb2.trans hb3).trans (KeepT.put hl3 rfl)⟩
        rw [hrec]
        exact World.putObj_heap_same (Array.getElem?_eq_some_iff.1 hl3).1
      | ret => exact hp.elim
      | exit id => exact hp.elim
      | goto t => exact hp.elim
      | panic ch => exact hp.elim
      | outgrown => exact hp.elim
    · rintro e W2 ⟨⟨v, rfl⟩, hi, hl, hk⟩
      have := run_endLoop (P := P) hl (by rw [hrec]; simp)
      rw [hrec] at this
      exact ⟨none, _, this, hdone w.heap.size _ (Nat.le_refl _) (hIp _ _ _ _ _ (by omega) hi hl rfl) ((World.putObj_heap_other (by omega)).trans hk)⟩
end Go.Proofs.Ythobbcafemkhbaa
