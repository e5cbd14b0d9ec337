/- A range over a function whose iterator keeps its state in one box: the law for a body that never leaves. Over any program. A region that draws its order, in a fence: reads first, then the rest one after another. A range over a function whose iterator makes memory. Over any program. A region that draws its order: loads are taken first while a condition holds, and the condition is asked no more once a given operation has come up. A region that draws its order, where two operations may come up next. A range over a function whose iterator makes memory, and whose body writes rows of its own: the iterator's fresh blocks are kept. Over any program. A range over a function whose iterator makes memory and whose body writes some blocks, and returns at the last element that is yielded, if that one is bad. Over any program. append of any slice, in a fence. Over any program. A region that draws its order and makes memory: a law of promises. Each operation is walked once, from the promises of what has come up. -/
import Derived.RangeFuncBox
import Derived.RangeFuncLeaves
import Derived.Shelf.Abstract
import Derived.OwnWalkIn
import Derived.TacticsInMore
import Derived.LoopNIn
import Derived.LoopIn
import Derived.Test.YtockmhhiomdlkaaMem
import Derived.StillTailTactics
import Derived.OrdersIn
import Derived.RangeFuncCalls
import Derived.StillTail
import Derived.OrdersHeld
import Derived.RegionTactic
import Derived.Deep.RegionHeld3
namespace Go.Proofs.Ytockmhhiomdlkaa
set_option linter.unusedSimpArgs false
set_option linter.unusedVariables false
open Go.RowKit

/-- How a round of such a body ends. -/
def boxPost {α : Type} (Bn : Nat) (I : List α → World → Prop) (xs : List α) (W : World) : Exit → Act → World → Prop
  | .normal, _, W' => KeepsOthers W W' ∧ W'.heap[Bn]? = W.heap[Bn]? ∧ I xs W'
  | _, _, _ => False

theorem wp_range_box {α : Type} {P : Program} {n : Nat} {g : Operand} {ps : Array Tmp} {assign body : Code} {Q : Exit → Act → World → Prop} {a : Act} {w : World}
    {gf : Nat} {lb : Array Value} (hg : a.eval g = .func (.func gf) #[] lb) (eg : ∀ args w, (callFunc gf args).run P w = .ok (.enter gf args) w)
    (enc : α → Value) (hps : ps.size = 1) (N : Nat) (xs : List α) (Bn : Nat) (I : List α → World → Prop)
    (hIa : ∀ pre W o, I pre W → I pre (W.alloc o)) (hIp : ∀ pre W r o o', w.heap.size ≤ r → I pre W → W.heap[r]? = some o → o.isCells = false → I pre (W.putObj r o')) (hIs : ∀ pre W v, I pre W → I pre (W.setCell ⟨Bn, 0, none⟩ v))
    (h0 : I [] w) (hBn : ∃ t cs, Blk w Bn t cs)
    (hit : ∀ (l : Nat) (J : List α → World → Prop), (∀ pre W v, J pre W → J pre (W.setCell ⟨Bn, 0, none⟩ v)) →
      (∀ pre x W, J pre W → pre.length < N → YieldAt Fence.wide (n - 1 - 1) P l #[enc x] W fun e W' => e = .returned (.bool true) ∧ J (pre ++ [x]) W' ∧ W'.heap[Bn]? = W.heap[Bn]?) →
      ∀ W, W.heap[Bn]? = w.heap[Bn]? → J [] W → CallsIn Fence.wide (n - 1) P gf (#[.func (.yield l) #[] #[]] ++ lb) W fun e W' => (∃ v, e = .returned v) ∧ J xs W')
    (a₁ : α → Act)
    (hassign : ∀ (l : Nat) (x : α) (W : World) (K : Act → World → Prop), K (a₁ x) W →
      assign.wpIn (Fence.wide.inRound l) (n - 1 - 1) P (Exit.then K (fun _ _ _ => False)) { tmps := (ps.zip #[enc x]).foldl (fun t (p, v) => t.setIfInBounds p v) a.tmps, defers := [] } W)
    (hbody : ∀ (l : Nat) (pre : List α) (x : α) (W : World), I pre W → pre.length < N → body.wpIn (Fence.wide.inRound l) (n - 1 - 1) P (boxPost Bn I (pre ++ [x]) W) (a₁ x) W)
    (hdone : ∀ (D : Nat) (W : World), w.heap.size ≤ D → I xs W → W.heap[D]? = some (.deferred (some [])) → Q .normal { a with defers := { target := .collected D, args := #[] } :: a.defers } W) :
    (Code.rangeFunc g ps assign body).wpIn Fence.wide n P Q a w := by
  refine wpIn_rangeFunc ?_
  intro fn hfn
  obtain ⟨t0, cs0, hB0⟩ := hBn
  have hBlt := hB0.lt
  obtain ⟨rec, hrec⟩ : ∃ rec : LoopState → Option Code → Loop, rec = fun st pe => { state := st, pending := pe, fn, tmps := a.tmps, params := ps, assign, body, defers := w.heap.size } := ⟨_, rfl⟩
  obtain ⟨W1, hW1⟩ : ∃ W1, (w.alloc (.deferred (some []))).alloc (.loop (rec .ready none)) = W1 := ⟨_, rfl⟩
  have hL1 : W1.heap[w.heap.size + 1]? = some (.loop (rec .ready none)) := by
    rw [← hW1]; have := World.alloc_heap_new (w.alloc (.deferred (some []))) (.loop (rec .ready none)); rwa [World.size_alloc] at this
  have hK1 : W1.heap[w.heap.size]? = some (.deferred (some [])) := by
    rw [← hW1]; exact (Below.heap_alloc _ _ _ (by simp)).trans (World.alloc_heap_new w _)
  have hI1 : I [] W1 := by rw [← hW1]; exact hIa _ _ _ (hIa _ _ _ h0)
  have hB1 : W1.heap[Bn]? = w.heap[Bn]? := by
    rw [← hW1]; exact (Below.heap_alloc _ _ _ (by simp; omega)).trans (Below.heap_alloc w _ _ hBlt)
  refine ⟨w.heap.size + 1, [{ target := .collected w.heap.size, args := #[] }], W1, { target := .fn (.func gf) lb, args := #[.func (.yield (w.heap.size + 1)) #[] #[]] }, W1, gf,
    #[.func (.yield (w.heap.size + 1)) #[] #[]] ++ lb, W1, ?_, ?_, fun _ _ => trivial, ?_, (fun h => by cases h), ?_⟩
  · rw [← hW1, hrec]; exact run_enterLoop_outer _ _ _ _ _
  · simp only [resolve, hg]
    simp [go_sem]
  · simp [invoke, go_sem, eg]
  · refine (hit (w.heap.size + 1) (fun pre W => I pre W ∧ W.heap[w.heap.size + 1]? = some (.loop (rec .ready none)) ∧ W.heap[w.heap.size]? = some (.deferred (some [])))
      (fun pre W v h => ⟨hIs _ _ _ h.1, (Below.heap_setCell W ⟨Bn, 0, none⟩ v _ (by simp; omega)).trans h.2.1, (Below.heap_setCell W ⟨Bn, 0, none⟩ v _ (by simp; omega)).trans h.2.2⟩) ?_ W1 hB1 ⟨hI1, hL1, hK1⟩).mono ?_
    · rintro pre x W ⟨hi, hl, hk⟩ hlen
      have hlt : w.heap.size + 1 < W.heap.size := (Array.getElem?_eq_some_iff.1 hl).1
      have hy := run_yield (P := P) (args := #[enc x]) hl (by rw [hrec]; exact hps.symm)
      rw [hrec] at hy
      refine ⟨fn, _, assign, body, hy, roundIn_of_wpIn hfn (hassign _ x W _ ⟨_, run_beginRound hl (by rw [hrec]), ?_⟩)⟩
      have hl2 : (W.putObj (w.heap.size + 1) (.loop { rec .ready none with state := .busy })).heap[w.heap.size + 1]? = some (.loop { rec .ready none with state := .busy }) := World.putObj_heap_same hlt
      have hk2 : (W.putObj (w.heap.size + 1) (.loop { rec .ready none with state := .busy })).heap[w.heap.size]? = some (.deferred (some [])) := (World.putObj_heap_other (by omega)).trans hk
      have hb2 : (W.putObj (w.heap.size + 1) (.loop { rec .ready none with state := .busy })).heap[Bn]? = W.heap[Bn]? := World.putObj_heap_other (by omega)
      refine wpIn_mono (hbody _ pre x _ (hIp _ _ _ _ _ (by omega) hi hl rfl) hlen) ?_
      rintro e a3 W3 hp
      cases e with
      | normal =>
        obtain ⟨hk3, hb3, hi3⟩ := hp
        have hl3 := hk3.same _ _ hl2 rfl
        have hr := run_endRound (P := P) none hl3
        rw [hrec] at hr
        refine ⟨_, _, hr, rfl, ⟨hIp _ _ _ _ _ (by omega) hi3 hl3 rfl, ?_, (World.putObj_heap_other (by omega)).trans (hk3.same _ _ hk2 rfl)⟩, ((World.putObj_heap_other (by omega)).trans hb3).trans hb2⟩
        rw [hrec]
        exact World.putObj_heap_same (Array.getElem?_eq_some_iff.1 hl3).1
      | ret => exact hp.elim
      | exit id => exact hp.elim
      | goto t => exact hp.elim
      | panic ch => exact hp.elim
      | outgrown => exact hp.elim
    · rintro e W2 ⟨⟨v, rfl⟩, hi, hl, hk⟩
      have := run_endLoop (P := P) hl (by rw [hrec]; simp)
      rw [hrec] at this
      exact ⟨none, _, this, hdone w.heap.size _ (Nat.le_refl _) (hIp _ _ _ _ _ (by omega) hi hl rfl) ((World.putObj_heap_other (by omega)).trans hk)⟩
end Go.Proofs.Ytockmhhiomdlkaa

namespace Go.Proofs.Ytockmhhiomdlkaa
set_option linter.unusedSimpArgs false
set_option linter.unusedVariables false
open Go.RowKit

/-- No fence at all, in a round or not. -/
def Wid (F : Fence) : Prop := F = Fence.wide ∨ ∃ l, F = Fence.wide.inRound l
theorem Wid.wide : Wid Fence.wide := .inl rfl
theorem Wid.round (l : Nat) : Wid (Fence.wide.inRound l) := .inr ⟨l, rfl⟩

section
variable {F : Fence} {P : Program} {n : Nat} {ops : Array Oper} {md : Region.Mode} {w : World}
theorem Wid.fn (h : Wid F) (f : FuncId) : F.fn f := by rcases h with rfl | ⟨l, rfl⟩ <;> trivial
theorem Wid.depth (h : Wid F) : F.depth.isSome = true → 1 ≤ n := by rcases h with rfl | ⟨l, rfl⟩ <;> (intro e; cases e)
theorem Wid.calls (h : Wid F) {f : FuncId} {args : Array Value} {R : Ending → World → Prop} (hc : Calls P f args w R) : CallsIn F n P f args w R := by
  rcases h with rfl | ⟨l, rfl⟩
  · exact callsIn_wide.2 hc
  · exact CallsIn.inRound l (callsIn_wide.2 hc)
theorem Wid.rows (h : Wid F) {f : String} {args : Array Value} {R : Value → World → Prop} (hc : Rows P f args w R) : RowsIn F n P f args w R := by
  intro c cs _
  obtain ⟨v, w', r, s⟩ := hc c cs
  refine ⟨v, w', r, ?_⟩
  rcases h with rfl | ⟨l, rfl⟩
  · exact stepsIn_wide.2 s
  · exact stepsIn_wide.2 s

def isDefer (o : Oper) : Bool := match o.op with
  | .defer _ => true
  | _ => false
theorem not_defer {o : Oper} (h : isDefer o = false) : ∀ c, o.op ≠ .defer c := fun c e => by unfold isDefer at h; rw [e] at h; cases h

theorem wpIn_of_still (hF : Wid F) {o : Oper} (hd : isDefer o = false) {a : Act} {K : Act → Prop} {K' : Act → World → Prop} {Q : Exit → Act → World → Prop} (h : ∀ a, K a → K' a w) (hh : o.still P a w K) : o.wpIn F n P a w K' Q := by
  refine ⟨fun f _ => hF.fn f, ?_⟩
  rw [Oper.semAt_eq _ _ _ (not_defer hd)]
  unfold Oper.still at hh
  generalize (execOp a.eval o).run P w = r at *
  cases r with
  | ok x w' =>
    cases x <;> simp only [Oper.stillUpon] at hh <;> simp only [Oper.uponIn]
    case enter f args =>
      obtain ⟨rfl, v, hc, hn⟩ := hh
      exact ⟨hF.depth, hF.calls (hc.mono fun e w'' ⟨he, hw⟩ => by subst he; subst hw; exact h _ hn)⟩
    all_goals (obtain ⟨rfl, h2⟩ := hh; exact h _ h2)
  | halt x w' => simp only [Oper.stillUpon] at hh
theorem wpOpIn_of_stOp (hF : Wid F) (hd : ∀ o ∈ ops, isDefer o = false) {i : Nat} {a : Act} {K : Act → Prop} {K' : Act → World → Prop} {Q' : Exit → Act → World → Prop} (h : ∀ a, K a → K' a w) (hh : stOp P ops w i K a) : wpOpIn F n P ops Q' i K' a w := by
  unfold stOp at hh
  unfold wpOpIn
  split
  · rename_i ho; simp only [ho] at hh; exact h _ hh
  · rename_i o ho
    simp only [ho] at hh
    split
    · rename_i hw; simp only [hw, if_true] at hh; exact wpIn_of_still hF (hd o (Array.mem_of_getElem? ho)) h hh
    · rename_i hw; simp only [hw] at hh; exact ⟨fun f _ => hF.fn f, h _ hh⟩
theorem wpAnyIn_of_head (hF : Wid F) (hd : ∀ o ∈ ops, isDefer o = false) {m g : Nat} {L : Array Bool → Act → Prop} {Q' : Exit → Act → World → Prop} (hL : ∀ listed a, L listed a → wpAnyIn F n P md ops Q' g listed a w) :
    ∀ (f : Nat) (listed : Array Bool) (a : Act), wpAnyL P md ops w m L f listed a → wpAnyIn F n P md ops Q' (f + g) listed a w
  | 0, listed, a, h => by rw [Nat.zero_add]; exact hL _ _ h
  | f + 1, listed, a, h => by
    rw [show f + 1 + g = (f + g) + 1 by omega]
    exact ⟨fun h0 => absurd h0 h.1, fun i hi => wpOpIn_of_stOp hF hd (fun a' h' => wpAnyIn_of_head hF hd hL f _ a' h') (h.2 i hi).2⟩
theorem wpAnyIn_of_seq {Q' : Exit → Act → World → Prop} : ∀ (l : List Oper) (k : Nat) (listed : Array Bool) (a : Act) (w : World), (∀ j, l[j]? = ops[k + j]?) →
    Region.seqB md ops l.length k listed = true → wpListIn F n P ops Q' l a w → wpAnyIn F n P md ops Q' l.length listed a w
  | [], _, _, _, _, _, hB, h => ⟨by simpa [Region.seqB] using hB, h⟩
  | o :: l, k, listed, a, w, hl, hB, h => by
    have h0 : ops[k]? = some o := by simpa using (hl 0).symm
    simp only [List.length_cons, Region.seqB, Bool.and_eq_true, decide_eq_true_eq] at hB
    refine ⟨fun h1 => (by rw [hB.1] at h1; cases h1), fun i hi => ?_⟩
    rw [hB.1] at hi
    have hik : i = k := by simpa using hi
    subst hik
    have hw : wpOpIn F n P ops Q' i (wpListIn F n P ops Q' l) a w := by unfold wpOpIn; simp only [h0]; exact h
    exact wpOpIn_mono (fun a' w' h' => wpAnyIn_of_seq l (i + 1) _ a' w' (fun j => by have := hl (j + 1); simpa [Nat.add_assoc, Nat.add_comm 1 j] using this) hB.2 h') hw

/-- Reads and quiet calls first, the last ones one after another, in a fence. -/
theorem wpIn_region_still_tail (hF : Wid F) {id : Nat} {Q : Exit → Act → World → Prop} {a : Act} {l : List Oper} (m : Nat) (hm : P.follows .mixedOrders = true) (hB : Region.lexTailB .any l.toArray m = true) (hd : l.all (fun o => !isDefer o) = true)
    (h : wpStill P l.toArray { w with drawn := w.drawn + 1 } (fun a' => wpListIn F n P l.toArray Q (l.drop m) a' { w with drawn := w.drawn + 1 }) (l.take m) a) : (Code.region id l.toArray true).wpIn F n P Q a w := by
  simp only [Region.lexTailB, Bool.and_eq_true, decide_eq_true_eq] at hB
  obtain ⟨⟨⟨⟨hsel, hn⟩, hs⟩, hc⟩, hlex⟩ := hB
  have hd' : ∀ o ∈ l.toArray, isDefer o = false := fun o ho => by simpa using List.all_eq_true.1 hd o (by simpa using ho)
  have hn' : m < l.length := by simpa using hn
  have htl : (l.take m).length = m := by simp; omega
  have hdl : (l.drop m).length = l.toArray.size - m := by simp
  have inv0 : HeadInv .any l.toArray m (Array.replicate l.toArray.size false) :=
    ⟨by simp, fun j oj _ hl => (by rw [getD_replicate_false] at hl; cases hl), fun t _ ht => getD_in (by simpa using ht) (getD_replicate_false _ _)⟩
  have H := wpAnyL_lex (md := .any) (g := l.toArray.size - m) hsel hs hc hn (l.take m) 0 _ a (fun j hj => by
    have hj' : j < m := by rw [htl] at hj; exact hj
    simp [hj']) (by simpa using htl) inv0 (by rw [htl]; exact hlex) h
  refine wpIn_region_any hm ?_
  have := wpAnyIn_of_head (n := n) (Q' := Q) (g := l.toArray.size - m) hF hd' (fun listed a' hL => by
    have := wpAnyIn_of_seq (F := F) (n := n) (md := .any) (Q' := Q) (l.drop m) m listed a' { w with drawn := w.drawn + 1 } (fun j => by simp [List.getElem?_drop]) (by rw [hdl]; exact hL.1) hL.2
    rwa [hdl] at this) _ _ _ H
  rw [htl, show m + (l.toArray.size - m) = l.toArray.size by omega] at this
  exact this
end
end Go.Proofs.Ytockmhhiomdlkaa

namespace Go.Proofs.Ytockmhhiomdlkaa
set_option linter.unusedSimpArgs false
set_option linter.unusedVariables false

section
variable {P : Program} {ops : Array Oper} {Q : Exit → Act → World → Prop} {md : Region.Mode} {S : World → Prop} {z : Nat}
/-- S is asked till z has come up. -/
def Kept (S : World → Prop) (z : Nat) (listed : Array Bool) (w : World) : Prop := listed.getD z false = true ∨ S w
def wpS (P : Program) (md : Region.Mode) (ops : Array Oper) (Q : Exit → Act → World → Prop) (S : World → Prop) (z : Nat) : Nat → Array Bool → Act → World → Prop
  | 0, listed, a, w => Region.ready md ops listed = [] ∧ Q .normal a w
  | f + 1, listed, a, w => (Region.ready md ops listed = [] → Q .normal a w) ∧
    ∀ i ∈ Region.ready md ops listed, wpOp P ops Q i (fun a' w' => Kept S z (listed.setIfInBounds i true) w' ∧ wpS P md ops Q S z f (listed.setIfInBounds i true) a' w') a w
theorem any_of_wpS : ∀ (f : Nat) (listed : Array Bool) (a : Act) (w : World), wpS P md ops Q S z f listed a w → wpAny P md ops Q f listed a w
  | 0, _, _, _, h => h
  | f + 1, _, _, _, h => ⟨h.1, fun i hi => wpOp_mono (fun a' w' h' => any_of_wpS f _ a' w' h'.2) (h.2 i hi)⟩
/-- All ahead of z, but for those that are named, have to come up ahead of z. -/
def leadB (md : Region.Mode) (ops : Array Oper) (z : Nat) (skip : List Nat) : Bool :=
  (List.range z).all fun i => skip.contains i || (List.range (z + 1)).any fun j => decide (i < j) && !skip.contains j && Region.waitsFor md ops j i
/-- What has come up had all that it waits for. -/
def Closd (md : Region.Mode) (ops : Array Oper) (listed : Array Bool) : Prop :=
  ∀ j oj, ops[j]? = some oj → listed.getD j false = true → ∀ e ∈ oj.after, Region.binds md e = true → listed.getD e.on false = true
theorem Closd.start (n : Nat) : Closd md ops (Array.replicate n false) := fun j oj _ hl => by
  rw [getD_replicate_false] at hl; cases hl
theorem Closd.set {i : Nat} {listed : Array Bool} (h : Closd md ops listed) (hi : i ∈ Region.ready md ops listed) : Closd md ops (listed.setIfInBounds i true) := fun j oj hj hl e he hb => by
  obtain ⟨_, oi, hoi, hall⟩ := mem_ready.1 hi
  by_cases hij : i = j
  · subst hij
    have : oj = oi := Option.some.inj (hj.symm.trans hoi)
    subst this
    exact getD_set_true (hall e he hb)
  · rw [getD_set_ne false hij] at hl
    exact getD_set_true (h j oj hj hl e he hb)
/-- Where all that z waits for has come up, all ahead of z has. -/
theorem Closd.all {listed : Array Bool} {skip : List Nat} (hs : leadB md ops z skip = true) (h : Closd md ops listed) (hz : ∀ oz, ops[z]? = some oz → ∀ e ∈ oz.after, Region.binds md e = true → listed.getD e.on false = true) :
    ∀ (d i : Nat), z - i = d → i < z → skip.contains i = false → listed.getD i false = true := by
  intro d
  induction d using Nat.strongRecOn with
  | _ d ih =>
    intro i hd hi hsk
    have h1 := List.all_eq_true.1 hs i (List.mem_range.2 hi)
    rw [hsk, Bool.false_or] at h1
    obtain ⟨j, hj, hj2⟩ := List.any_eq_true.1 h1
    simp only [Bool.and_eq_true, decide_eq_true_eq, Bool.not_eq_true'] at hj2
    obtain ⟨oj, hoj, e, he, hb, hon⟩ := Region.waitsFor_spec hj2.2
    have hjle : j ≤ z := by have := List.mem_range.1 hj; omega
    rw [← hon]
    by_cases hjz : j = z
    · subst hjz; exact hz oj hoj e he hb
    · exact h j oj hoj (ih (z - j) (by omega) j rfl (by omega) hj2.1.2) e he hb
theorem Closd.not_yet {listed : Array Bool} {skip : List Nat} (hs : leadB md ops z skip = true) (h : Closd md ops listed) {i : Nat} (hi : i < z) (hsk : skip.contains i = false) (hun : listed.getD i true = false) : z ∉ Region.ready md ops listed ∧ listed.getD z false = false := by
  have key : ¬ ∀ oz, ops[z]? = some oz → ∀ e ∈ oz.after, Region.binds md e = true → listed.getD e.on false = true := fun hz => by
    have := h.all hs hz (z - i) i rfl hi hsk
    rw [getD_both hun] at this
    cases this
  constructor
  · intro hr
    obtain ⟨_, ot, hot, hall⟩ := mem_ready.1 hr
    exact key fun oz hoz => by
      have : oz = ot := Option.some.inj (hoz.symm.trans hot)
      subst this; exact hall
  · cases hl : listed.getD z false with
    | false => rfl
    | true => exact absurd (fun oz hoz => h z oz hoz hl) key
/-- An operation is taken first. -/
theorem wpS_first {i : Nat} {oi : Oper} {v : Value} {T : World → Prop} (hi : ops[i]? = some oi) (hsel : ∀ (j : Nat) (o : Oper) cs b, ops[j]? = some o → o.op ≠ .select cs b)
    (hQ : ∀ c a w, Q (.panic c) (a.put oi.dst v) w → Q (.panic c) a w) (hiz : i ≠ z) {skip : List Nat} (hT : (∀ w, T w) ∨ (leadB md ops z skip = true ∧ skip.contains i = false ∧ i < z ∧ ∀ w, S w → T w)) :
    ∀ (f : Nat) (listed : Array Bool) (a : Act) (w : World),
      (∀ j oj, ops[j]? = some oj → j ≠ i → listed.getD j true = false → (∀ e ∈ oj.after, Region.binds md e = true → e.on ≠ i) → oi.apart ops oj = true) →
      Closd md ops listed → i ∈ Region.ready md ops listed → YieldsIf P ops T oi v a → Kept S z listed w →
      wpS P md ops Q S z f (listed.setIfInBounds i true) (a.put oi.dst v) w → wpS P md ops Q S z (f + 1) listed a w := by
  intro f
  have now : ∀ (listed : Array Bool) (w : World), Closd md ops listed → i ∈ Region.ready md ops listed → Kept S z listed w → T w := fun listed w hcl hr hk => by
    rcases hT with h | ⟨h1, h2, h3, h4⟩
    · exact h w
    · rcases hk with hk | hk
      · rw [(hcl.not_yet h1 h3 h2 (mem_ready.1 hr).1).2] at hk; cases hk
      · exact h4 w hk
  have keepZ : ∀ (listed : Array Bool) (j : Nat) (w : World), Kept S z ((listed.setIfInBounds i true).setIfInBounds j true) w → Kept S z (listed.setIfInBounds j true) w := fun listed j w hk => by
    rcases hk with hk | hk
    · left
      by_cases hji : j = i
      · subst hji
        rw [getD_set_ne false hiz, getD_set_ne false hiz] at hk
        rw [getD_set_ne false hiz]; exact hk
      · rw [Array.setIfInBounds_comm _ _ (fun e => hji e.symm), getD_set_ne false hiz] at hk
        exact hk
    · exact .inr hk
  have self : ∀ (listed : Array Bool) (w : World), Kept S z listed w → Kept S z (listed.setIfInBounds i true) w := fun listed w hk => by
    rcases hk with hk | hk
    · exact .inl (getD_set_true hk)
    · exact .inr hk
  induction f with
  | zero =>
    intro listed a w _ hcl hr hy hk H
    refine ⟨fun h => (by rw [h] at hr; cases hr), fun j hj => ?_⟩
    by_cases hji : j = i
    · subst hji; exact hy.wpOp hi (now _ _ hcl hr hk) ⟨self _ _ hk, H⟩
    · have := ready_mono hj hji
      rw [H.1] at this
      cases this
  | succ f ih =>
    intro listed a w hfree hcl hr hy hk H
    refine ⟨fun h => (by rw [h] at hr; cases hr), fun j hj => ?_⟩
    by_cases hji : j = i
    · subst hji; exact hy.wpOp hi (now _ _ hcl hr hk) ⟨self _ _ hk, H⟩
    · have h1 := H.2 j (ready_mono hj hji)
      obtain ⟨hjun, oj, hoj, hall⟩ := mem_ready.1 hj
      have hun := (mem_ready.1 hr).1
      have hnot : ∀ e ∈ oj.after, Region.binds md e = true → e.on ≠ i := fun e he hb heq => by
        have h1 := hall e he hb
        rw [heq, getD_both hun] at h1
        cases h1
      have h2 := wpOp_putIf hoj (hfree j oj hoj hji hjun hnot) (fun cs b => hsel i oi cs b hi) (fun cs b => hsel j oj cs b hoj) hQ hy h1
      have hfree' : ∀ k ok, ops[k]? = some ok → k ≠ i → (listed.setIfInBounds j true).getD k true = false →
          (∀ e ∈ ok.after, Region.binds md e = true → e.on ≠ i) → oi.apart ops ok = true := fun k ok hk hki hun hno => by
        refine hfree k ok hk hki ?_ hno
        by_cases hjk : j = k
        · subst hjk; exact hjun
        · rw [getD_set_ne true hjk] at hun; exact hun
      refine wpOp_mono (fun a' w' h3 => ⟨keepZ _ _ _ h3.2.1, ih (listed.setIfInBounds j true) a' w' hfree' (hcl.set hj) (ready_mono hr (Ne.symm hji)) h3.1 (keepZ _ _ _ h3.2.1) ?_⟩) h2
      rw [Array.setIfInBounds_comm _ _ hji]
      exact h3.2.2

/-- The walk's state: what has come up is closed, and the condition holds. -/
def AtS (P : Program) (md : Region.Mode) (ops : Array Oper) (Q : Exit → Act → World → Prop) (S : World → Prop) (z f : Nat) (listed : Array Bool) (a : Act) (w : World) : Prop :=
  Closd md ops listed → Kept S z listed w → wpS P md ops Q S z f listed a w
/-- A load, or another operation that looks at the world. -/
theorem AtS.load {i : Nat} {oi : Oper} {v : Value} {f : Nat} {listed : Array Bool} {a : Act} {w : World} (hi : ops[i]? = some oi)
    (hs : Region.noSelect ops = true) (hf : Region.free md ops listed i = true) (hr : (Region.ready md ops listed).contains i = true)
    (hQ : ∀ c a w, Q (.panic c) (a.put oi.dst v) w → Q (.panic c) a w) (skip : List Nat) (hz : (leadB md ops z skip && !skip.contains i && decide (i < z)) = true) (hy : YieldsIf P ops S oi v a)
    (h : AtS P md ops Q S z f (listed.setIfInBounds i true) (a.put oi.dst v) w) : AtS P md ops Q S z (f + 1) listed a w := fun hcl hk => by
  simp only [Bool.and_eq_true, decide_eq_true_eq, Bool.not_eq_true'] at hz
  have hr' : i ∈ Region.ready md ops listed := by simpa using hr
  refine wpS_first (T := S) hi (Region.noSelect_spec hs) hQ (by omega) (.inr ⟨hz.1.1, hz.1.2, hz.2, fun _ h => h⟩) f listed a w (Region.free_spec hi hf) hcl hr' hy hk (h (hcl.set hr') ?_)
  rcases hk with hk | hk
  · exact .inl (getD_set_true hk)
  · exact .inr hk
/-- An operation that looks at no world. -/
theorem AtS.free {i : Nat} {oi : Oper} {v : Value} {f : Nat} {listed : Array Bool} {a : Act} {w : World} (hi : ops[i]? = some oi)
    (hs : Region.noSelect ops = true) (hf : Region.free md ops listed i = true) (hr : (Region.ready md ops listed).contains i = true)
    (hQ : ∀ c a w, Q (.panic c) (a.put oi.dst v) w → Q (.panic c) a w) (hz : (i != z) = true) (hy : YieldsIf P ops (fun _ => True) oi v a)
    (h : AtS P md ops Q S z f (listed.setIfInBounds i true) (a.put oi.dst v) w) : AtS P md ops Q S z (f + 1) listed a w := fun hcl hk => by
  have hr' : i ∈ Region.ready md ops listed := by simpa using hr
  refine wpS_first (T := fun _ => True) (skip := []) hi (Region.noSelect_spec hs) hQ (by simpa using hz) (.inl fun _ => trivial) f listed a w (Region.free_spec hi hf) hcl hr' hy hk (h (hcl.set hr') ?_)
  rcases hk with hk | hk
  · exact .inl (getD_set_true hk)
  · exact .inr hk
/-- The one that comes up next, ahead of z: the condition is shown anew. -/
theorem AtS.only {i : Nat} {oi : Oper} {f : Nat} {listed : Array Bool} {a : Act} {w : World} (hi : ops[i]? = some oi) (hr : Region.ready md ops listed = [i]) (hw : Region.wanted oi (yielded ops a.tmps) = true)
    (h : ∀ K : Act → World → Prop, (∀ a' w', S w' → AtS P md ops Q S z f (listed.setIfInBounds i true) a' w' → K a' w') → Oper.wp P oi a w K Q) : AtS P md ops Q S z (f + 1) listed a w := fun hcl hk => by
  refine ⟨fun h0 => (by rw [hr] at h0; cases h0), fun j hj => ?_⟩
  have hj' := hj
  rw [hr] at hj
  obtain rfl : j = i := by simpa using hj
  refine wpOp_step hi fun K hK => ?_
  rw [if_pos hw]
  exact h K fun a' w' hS h' => hK a' w' ⟨.inr hS, h' (hcl.set hj') (.inr hS)⟩
/-- z, and what comes up behind it. -/
theorem AtS.late {i : Nat} {oi : Oper} {f : Nat} {listed : Array Bool} {a : Act} {w : World} (hi : ops[i]? = some oi) (hr : Region.ready md ops listed = [i]) (hw : Region.wanted oi (yielded ops a.tmps) = true)
    (hz : (listed.setIfInBounds i true).getD z false = true)
    (h : ∀ K : Act → World → Prop, (∀ a' w', AtS P md ops Q S z f (listed.setIfInBounds i true) a' w' → K a' w') → Oper.wp P oi a w K Q) : AtS P md ops Q S z (f + 1) listed a w := fun hcl hk => by
  refine ⟨fun h0 => (by rw [hr] at h0; cases h0), fun j hj => ?_⟩
  have hj' := hj
  rw [hr] at hj
  obtain rfl : j = i := by simpa using hj
  refine wpOp_step hi fun K hK => ?_
  rw [if_pos hw]
  exact h K fun a' w' h' => hK a' w' ⟨.inl hz, h' (hcl.set hj') (.inl hz)⟩
/-- The same, by a law on a region's step. -/
theorem AtS.law {i : Nat} {oi : Oper} {f : Nat} {listed : Array Bool} {a : Act} {w : World} (hi : ops[i]? = some oi) (hr : Region.ready md ops listed = [i])
    (hz : (listed.setIfInBounds i true).getD z false = true)
    (h : if Region.wanted oi (yielded ops a.tmps) = true then Oper.wp P oi a w (fun a' w' => AtS P md ops Q S z f (listed.setIfInBounds i true) a' w') Q else False) : AtS P md ops Q S z (f + 1) listed a w := by
  by_cases hw : Region.wanted oi (yielded ops a.tmps) = true
  · rw [if_pos hw] at h
    exact AtS.late hi hr hw hz fun K hK => Oper.wp_mono hK h
  · rw [if_neg hw] at h
    exact h.elim
theorem AtS.done {listed : Array Bool} {a : Act} {w : World} (hr : Region.ready md ops listed = []) (h : Q .normal a w) : AtS P md ops Q S z 0 listed a w := fun _ _ => ⟨hr, h⟩
theorem AtS.start {id : Nat} {a : Act} {w : World} (hm : P.follows .mixedOrders = true) (hS : S w.drew) (z : Nat)
    (h : AtS P .any ops (NoPanic Q) S z ops.size (Array.replicate ops.size false) a w.drew) : (Code.region id ops true).wp P Q a w :=
  wp_region_noPanic <| wp_region_any hm (any_of_wpS _ _ _ _ (h (Closd.start _) (.inr hS)))

/-- Nothing but going on. -/
def OnlyN (Q : Exit → Act → World → Prop) : Exit → Act → World → Prop
  | .normal, a, w => Q .normal a w
  | _, _, _ => False
theorem OnlyN.imp : ∀ (e : Exit) (a : Act) (w : World), OnlyN Q e a w → Q e a w := fun e a w h => by
  cases e <;> first | exact h | exact (h : False).elim
theorem OnlyN.normal {a : Act} {w : World} (h : Q .normal a w) : OnlyN Q .normal a w := h
theorem wpIn_of_wp {F : Fence} {n : Nat} (hF : Wid F) {o : Oper} (hd : isDefer o = false) {a : Act} {w : World} {K : Act → World → Prop} (h : Oper.wp P o a w K Q) : o.wpIn F n P a w K Q := by
  refine ⟨fun f _ => hF.fn f, ?_⟩
  rw [Oper.semAt_eq _ _ _ (not_defer hd)]
  unfold Oper.wp at h
  generalize (execOp a.eval o).run P w = r at *
  cases r with
  | ok x w' =>
    cases x <;> simp only [Oper.upon] at h <;> simp only [Oper.uponIn]
    case enter f args => exact ⟨hF.depth, hF.calls h⟩
    case row f args => exact ⟨hF.depth, hF.rows h⟩
    all_goals exact h
  | halt x w' => cases x <;> simp only [Oper.upon] at h <;> simp only [Oper.uponIn] <;> exact h
theorem wpOpIn_of_wpOp {F : Fence} {n : Nat} (hF : Wid F) (hd : ∀ o ∈ ops, isDefer o = false) (hL : ¬ LetsOut Q) {i : Nat} {K : Act → World → Prop} {a : Act} {w : World} (h : wpOp P ops Q i K a w) : wpOpIn F n P ops Q i K a w := by
  unfold wpOp at h
  unfold wpOpIn
  split
  · rename_i ho; simp only [ho] at h; exact h
  · rename_i o ho
    simp only [ho] at h
    split
    · rename_i hw
      simp only [hw, if_true] at h
      rcases h with h | h
      · exact wpIn_of_wp hF (hd o (Array.mem_of_getElem? ho)) h
      · exact absurd h.2 hL
    · rename_i hw; simp only [hw] at h; exact ⟨fun f _ => hF.fn f, h⟩
theorem wpAnyIn_of_wpAny {F : Fence} {n : Nat} (hF : Wid F) (hd : ∀ o ∈ ops, isDefer o = false) (hL : ¬ LetsOut Q) : ∀ (f : Nat) (listed : Array Bool) (a : Act) (w : World), wpAny P md ops Q f listed a w → wpAnyIn F n P md ops Q f listed a w
  | 0, _, _, _, h => h
  | f + 1, _, _, _, h => ⟨h.1, fun i hi => wpOpIn_of_wpOp hF hd hL (wpOp_mono (fun a' w' h' => wpAnyIn_of_wpAny hF hd hL f _ a' w' h') (h.2 i hi))⟩
/-- The same region in a fence. -/
theorem AtS.startIn {F : Fence} {n : Nat} (hF : Wid F) {id : Nat} {l : List Oper} {a : Act} {w : World} (hm : P.follows .mixedOrders = true) (hd : l.all (fun o => !isDefer o) = true) (hS : S w.drew) (z : Nat)
    (h : AtS P .any l.toArray (OnlyN Q) S z l.toArray.size (Array.replicate l.toArray.size false) a w.drew) : (Code.region id l.toArray true).wpIn F n P Q a w :=
  wpIn_mono (wpIn_region_any hm (wpAnyIn_of_wpAny hF (fun o ho => by simpa using List.all_eq_true.1 hd o (by simpa using ho)) (fun ⟨_, _, h⟩ => h) _ _ _ _ (any_of_wpS _ _ _ _ (h (Closd.start _) (.inr hS))))) OnlyN.imp
end
end Go.Proofs.Ytockmhhiomdlkaa

namespace Go.Proofs.Ytockmhhiomdlkaa
set_option linter.unusedSimpArgs false
set_option linter.unusedVariables false

section
variable {P : Program} {ops : Array Oper} {Q : Exit → Act → World → Prop} {md : Region.Mode} {S : World → Prop} {z : Nat}
/-- Either may come up next, ahead of z. -/
theorem AtS.two {i j : Nat} {oi oj : Oper} {f : Nat} {listed : Array Bool} {a : Act} {w : World} (hi : ops[i]? = some oi) (hj : ops[j]? = some oj) (hr : Region.ready md ops listed = [i, j]) (hwi : Region.wanted oi (yielded ops a.tmps) = true) (hwj : Region.wanted oj (yielded ops a.tmps) = true)
    (h1 : ∀ K : Act → World → Prop, (∀ a' w', S w' → AtS P md ops Q S z f (listed.setIfInBounds i true) a' w' → K a' w') → Oper.wp P oi a w K Q)
    (h2 : ∀ K : Act → World → Prop, (∀ a' w', S w' → AtS P md ops Q S z f (listed.setIfInBounds j true) a' w' → K a' w') → Oper.wp P oj a w K Q) : AtS P md ops Q S z (f + 1) listed a w := fun hcl hk => by
  refine ⟨fun h0 => (by rw [hr] at h0; cases h0), fun k hk' => ?_⟩
  have hk2 := hk'
  rw [hr] at hk'
  rcases List.mem_cons.1 hk' with rfl | hk'
  · refine wpOp_step hi fun K hK => ?_
    rw [if_pos hwi]
    exact h1 K fun a' w' hS h' => hK a' w' ⟨.inr hS, h' (hcl.set hk2) (.inr hS)⟩
  · obtain rfl : k = j := by simpa using hk'
    refine wpOp_step hj fun K hK => ?_
    rw [if_pos hwj]
    exact h2 K fun a' w' hS h' => hK a' w' ⟨.inr hS, h' (hcl.set hk2) (.inr hS)⟩
end
theorem of_if {c : Prop} [Decidable c] {X : Prop} (hc : c) (h : if c then X else False) : X := by rw [if_pos hc] at h; exact h
end Go.Proofs.Ytockmhhiomdlkaa

namespace Go.Proofs.Ytockmhhiomdlkaa
set_option linter.unusedSimpArgs false
set_option linter.unusedVariables false
open Go.RowKit

/-- Blocks below B, and from h on, are as they were, but for rows of t. -/
structure KeepA (t : TypeId) (B h : Nat) (W W' : World) : Prop where
  size : W.heap.size ≤ W'.heap.size
  same : ∀ b o, b < B ∨ h ≤ b → W.heap[b]? = some o → (∀ cs fz, o ≠ .cells cs t fz) → W'.heap[b]? = some o
  low : ∀ b o, b < B → W.heap[b]? = some o → W'.heap[b]? = some o
section
variable {t : TypeId} {B h : Nat}
theorem KeepA.refl (W : World) : KeepA t B h W W := ⟨Nat.le_refl _, fun _ _ _ h _ => h, fun _ _ _ h => h⟩
theorem KeepA.trans {a b c : World} (x : KeepA t B h a b) (y : KeepA t B h b c) : KeepA t B h a c := ⟨Nat.le_trans x.size y.size, fun i o hi hl ho => y.same i o hi (x.same i o hi hl ho) ho, fun i o hi hl => y.low i o hi (x.low i o hi hl)⟩
theorem KeepA.of_below {a b : World} (k : Below a.heap.size a b) : KeepA t B h a b := ⟨k.size, fun i _ _ hl _ => (k.block i (Array.getElem?_eq_some_iff.1 hl).1).trans hl, fun i _ _ hl => (k.block i (Array.getElem?_eq_some_iff.1 hl).1).trans hl⟩
theorem World.putObj_size (W : World) (r : Nat) (o : Obj) : (W.putObj r o).heap.size = W.heap.size := by simp [World.putObj]
theorem KeepA.put {W : World} {r : Nat} {o o' : Obj} (_ : W.heap[r]? = some o) (h1 : B ≤ r) (h2 : r < h) : KeepA t B h W (W.putObj r o') :=
  ⟨by rw [World.putObj_size]; exact Nat.le_refl _, fun b _ hb hl _ => (World.putObj_heap_other (by omega)).trans hl, fun b _ hb hl => (World.putObj_heap_other (by omega)).trans hl⟩
theorem KeepA.mono {h' : Nat} {W W' : World} (k : KeepA t B h W W') (hh : h ≤ h') : KeepA t B h' W W' := ⟨k.size, fun b o hb => k.same b o (by omega), k.low⟩
theorem KeepA.blk {W W' : World} {g : Nat} {t' : TypeId} {cs : Array Value} (k : KeepA t B h W W') (hb : Blk W g t' cs) (hg : g < B ∨ h ≤ g) (ht : t' ≠ t) : Blk W' g t' cs :=
  k.same g _ hg hb fun cs' fz e => ht (by injection e)
end

/-- How a round of such a body ends. -/
def ownPost {α : Type} (tk : TypeId) (B h : Nat) (I : Nat → List α → World → Prop) (xs : List α) (W : World) : Exit → Act → World → Prop
  | .normal, _, W' => KeepsOthers W W' ∧ KeepA tk B h W W' ∧ I W'.heap.size xs W'
  | _, _, _ => False

theorem wp_range_own {α : Type} {P : Program} {n : Nat} {g : Operand} {ps : Array Tmp} {assign body : Code} {Q : Exit → Act → World → Prop} {a : Act} {w : World}
    {gf : Nat} {lb : Array Value} (hg : a.eval g = .func (.func gf) #[] lb) (eg : ∀ args w, (callFunc gf args).run P w = .ok (.enter gf args) w)
    (enc : α → Value) (hps : ps.size = 1) (G : List α → α → Prop) (xs : List α) (tk : TypeId) (B : Nat) (I : Nat → List α → World → Prop) (hBw : B ≤ w.heap.size) (hIm : ∀ h h' pre W, h ≤ h' → I h pre W → I h' pre W)
    (hIb : ∀ h pre W W', Below W.heap.size W W' → I h pre W → I h pre W') (hIp : ∀ h pre W r o o', w.heap.size ≤ r → I h pre W → W.heap[r]? = some o → o.isCells = false → I h pre (W.putObj r o'))
    (h0 : I w.heap.size [] w)
    (hit : ∀ (l : Nat) (J : Nat → List α → World → Prop), (∀ h pre W W', Below W.heap.size W W' → J h pre W → J h pre W') → (∀ h h' pre W, h ≤ h' → J h pre W → J h' pre W) →
      (∀ h pre x W, J h pre W → h ≤ W.heap.size → G pre x → YieldAt Fence.wide (n - 1 - 1) P l #[enc x] W fun e W' => e = .returned (.bool true) ∧ J W'.heap.size (pre ++ [x]) W' ∧ KeepA tk B h W W') →
      ∀ W, Below w.heap.size w W → J W.heap.size [] W → CallsIn Fence.wide (n - 1) P gf (#[.func (.yield l) #[] #[]] ++ lb) W fun e W' => (∃ v, e = .returned v) ∧ J W'.heap.size xs W')
    (up : α → World → World) (hup : ∀ x W, Below W.heap.size W (up x W)) (a₁ : α → World → Act)
    (hassign : ∀ (l : Nat) (x : α) (W : World) (K : Act → World → Prop), K (a₁ x W) (up x W) →
      assign.wpIn (Fence.wide.inRound l) (n - 1 - 1) P (Exit.then K (fun _ _ _ => False)) { tmps := (ps.zip #[enc x]).foldl (fun t (p, v) => t.setIfInBounds p v) a.tmps, defers := [] } W)
    (hbody : ∀ (l h : Nat) (pre : List α) (x : α) (W W' : World), w.heap.size + 2 ≤ h → h ≤ W.heap.size → (∃ r o o', (up x W).heap[r]? = some o ∧ o.isCells = false ∧ W' = (up x W).putObj r o') → I h pre W' → G pre x →
      body.wpIn (Fence.wide.inRound l) (n - 1 - 1) P (ownPost tk B h I (pre ++ [x]) W') (a₁ x W) W')
    (hdone : ∀ (D : Nat) (W : World), w.heap.size ≤ D → I W.heap.size xs W → W.heap[D]? = some (.deferred (some [])) → Q .normal { a with defers := { target := .collected D, args := #[] } :: a.defers } W) :
    (Code.rangeFunc g ps assign body).wpIn Fence.wide n P Q a w := by
  refine wpIn_rangeFunc ?_
  intro fn hfn
  obtain ⟨rec, hrec⟩ : ∃ rec : LoopState → Option Code → Loop, rec = fun st pe => { state := st, pending := pe, fn, tmps := a.tmps, params := ps, assign, body, defers := w.heap.size } := ⟨_, rfl⟩
  obtain ⟨W1, hW1⟩ : ∃ W1, (w.alloc (.deferred (some []))).alloc (.loop (rec .ready none)) = W1 := ⟨_, rfl⟩
  have hL1 : W1.heap[w.heap.size + 1]? = some (.loop (rec .ready none)) := by
    rw [← hW1]; have := World.alloc_heap_new (w.alloc (.deferred (some []))) (.loop (rec .ready none)); rwa [World.size_alloc] at this
  have hK1 : W1.heap[w.heap.size]? = some (.deferred (some [])) := by
    rw [← hW1]; exact (Below.heap_alloc _ _ _ (by simp)).trans (World.alloc_heap_new w _)
  have hB1 : Below w.heap.size w W1 := by rw [← hW1]; exact ((Below.refl _ _).alloc (Nat.le_refl _) _).alloc (by simp) _
  have hI1 : I W1.heap.size [] W1 := hIm _ _ _ _ hB1.size (hIb _ _ _ _ hB1 h0)
  have hs1 : w.heap.size + 2 ≤ W1.heap.size := by have := (Array.getElem?_eq_some_iff.1 hL1).1; omega
  refine ⟨w.heap.size + 1, [{ target := .collected w.heap.size, args := #[] }], W1, { target := .fn (.func gf) lb, args := #[.func (.yield (w.heap.size + 1)) #[] #[]] }, W1, gf,
    #[.func (.yield (w.heap.size + 1)) #[] #[]] ++ lb, W1, ?_, ?_, fun _ _ => trivial, ?_, (fun h => by cases h), ?_⟩
  · rw [← hW1, hrec]; exact run_enterLoop_outer _ _ _ _ _
  · simp only [resolve, hg]
    simp [go_sem]
  · simp [invoke, go_sem, eg]
  · refine (hit (w.heap.size + 1) (fun h pre W => (I h pre W ∧ w.heap.size + 2 ≤ h) ∧ W.heap[w.heap.size + 1]? = some (.loop (rec .ready none)) ∧ W.heap[w.heap.size]? = some (.deferred (some [])))
      (fun h pre W W' hb h => ⟨⟨hIb _ _ _ _ hb h.1.1, h.1.2⟩, (hb.block _ (Array.getElem?_eq_some_iff.1 h.2.1).1).trans h.2.1, (hb.block _ (Array.getElem?_eq_some_iff.1 h.2.2).1).trans h.2.2⟩) (fun h h' pre W hle k => ⟨⟨hIm _ _ _ _ hle k.1.1, by omega⟩, k.2⟩) ?_ W1 hB1 ⟨⟨hI1, hs1⟩, hL1, hK1⟩).mono ?_
    · rintro h pre x W ⟨⟨hi, hh⟩, hl, hk⟩ hhW hlen
      have hlt : w.heap.size + 1 < W.heap.size := (Array.getElem?_eq_some_iff.1 hl).1
      have hy := run_yield (P := P) (args := #[enc x]) hl (by rw [hrec]; exact hps.symm)
      rw [hrec] at hy
      have hb9 := hup x W
      have hl9 := (hb9.block _ hlt).trans hl
      have hk9 := (hb9.block _ (Array.getElem?_eq_some_iff.1 hk).1).trans hk
      have hi9 := hIb _ _ _ _ hb9 hi
      refine ⟨fn, _, assign, body, hy, roundIn_of_wpIn hfn (hassign _ x W _ ⟨_, run_beginRound hl9 (by rw [hrec]), ?_⟩)⟩
      have hu : ∀ o', ∃ r o o'', (up x W).heap[r]? = some o ∧ o.isCells = false ∧ (up x W).putObj (w.heap.size + 1) o' = (up x W).putObj r o'' := fun o' => ⟨_, _, o', hl9, rfl, rfl⟩
      have hlt9 : w.heap.size + 1 < (up x W).heap.size := (Array.getElem?_eq_some_iff.1 hl9).1
      have hT9 : KeepA tk B h W (up x W) := KeepA.of_below hb9
      have hl2 : ((up x W).putObj (w.heap.size + 1) (.loop { rec .ready none with state := .busy })).heap[w.heap.size + 1]? = some (.loop { rec .ready none with state := .busy }) := World.putObj_heap_same hlt9
      have hk2 : ((up x W).putObj (w.heap.size + 1) (.loop { rec .ready none with state := .busy })).heap[w.heap.size]? = some (.deferred (some [])) := (World.putObj_heap_other (by omega)).trans hk9
      have hb2 : KeepA tk B h W ((up x W).putObj (w.heap.size + 1) (.loop { rec .ready none with state := .busy })) := hT9.trans (KeepA.put hl9 (by omega) (by omega))
      refine wpIn_mono (hbody _ h pre x W _ hh hhW (hu _) (hIp _ _ _ _ _ _ (by omega) hi9 hl9 rfl) hlen) ?_
      rintro e a3 W3 hp
      cases e with
      | normal =>
        obtain ⟨hk3, hb3, hi3⟩ := hp
        have hl3 := hk3.same _ _ hl2 rfl
        have hr := run_endRound (P := P) none hl3
        rw [hrec] at hr
        refine ⟨_, _, hr, rfl, ⟨⟨by rw [World.putObj_size]; exact hIp _ _ _ _ _ _ (by omega) hi3 hl3 rfl, ?_⟩, ?_, (World.putObj_heap_other (by omega)).trans (hk3.same _ _ hk2 rfl)⟩, (hb2.trans hb3).trans (KeepA.put hl3 (by omega) (by omega))⟩
        · have := (Array.getElem?_eq_some_iff.1 hl3).1
          rw [World.putObj_size]; omega
        rw [hrec]
        exact World.putObj_heap_same (Array.getElem?_eq_some_iff.1 hl3).1
      | ret => exact hp.elim
      | exit id => exact hp.elim
      | goto t => exact hp.elim
      | panic ch => exact hp.elim
      | outgrown => exact hp.elim
    · rintro e W2 ⟨⟨v, rfl⟩, ⟨hi, _⟩, hl, hk⟩
      have := run_endLoop (P := P) hl (by rw [hrec]; simp)
      rw [hrec] at this
      exact ⟨none, _, this, hdone w.heap.size _ (Nat.le_refl _) (by rw [World.putObj_size]; exact hIp _ _ _ _ _ _ (by omega) hi hl rfl) ((World.putObj_heap_other (by omega)).trans hk)⟩
end Go.Proofs.Ytockmhhiomdlkaa

namespace Go.Proofs.Ytockmhhiomdlkaa
set_option linter.unusedSimpArgs false
set_option linter.unusedVariables false
open Go.RowKit

/-- Blocks below h that are not in M are as they were. -/
structure KeepN (M : Nat → Prop) (h : Nat) (W W' : World) : Prop where
  size : W.heap.size ≤ W'.heap.size
  low : ∀ b o, b < h → ¬ M b → W.heap[b]? = some o → W'.heap[b]? = some o
section
variable {M : Nat → Prop} {h : Nat}
theorem KeepN.refl (W : World) : KeepN M h W W := ⟨Nat.le_refl _, fun _ _ _ _ h => h⟩
theorem KeepN.trans {a b c : World} (x : KeepN M h a b) (y : KeepN M h b c) : KeepN M h a c := ⟨Nat.le_trans x.size y.size, fun i o hi hm hl => y.low i o hi hm (x.low i o hi hm hl)⟩
theorem KeepN.of_below {a b : World} (k : Below a.heap.size a b) : KeepN M h a b := ⟨k.size, fun i _ _ _ hl => (k.block i (Array.getElem?_eq_some_iff.1 hl).1).trans hl⟩
theorem KeepN.put {W : World} {r : Nat} {o' : Obj} (h1 : h ≤ r) : KeepN M h W (W.putObj r o') :=
  ⟨by rw [World.putObj_size]; exact Nat.le_refl _, fun b _ hb _ hl => (World.putObj_heap_other (by omega)).trans hl⟩
theorem KeepN.set {W : World} {b o : Nat} {u : Value} (hm : M b) : KeepN M h W (W.setCell ⟨b, o, none⟩ u) :=
  ⟨by simp [World.setCell], fun i _ _ hn hl => (Below.heap_setCell W ⟨b, o, none⟩ u i (fun e => hn (e ▸ hm))).trans hl⟩
theorem KeepN.blk {W W' : World} {g : Nat} {t : TypeId} {cs : Array Value} (k : KeepN M h W W') (hb : Blk W g t cs) (hg : g < h) (hm : ¬ M g) : Blk W' g t cs := k.low g _ hg hm hb
end

/-- One of two ends. -/
def finP (stop : Bool) (A B : Prop) : Prop := if stop = true then A else B
/-- How a round of such a body ends. -/
def goPost (M : Nat → Prop) (h : Nat) (I : World → Prop) (W : World) : Exit → Act → World → Prop
  | .normal, _, W' => KeepsOthers W W' ∧ KeepN M h W W' ∧ I W'
  | _, _, _ => False
def badPost (M : Nat → Prop) (h : Nat) (I : World → Prop) (W : World) : Exit → Act → World → Prop
  | .ret, _, W' => KeepsOthers W W' ∧ KeepN M h W W' ∧ I W'
  | _, _, _ => False

theorem wp_range_stop {α β : Type} {P : Program} {n : Nat} {g : Operand} {ps : Array Tmp} {assign body : Code} {Q : Exit → Act → World → Prop} {a : Act} {w : World}
    {gf : Nat} {lb : Array Value} (hg : a.eval g = .func (.func gf) #[] lb) (eg : ∀ args w, (callFunc gf args).run P w = .ok (.enter gf args) w)
    (hps : ps.size = 2) (mk : β → Value × Value) (E : α → β → World → Prop) (Z : β → Prop)
    (hEp : ∀ x b W r o o', E x b W → W.heap[r]? = some o → o.isCells = false → E x b (W.putObj r o'))
    (M : Nat → Prop) (xs : List α) (stop : Bool) (I : List α → World → Prop) (Ix : World → Prop)
    (hIb : ∀ pre W W', Below W.heap.size W W' → I pre W → I pre W') (hIp : ∀ pre W r o o', w.heap.size ≤ r → I pre W → W.heap[r]? = some o → o.isCells = false → I pre (W.putObj r o'))
    (hXb : ∀ W W', Below W.heap.size W W' → Ix W → Ix W') (hXp : ∀ W r o o', w.heap.size ≤ r → Ix W → W.heap[r]? = some o → o.isCells = false → Ix (W.putObj r o'))
    (h0 : I [] w)
    (hit : ∀ (l : Nat) (J : List α → World → Prop) (Jx : World → Prop), (∀ pre W W', Below W.heap.size W W' → J pre W → J pre W') → (∀ W W', Below W.heap.size W W' → Jx W → Jx W') →
      (∀ pre x b W, J pre W → pre ++ [x] <+: xs → E x b W → YieldAt Fence.wide (n - 1 - 1) P l #[(mk b).1, (mk b).2] W fun e W' => e = .returned (.bool true) ∧ J (pre ++ [x]) W' ∧ KeepN M w.heap.size W W') →
      (∀ b W, J xs W → stop = true → Z b → YieldAt Fence.wide (n - 1 - 1) P l #[(mk b).1, (mk b).2] W fun e W' => e = .returned (.bool false) ∧ Jx W' ∧ KeepN M w.heap.size W W') →
      ∀ W, Below w.heap.size w W → J [] W → CallsIn Fence.wide (n - 1) P gf (#[.func (.yield l) #[] #[]] ++ lb) W fun e W' => (∃ v, e = .returned v) ∧ finP stop (Jx W') (J xs W'))
    (a₁ : β → Act)
    (hassign : ∀ (l : Nat) (b : β) (W : World) (K : Act → World → Prop), K (a₁ b) W →
      assign.wpIn (Fence.wide.inRound l) (n - 1 - 1) P (Exit.then K (fun _ _ _ => False)) { tmps := (ps.zip #[(mk b).1, (mk b).2]).foldl (fun t (p, v) => t.setIfInBounds p v) a.tmps, defers := [] } W)
    (hbody : ∀ (l : Nat) (pre : List α) (x : α) (b : β) (W : World), w.heap.size + 2 ≤ W.heap.size → I pre W → pre ++ [x] <+: xs → E x b W → body.wpIn (Fence.wide.inRound l) (n - 1 - 1) P (goPost M w.heap.size (I (pre ++ [x])) W) (a₁ b) W)
    (hbad : ∀ (l : Nat) (b : β) (W : World), w.heap.size + 2 ≤ W.heap.size → I xs W → stop = true → Z b → body.wpIn (Fence.wide.inRound l) (n - 1 - 1) P (badPost M w.heap.size Ix W) (a₁ b) W)
    (hdone : ∀ (D : Nat) (W : World), w.heap.size ≤ D → stop = false → I xs W → W.heap[D]? = some (.deferred (some [])) → Q .normal { a with defers := { target := .collected D, args := #[] } :: a.defers } W)
    (hstop : ∀ (D : Nat) (W : World), w.heap.size ≤ D → stop = true → Ix W → W.heap[D]? = some (.deferred (some [])) → Code.ret.wpIn Fence.wide n P Q { a with defers := { target := .collected D, args := #[] } :: a.defers } W) :
    (Code.rangeFunc g ps assign body).wpIn Fence.wide n P Q a w := by
  refine wpIn_rangeFunc ?_
  intro fn hfn
  obtain ⟨rec, hrec⟩ : ∃ rec : LoopState → Option Code → Loop, rec = fun st pe => { state := st, pending := pe, fn, tmps := a.tmps, params := ps, assign, body, defers := w.heap.size } := ⟨_, rfl⟩
  obtain ⟨W1, hW1⟩ : ∃ W1, (w.alloc (.deferred (some []))).alloc (.loop (rec .ready none)) = W1 := ⟨_, rfl⟩
  have hL1 : W1.heap[w.heap.size + 1]? = some (.loop (rec .ready none)) := by
    rw [← hW1]; have := World.alloc_heap_new (w.alloc (.deferred (some []))) (.loop (rec .ready none)); rwa [World.size_alloc] at this
  have hK1 : W1.heap[w.heap.size]? = some (.deferred (some [])) := by
    rw [← hW1]; exact (Below.heap_alloc _ _ _ (by simp)).trans (World.alloc_heap_new w _)
  have hB1 : Below w.heap.size w W1 := by rw [← hW1]; exact ((Below.refl _ _).alloc (Nat.le_refl _) _).alloc (by simp) _
  have hI1 : I [] W1 := hIb _ _ _ hB1 h0
  refine ⟨w.heap.size + 1, [{ target := .collected w.heap.size, args := #[] }], W1, { target := .fn (.func gf) lb, args := #[.func (.yield (w.heap.size + 1)) #[] #[]] }, W1, gf,
    #[.func (.yield (w.heap.size + 1)) #[] #[]] ++ lb, W1, ?_, ?_, fun _ _ => trivial, ?_, (fun h => by cases h), ?_⟩
  · rw [← hW1, hrec]; exact run_enterLoop_outer _ _ _ _ _
  · simp only [resolve, hg]
    simp [go_sem]
  · simp [invoke, go_sem, eg]
  · refine (hit (w.heap.size + 1) (fun pre W => I pre W ∧ W.heap[w.heap.size + 1]? = some (.loop (rec .ready none)) ∧ W.heap[w.heap.size]? = some (.deferred (some [])))
      (fun W => Ix W ∧ W.heap[w.heap.size + 1]? = some (.loop (rec .done (some .ret))) ∧ W.heap[w.heap.size]? = some (.deferred (some [])))
      (fun pre W W' hb h => ⟨hIb _ _ _ hb h.1, (hb.block _ (Array.getElem?_eq_some_iff.1 h.2.1).1).trans h.2.1, (hb.block _ (Array.getElem?_eq_some_iff.1 h.2.2).1).trans h.2.2⟩)
      (fun W W' hb h => ⟨hXb _ _ hb h.1, (hb.block _ (Array.getElem?_eq_some_iff.1 h.2.1).1).trans h.2.1, (hb.block _ (Array.getElem?_eq_some_iff.1 h.2.2).1).trans h.2.2⟩) ?_ ?_ W1 hB1 ⟨hI1, hL1, hK1⟩).mono ?_
    · rintro pre x b W ⟨hi, hl, hk⟩ hpre hx
      have hlt : w.heap.size + 1 < W.heap.size := (Array.getElem?_eq_some_iff.1 hl).1
      have hy := run_yield (P := P) (args := #[(mk b).1, (mk b).2]) hl (by rw [hrec]; exact hps.symm)
      rw [hrec] at hy
      refine ⟨fn, _, assign, body, hy, roundIn_of_wpIn hfn (hassign _ b W _ ⟨_, run_beginRound hl (by rw [hrec]), ?_⟩)⟩
      have hl2 : (W.putObj (w.heap.size + 1) (.loop { rec .ready none with state := .busy })).heap[w.heap.size + 1]? = some (.loop { rec .ready none with state := .busy }) := World.putObj_heap_same hlt
      have hk2 : (W.putObj (w.heap.size + 1) (.loop { rec .ready none with state := .busy })).heap[w.heap.size]? = some (.deferred (some [])) := (World.putObj_heap_other (by omega)).trans hk
      refine wpIn_mono (hbody _ pre x b _ (by rw [World.putObj_size]; omega) (hIp _ _ _ _ _ (by omega) hi hl rfl) hpre (hEp _ _ _ _ _ _ hx hl rfl)) ?_
      rintro e a3 W3 hp
      cases e with
      | normal =>
        obtain ⟨hk3, hb3, hi3⟩ := hp
        have hl3 := hk3.same _ _ hl2 rfl
        have hr := run_endRound (P := P) none hl3
        rw [hrec] at hr
        refine ⟨_, _, hr, rfl, ⟨hIp _ _ _ _ _ (by omega) hi3 hl3 rfl, ?_, (World.putObj_heap_other (by omega)).trans (hk3.same _ _ hk2 rfl)⟩, ((KeepN.put (by omega)).trans hb3).trans (KeepN.put (by omega))⟩
        rw [hrec]
        exact World.putObj_heap_same (Array.getElem?_eq_some_iff.1 hl3).1
      | ret => exact hp.elim
      | exit id => exact hp.elim
      | goto t => exact hp.elim
      | panic ch => exact hp.elim
      | outgrown => exact hp.elim
    · rintro b W ⟨hi, hl, hk⟩ hst hx
      have hlt : w.heap.size + 1 < W.heap.size := (Array.getElem?_eq_some_iff.1 hl).1
      have hy := run_yield (P := P) (args := #[(mk b).1, (mk b).2]) hl (by rw [hrec]; exact hps.symm)
      rw [hrec] at hy
      refine ⟨fn, _, assign, body, hy, roundIn_of_wpIn hfn (hassign _ b W _ ⟨_, run_beginRound hl (by rw [hrec]), ?_⟩)⟩
      have hl2 : (W.putObj (w.heap.size + 1) (.loop { rec .ready none with state := .busy })).heap[w.heap.size + 1]? = some (.loop { rec .ready none with state := .busy }) := World.putObj_heap_same hlt
      have hk2 : (W.putObj (w.heap.size + 1) (.loop { rec .ready none with state := .busy })).heap[w.heap.size]? = some (.deferred (some [])) := (World.putObj_heap_other (by omega)).trans hk
      refine wpIn_mono (hbad _ b _ (by rw [World.putObj_size]; omega) (hIp _ _ _ _ _ (by omega) hi hl rfl) hst hx) ?_
      rintro e a3 W3 hp
      cases e with
      | ret =>
        obtain ⟨hk3, hb3, hi3⟩ := hp
        have hl3 := hk3.same _ _ hl2 rfl
        have hr := run_endRound (P := P) (some .ret) hl3
        rw [hrec] at hr
        refine ⟨_, _, hr, rfl, ⟨hXp _ _ _ _ (by omega) hi3 hl3 rfl, ?_, (World.putObj_heap_other (by omega)).trans (hk3.same _ _ hk2 rfl)⟩, ((KeepN.put (by omega)).trans hb3).trans (KeepN.put (by omega))⟩
        rw [hrec]
        exact World.putObj_heap_same (Array.getElem?_eq_some_iff.1 hl3).1
      | normal => exact hp.elim
      | exit id => exact hp.elim
      | goto t => exact hp.elim
      | panic ch => exact hp.elim
      | outgrown => exact hp.elim
    · rintro e W2 ⟨⟨v, rfl⟩, hW⟩
      cases stop with
      | false =>
        obtain ⟨hi, hl, hk⟩ : I xs W2 ∧ _ := by simpa [finP] using hW
        have := run_endLoop (P := P) hl (by rw [hrec]; simp)
        rw [hrec] at this
        exact ⟨none, _, this, hdone w.heap.size _ (Nat.le_refl _) rfl (hIp _ _ _ _ _ (by omega) hi hl rfl) ((World.putObj_heap_other (by omega)).trans hk)⟩
      | true =>
        obtain ⟨hi, hl, hk⟩ : Ix W2 ∧ _ := by simpa [finP] using hW
        have := run_endLoop (P := P) hl (by rw [hrec]; simp)
        rw [hrec] at this
        exact ⟨some .ret, _, this, hstop w.heap.size _ (Nat.le_refl _) rfl (hXp _ _ _ _ (by omega) hi hl rfl) ((World.putObj_heap_other (by omega)).trans hk)⟩
end Go.Proofs.Ytockmhhiomdlkaa

namespace Go.Proofs.Ytockmhhiomdlkaa
set_option linter.unusedSimpArgs false
set_option linter.unusedVariables false
open Go.RowKit

theorem wpListIn_append_any {F : Fence} {k : Nat} {P : Program} (w : World) {ops : Array Oper} {rest : List Oper} {o : Oper} {a : Act} {Q : Exit → Act → World → Prop} (hgd : o.guard = none) (s x : Operand) (t : TypeId)
    (ho : o.op = .call { callee := .builtin .append, args := #[s, x], argTypes := #[t, t] })
    (base : Nat) (e : TypeId) (i : TypeInfo) (z : Value) (size bytes : Nat) (ht : P.underlying t = some (.slice e)) (hi : P.info? e = some i) (hz : i.zero = some z)
    (hsize : i.size = size) (hby : i.bytes = bytes) (hzs : z.cells.size = size) (hsz : 0 < size)
    (v : Value) (n : Nat) (xs : List Value) (hs : a.eval s = v) (hown : w.ownsRow base e size v n xs)
    (A : Option Addr) (m c : Nat) (news : List Value) (hx : a.eval x = .slice A m c) (hl : news.length = m * size) (hr : CellsAt w A news) (h1 : ∀ u ∈ news, u.oneCell' = true)
    (h63 : n + m ≤ 9223372036854775807) (hbytes : (n + m) * bytes ≤ 140737488355328) (hbase : base ≤ w.heap.size)
    (h : ∀ v' w', w'.ownsRow base e size v' (n + m) (xs ++ news) → w.grownBy w' v.ownBlock → (v'.ownBlock = v.ownBlock ∨ v'.ownBlock = some w.heap.size) → wpListIn F k P ops Q rest (a.put o.dst v') w') :
    wpListIn F k P ops Q (o :: rest) a w := by
  refine wpListIn_plain hgd fun K hK => ?_
  have h63' : n + m ≤ maxLen := by unfold maxLen; omega
  rcases A with _ | ad
  · have hn : news = [] := by
      cases news with
      | nil => rfl
      | cons u us =>
        obtain ⟨_, _, e, _⟩ := hr 0 u rfl
        cases e
    subst hn
    have hm : m = 0 := by
      have h2 : m * size = 0 := hl.symm
      rcases Nat.mul_eq_zero.1 h2 with h | h
      · exact h
      · omega
    subst hm
    have hrun : (Builtin.append_ #[t, t] o.type #[v, .slice none 0 c]).run P w = .ok v w := by
      rcases hown.2 with ⟨rfl, rfl⟩ | ⟨g, cap, cur, rfl, _, _, hnc, _⟩
      · simp [Builtin.append_, run_underlying ht, sizeOf, typeInfo, hi, Builtin.lenOf, Builtin.firstCells]
      · simp [Builtin.append_, run_underlying ht, sizeOf, typeInfo, hi, Builtin.lenOf, Builtin.firstCells, hnc, storeCells]
    unfold Oper.wpIn
    refine ⟨?_, ?_⟩
    · simp [Oper.about, ho, resolve, Target.leads, Sem.run_pure]
    · rw [Oper.semAt_plain F _ _ (by rw [ho]; intro c hc'; cases hc')]
      simp [execOp, ho, resolve, invoke, builtin, hs, hx, hrun, Result.andThen]
      exact hK _ _ (h v w (by simpa using hown) (World.grownBy.refl w _) (.inl rfl))
  · obtain ⟨v', w', hrun, r1, r2, _, r3⟩ := run_append_own_at (P := P) w base t o.type e i z size bytes ht hi hz hsize hby hzs hsz v n xs hown ad m c news hl hr.kit h1 h63' hbytes hbase
    unfold Oper.wpIn
    refine ⟨?_, ?_⟩
    · simp [Oper.about, ho, resolve, Target.leads, Sem.run_pure]
    · rw [Oper.semAt_plain F _ _ (by rw [ho]; intro c hc'; cases hc')]
      simp [execOp, ho, resolve, invoke, builtin, hs, hx, hrun, Result.andThen]
      exact hK _ _ (h v' w' r1 r2 r3)
end Go.Proofs.Ytockmhhiomdlkaa

namespace Go.Proofs.Ytockmhhiomdlkaa
set_option linter.unusedSimpArgs false
set_option linter.unusedVariables false
open Go.RowKit

section
variable {P : Program} {ops : Array Oper} {Q : Exit → Act → World → Prop} {md : Region.Mode}
theorem wpAny_more : ∀ (f f' : Nat) (listed : Array Bool) (a : Act) (w : World), f ≤ f' → wpAny P md ops Q f listed a w → wpAny P md ops Q f' listed a w
  | 0, 0, _, _, _, _, h => h
  | 0, f' + 1, _, _, _, _, h => ⟨fun _ => h.2, fun i hi => by rw [h.1] at hi; cases hi⟩
  | f + 1, 0, _, _, _, hl, _ => by omega
  | f + 1, f' + 1, _, _, _, hl, h => ⟨h.1, fun i hi => wpOp_mono (fun a' w' h' => wpAny_more f f' _ a' w' (by omega) h') (h.2 i hi)⟩
def dstOf (ops : Array Oper) (i : Nat) : Option Tmp := (ops[i]?).bind (·.dst)
/-- What holds while the first m come up. -/
structure Prm (ops : Array Oper) (m : Nat) (φ : Nat → Value → World → Prop) (a0 : Act) (w0 : World) (listed : Array Bool) (a : Act) (w : World) : Prop where
  df : a.defers = a0.defers
  len : a.tmps.size = a0.tmps.size
  old : ∀ t, (∀ i, i < m → listed.getD i false = true → dstOf ops i ≠ some t) → a.tmps[t]? = a0.tmps[t]?
  new : ∀ i d, i < m → listed.getD i false = true → dstOf ops i = some d → φ i (a.tmps.getD d undef) w
  late : ∀ i, m ≤ i → i < ops.size → listed.getD i true = false
  bel : Below w0.heap.size w0 w
/-- The checks. -/
def promB (md : Region.Mode) (ops : Array Oper) (m sz : Nat) : Bool :=
  decide (1 ≤ m) && decide (m ≤ ops.size) && (decide (ops.size ≤ m) || leadB md ops (m - 1) []) &&
  (List.range ops.size).all fun i => match ops[i]? with
    | none => false
    | some o => o.guard.isNone && o.after.all (fun e => decide (e.on < i)) && (decide (i < m) || o.after.any fun e => Region.binds md e && decide (m - 1 ≤ e.on)) &&
      (decide (m ≤ i) || (match o.dst with | none => true | some d => decide (d < sz) && (List.range m).all fun j => decide (j = i) || decide (dstOf ops j ≠ some d)))
theorem prom_phase {m g : Nat} {φ : Nat → Value → World → Prop} {a0 : Act} {w0 : World} (hB : promB md ops m a0.tmps.size = true)
    (hφ : ∀ i v w w', φ i v w → Below w.heap.size w w' → φ i v w')
    (hstep : ∀ i o, i < m → ops[i]? = some o → ∀ a w, a.defers = a0.defers → a.tmps.size = a0.tmps.size → (∀ t, (∀ j, j < m → dstOf ops j ≠ some t) → a.tmps[t]? = a0.tmps[t]?) → Below w0.heap.size w0 w →
      (∀ j d, j < m → (o.after.any fun e => Region.binds md e && decide (e.on = j)) = true → dstOf ops j = some d → φ j (a.tmps.getD d undef) w) →
      ∀ K : Act → World → Prop, (∀ v w', φ i v w' → Below w.heap.size w w' → K (a.put o.dst v) w') → o.wp P a w K Q)
    (hfin : ∀ listed a w, listed.size = ops.size → Prm ops m φ a0 w0 listed a w → (∀ i, i < m → listed.getD i false = true) → Closd md ops listed → wpAny P md ops Q g listed a w) :
    ∀ (c : Nat) (L : List Nat) (listed : Array Bool) (a : Act) (w : World), L.length = c → (∀ i, i < m → listed.getD i true = false → i ∈ L) → listed.size = ops.size → Prm ops m φ a0 w0 listed a w → Closd md ops listed →
      wpAny P md ops Q (c + g) listed a w := by
  simp only [promB, Bool.and_eq_true, Bool.or_eq_true, decide_eq_true_eq] at hB
  obtain ⟨⟨⟨hm1, hm2⟩, hlead⟩, hall⟩ := hB
  have chk : ∀ i o, ops[i]? = some o → o.guard = none ∧ (∀ e ∈ o.after, e.on < i) ∧ (i < m ∨ ∃ e ∈ o.after, Region.binds md e = true ∧ m - 1 ≤ e.on) ∧ (i < m → ∀ d, o.dst = some d → d < a0.tmps.size ∧ ∀ j, j < m → j ≠ i → dstOf ops j ≠ some d) := by
    intro i o ho
    have hi := (Array.getElem?_eq_some_iff.1 ho).1
    have h := List.all_eq_true.1 hall i (List.mem_range.2 hi)
    rw [ho] at h
    simp only [Bool.and_eq_true, Bool.or_eq_true, decide_eq_true_eq, List.any_eq_true, Array.any_eq_true', Array.all_eq_true', Option.isNone_iff_eq_none] at h
    obtain ⟨⟨⟨h1, h2⟩, h3⟩, h4⟩ := h
    refine ⟨h1, h2, ?_, ?_⟩
    · rcases h3 with h3 | ⟨e, he, hb, hx⟩
      · exact .inl h3
      · exact .inr ⟨e, he, hb, hx⟩
    · intro him d hd
      rcases h4 with h4 | h4
      · omega
      · rw [hd] at h4
        simp only [Bool.and_eq_true, decide_eq_true_eq, List.all_eq_true, List.mem_range, Bool.or_eq_true] at h4
        exact ⟨h4.1, fun j hj hne => (h4.2 j hj).resolve_left hne⟩
  have both : ∀ (listed : Array Bool) (i : Nat), listed.size = ops.size → i < ops.size → listed.getD i false = false → listed.getD i true = false := fun listed i h1 h2 h3 => by
    simp only [Array.getD_eq_getD_getElem?, Array.getElem?_eq_getElem (show i < listed.size by omega), Option.getD_some] at h3 ⊢
    exact h3
  intro c
  induction c with
  | zero =>
    intro L listed a w hL hun hls hp hcl
    have hnil : L = [] := List.length_eq_zero_iff.1 hL
    subst hnil
    rw [Nat.zero_add]
    refine hfin listed a w hls hp (fun i hi => ?_) hcl
    cases hx : listed.getD i false with
    | true => rfl
    | false => exact absurd (hun i hi (both listed i hls (by omega) hx)) (by simp)
  | succ c ih =>
    intro L listed a w hL hun hls hp hcl
    by_cases h : ∃ i, i < m ∧ listed.getD i true = false
    · obtain ⟨i0, hi0, hu0⟩ := h
      rw [show c + 1 + g = (c + g) + 1 by omega]
      refine ⟨fun hr => ?_, fun i hi => ?_⟩
      · exfalso
        have key : ∀ i, i < m → listed.getD i true = true := by
          intro i
          induction i using Nat.strongRecOn with
          | _ i ihh =>
            intro him
            cases hx : listed.getD i true with
            | true => rfl
            | false =>
              obtain ⟨o, ho⟩ : ∃ o, ops[i]? = some o := ⟨_, Array.getElem?_eq_getElem (by omega)⟩
              have : i ∈ Region.ready md ops listed := mem_ready.2 ⟨hx, o, ho, fun e he _ => by
                have hlt := (chk i o ho).2.1 e he
                have h1 := ihh e.on hlt (by omega)
                cases hy : listed.getD e.on false with
                | true => rfl
                | false => rw [both listed e.on hls (by omega) hy] at h1; cases h1⟩
              rw [hr] at this
              cases this
        rw [key i0 hi0] at hu0
        cases hu0
      · obtain ⟨hiun, oi, hoi, hdep⟩ := mem_ready.1 hi
        obtain ⟨c1, c2, c3, c4⟩ := chk i oi hoi
        have hil := (Array.getElem?_eq_some_iff.1 hoi).1
        have him : i < m := by
          rcases c3 with h3 | ⟨e, he, hb, hx⟩
          · exact h3
          · exfalso
            have h1 := hdep e he hb
            have h2 := c2 e he
            have heq : e.on = m - 1 := by
              rcases Nat.lt_or_ge e.on m with h3 | h3
              · omega
              · have h4 := hp.late e.on h3 (by omega)
                rw [getD_both h4] at h1; cases h1
            rw [heq] at h1
            have hz := hcl.all (skip := []) (hlead.resolve_left (by omega)) (fun oz hoz e' he' hb' => hcl (m - 1) oz hoz h1 e' he' hb')
            rcases Nat.lt_or_ge i0 (m - 1) with h5 | h5
            · have := hz _ i0 rfl h5 (by simp)
              rw [getD_both hu0] at this; cases this
            · have : i0 = m - 1 := by omega
              rw [this] at hu0
              rw [getD_both hu0] at h1; cases h1
        have hw : Region.wanted oi (yielded ops a.tmps) = true := by simp [Region.wanted, c1]
        refine wpOp_step hoi fun K hK => ?_
        rw [if_pos hw]
        refine hstep i oi him hoi a w hp.df hp.len (fun t ht => hp.old t fun j hj _ => ht j hj) hp.bel (fun j d hj hd hdj => ?_) K fun v w' hv hb => ?_
        · simp only [Array.any_eq_true', Bool.and_eq_true, decide_eq_true_eq] at hd
          obtain ⟨e, he, hbi, hon⟩ := hd
          have h1 := hdep e he hbi
          rw [hon] at h1
          exact hp.new j d hj h1 hdj
        · refine hK _ _ (ih (L.erase i) _ _ _ ?_ ?_ ?_ ?_ (hcl.set hi))
          · rw [List.length_erase_of_mem (hun i him hiun), hL]; rfl
          · intro j hj hjun
            have hji : j ≠ i := by
              rintro rfl
              have hlt : j < listed.size := by omega
              simp [Array.getD_eq_getD_getElem?, Array.getElem?_setIfInBounds, hlt] at hjun
            rw [getD_set_ne true (Ne.symm hji)] at hjun
            exact (List.mem_erase_of_ne hji).2 (hun j hj hjun)
          · rw [Array.size_setIfInBounds]; exact hls
          · have hdi : dstOf ops i = oi.dst := by unfold dstOf; rw [hoi]; rfl
            have hset : ∀ j, j ≠ i → (listed.setIfInBounds i true).getD j false = listed.getD j false := fun j hj => getD_set_ne false (Ne.symm hj)
            have hsi : (listed.setIfInBounds i true).getD i false = true := by
              have hlt : i < listed.size := by omega
              simp [Array.getD_eq_getD_getElem?, Array.getElem?_setIfInBounds, hlt]
            have hput : ∀ t, oi.dst ≠ some t → (a.put oi.dst v).tmps[t]? = a.tmps[t]? := by
              intro t ht
              cases hdo : oi.dst with
              | none => rfl
              | some d =>
                rw [hdo] at ht
                show (a.tmps.setIfInBounds d v)[t]? = _
                rw [Array.getElem?_setIfInBounds, if_neg (fun e => ht (by rw [e]))]
            refine ⟨?_, ?_, ?_, ?_, ?_, hp.bel.trans (hb.mono hp.bel.size)⟩
            · cases oi.dst <;> exact hp.df
            · cases oi.dst with
              | none => exact hp.len
              | some d => show (a.tmps.setIfInBounds d v).size = _; rw [Array.size_setIfInBounds]; exact hp.len
            · intro t ht
              rw [hput t (by rw [← hdi]; exact ht i him hsi)]
              refine hp.old t fun j hj hlj => ?_
              by_cases hji : j = i
              · subst hji; exact ht j hj hsi
              · exact ht j hj (by rw [hset j hji]; exact hlj)
            · intro j d hj hlj hdj
              by_cases hji : j = i
              · subst hji
                rw [hdi] at hdj
                have hds := (c4 him d hdj).1
                have : (a.put oi.dst v).tmps.getD d undef = v := by
                  rw [hdj]
                  show (a.tmps.setIfInBounds d v).getD d undef = v
                  have hlt : d < a.tmps.size := by rw [hp.len]; exact hds
                  simp [Array.getD_eq_getD_getElem?, Array.getElem?_setIfInBounds, hlt]
                rw [this]; exact hv
              · have hne : oi.dst ≠ some d := fun e => (c4 him d e).2 j hj hji hdj
                have e1 : (a.put oi.dst v).tmps.getD d undef = a.tmps.getD d undef := by
                  simp only [Array.getD_eq_getD_getElem?, hput d hne]
                rw [e1]
                exact hφ j _ w w' (hp.new j d hj (by rw [← hset j hji]; exact hlj) hdj) hb
            · intro j hj hjs
              rw [getD_set_ne true (by omega)]
              exact hp.late j hj hjs
    · refine wpAny_more g _ _ _ _ (by omega) (hfin listed a w hls hp (fun i hi => ?_) hcl)
      cases hx : listed.getD i false with
      | true => rfl
      | false => exact absurd ⟨i, hi, both listed i hls (by omega) hx⟩ h
/-- The first m have come up. -/
def firstB (m n : Nat) : Array Bool := (Array.range n).map fun i => decide (i < m)
theorem firstB_eq {m n : Nat} {listed : Array Bool} (hs : listed.size = n) (h1 : ∀ i, i < m → listed.getD i false = true) (h2 : ∀ i, m ≤ i → i < n → listed.getD i true = false) : listed = firstB m n := by
  apply Array.ext
  · simp [firstB, hs]
  · intro i hi1 hi2
    have e : (firstB m n)[i] = decide (i < m) := by simp [firstB]
    rw [e]
    by_cases him : i < m
    · have := h1 i him
      simp only [Array.getD_eq_getD_getElem?, Array.getElem?_eq_getElem hi1, Option.getD_some] at this
      rw [this]; simp [him]
    · have := h2 i (by omega) (by omega)
      simp only [Array.getD_eq_getD_getElem?, Array.getElem?_eq_getElem hi1, Option.getD_some] at this
      rw [this]; simp [him]
theorem prom_start {id : Nat} {a0 : Act} {w : World} (hm : P.follows .mixedOrders = true) (m : Nat) (φ : Nat → Value → World → Prop) (z : Nat) (hB : promB .any ops m a0.tmps.size = true)
    (hφ : ∀ i v w w', φ i v w → Below w.heap.size w w' → φ i v w')
    (hstep : ∀ i o, i < m → ops[i]? = some o → ∀ a w1, a.defers = a0.defers → a.tmps.size = a0.tmps.size → (∀ t, (∀ j, j < m → dstOf ops j ≠ some t) → a.tmps[t]? = a0.tmps[t]?) → Below w.drew.heap.size w.drew w1 →
      (∀ j d, j < m → (o.after.any fun e => Region.binds .any e && decide (e.on = j)) = true → dstOf ops j = some d → φ j (a.tmps.getD d undef) w1) →
      ∀ K : Act → World → Prop, (∀ v w', φ i v w' → Below w1.heap.size w1 w' → K (a.put o.dst v) w') → o.wp P a w1 K (NoPanic Q))
    (hfin : ∀ a w1, a.defers = a0.defers → a.tmps.size = a0.tmps.size → (∀ t, (∀ j, j < m → dstOf ops j ≠ some t) → a.tmps[t]? = a0.tmps[t]?) → Below w.drew.heap.size w.drew w1 → (∀ j d, j < m → dstOf ops j = some d → φ j (a.tmps.getD d undef) w1) →
      AtS P .any ops (NoPanic Q) (fun _ => True) z (ops.size - m) (firstB m ops.size) a w1) : (Code.region id ops true).wp P Q a0 w := by
  refine wp_region_noPanic <| wp_region_any hm ?_
  have hm2 : m ≤ ops.size := by
    simp only [promB, Bool.and_eq_true, decide_eq_true_eq] at hB
    exact hB.1.1.2
  have h := prom_phase (P := P) (md := .any) (Q := NoPanic Q) (g := ops.size - m) hB hφ hstep (fun listed a w1 hls hp hl hcl => ?_) m (List.range m) (Array.replicate ops.size false) a0 w.drew (by simp) (fun i hi _ => List.mem_range.2 hi) (by simp)
    ⟨rfl, rfl, fun _ _ => rfl, fun i d hi hl => (by rw [getD_replicate_false] at hl; cases hl), fun i h1 h2 => getD_in (by simpa using h2) (getD_replicate_false _ _), Below.refl _ _⟩ (Closd.start _)
  · rw [show m + (ops.size - m) = ops.size by omega] at h
    exact h
  · have e := firstB_eq hls hl hp.late
    have hA := hfin a w1 hp.df hp.len (fun t ht => hp.old t fun j hj _ => ht j hj) hp.bel (fun j d hj hd => hp.new j d hj (hl j hj) hd)
    rw [e] at hcl ⊢
    exact any_of_wpS _ _ _ _ (hA hcl (.inr trivial))
end
theorem foldl_set_get (f : Nat → Value) : ∀ (ds : List Nat) (t : Array Value) (k : Nat), k < t.size → (ds.foldl (fun t d => t.setIfInBounds d (f d)) t)[k]? = if k ∈ ds then some (f k) else t[k]?
  | [], t, k, hk => by simp
  | d :: ds, t, k, hk => by
    rw [List.foldl_cons, foldl_set_get f ds _ k (by rw [Array.size_setIfInBounds]; exact hk)]
    by_cases h1 : k ∈ ds
    · rw [if_pos h1, if_pos (List.mem_cons_of_mem _ h1)]
    · rw [if_neg h1]
      by_cases h2 : k = d
      · subst h2
        rw [if_pos List.mem_cons_self, Array.getElem?_setIfInBounds, if_pos rfl, if_pos hk]
      · rw [Array.getElem?_setIfInBounds, if_neg (Ne.symm h2), if_neg (by simp [h1, h2])]
theorem foldl_set_size (f : Nat → Value) : ∀ (ds : List Nat) (t : Array Value), (ds.foldl (fun t d => t.setIfInBounds d (f d)) t).size = t.size
  | [], t => rfl
  | d :: ds, t => by rw [List.foldl_cons, foldl_set_size f ds, Array.size_setIfInBounds]
/-- The act, told whole. -/
theorem act_eq {a a0 : Act} (ds : List Nat) (hdf : a.defers = a0.defers) (hlen : a.tmps.size = a0.tmps.size) (hold : ∀ t, t ∉ ds → a.tmps[t]? = a0.tmps[t]?) :
    a = { tmps := ds.foldl (fun t d => t.setIfInBounds d (a.tmps.getD d undef)) a0.tmps, defers := a0.defers } := by
  have h : a.tmps = ds.foldl (fun t d => t.setIfInBounds d (a.tmps.getD d undef)) a0.tmps := by
    apply Array.ext_getElem?
    intro k
    by_cases hk : k < a0.tmps.size
    · rw [foldl_set_get (fun d => a.tmps.getD d undef) ds a0.tmps k hk]
      by_cases h1 : k ∈ ds
      · rw [if_pos h1, Array.getElem?_eq_getElem (by omega), Array.getD_eq_getD_getElem?, Array.getElem?_eq_getElem (by omega)]; rfl
      · rw [if_neg h1, hold k h1]
    · rw [Array.getElem?_eq_none (by omega), Array.getElem?_eq_none (by rw [foldl_set_size]; omega)]
  cases a
  simp only at h hdf
  rw [← hdf]
  simp only [Act.mk.injEq, and_true]
  exact h
end Go.Proofs.Ytockmhhiomdlkaa
