/- A region that draws its order: loads are taken first while a condition holds, and the condition is asked no more once a given operation has come up. -/
import Derived.StillTail
import Derived.OrdersHeld
import Derived.RegionTactic
import Derived.Deep.RegionHeld3
import Derived.Test.YtiioebpmfjipeaaFence
namespace Go.Proofs.Ytiioebpmfjipeaa

section
variable {P : Program} {ops : Array Oper} {Q : Exit → Act → World → Prop} {md : Region.Mode} {S : World → Prop} {z : Nat}
/-- S is asked till z has come up. -/
def Kept (S : World → Prop) (z : Nat) (listed : Array Bool) (w : World) : Prop := listed.getD z false = true ∨ S w
def wpS (P : Program) (md : Region.Mode) (ops : Array Oper) (Q : Exit → Act → World → Prop) (S : World → Prop) (z : Nat) : Nat → Array Bool → Act → World → Prop
  | 0, listed, a, w => Region.ready md ops listed = [] ∧ Q .normal a w
  | f + 1, listed, a, w => (Region.ready md ops listed = [] → Q .normal a w) ∧
    ∀ i ∈ Region.ready md ops listed, wpOp P ops Q i (fun a' w' => Kept S z (listed.setIfInBounds i true) w' ∧ wpS P md ops Q S z f (listed.setIfInBounds i true) a' w') a w
theorem any_of_wpS : ∀ (f : Nat) (listed : Array Bool) (a : Act) (w : World), wpS P md ops Q S z f listed a w → wpAny P md ops Q f listed a w
  | 0, _, _, _, h => h
  | f + 1, _, _, _, h => ⟨h.1, fun i hi => wpOp_mono (fun a' w' h' => any_of_wpS f _ a' w' h'.2) (h.2 i hi)⟩
/-- All ahead of z, but for those that are named, have to come up ahead of z. -/
def leadB (md : Region.Mode) (ops : Array Oper) (z : Nat) (skip : List Nat) : Bool :=
  (List.range z).all fun i => skip.contains i || (List.range (z + 1)).any fun j => decide (i < j) && !skip.contains j && Region.waitsFor md ops j i
/-- What has come up had all that it waits for. -/
def Closd (md : Region.Mode) (ops : Array Oper) (listed : Array Bool) : Prop :=
  ∀ j oj, ops[j]? = some oj → listed.getD j false = true → ∀ e ∈ oj.after, Region.binds md e = true → listed.getD e.on false = true
theorem Closd.start (n : Nat) : Closd md ops (Array.replicate n false) := fun j oj _ hl => by
  rw [getD_replicate_false] at hl; cases hl
theorem Closd.set {i : Nat} {listed : Array Bool} (h : Closd md ops listed) (hi : i ∈ Region.ready md ops listed) : Closd md ops (listed.setIfInBounds i true) := fun j oj hj hl e he hb => by
  obtain ⟨_, oi, hoi, hall⟩ := mem_ready.1 hi
  by_cases hij : i = j
  · subst hij
    have : oj = oi := Option.some.inj (hj.symm.trans hoi)
    subst this
    exact getD_set_true (hall e he hb)
  · rw [getD_set_ne false hij] at hl
    exact getD_set_true (h j oj hj hl e he hb)
/-- Where all that z waits for has come up, all ahead of z has. -/
theorem Closd.all {listed : Array Bool} {skip : List Nat} (hs : leadB md ops z skip = true) (h : Closd md ops listed) (hz : ∀ oz, ops[z]? = some oz → ∀ e ∈ oz.after, Region.binds md e = true → listed.getD e.on false = true) :
    ∀ (d i : Nat), z - i = d → i < z → skip.contains i = false → listed.getD i false = true := by
  intro d
  induction d using Nat.strongRecOn with
  | _ d ih =>
    intro i hd hi hsk
    have h1 := List.all_eq_true.1 hs i (List.mem_range.2 hi)
    rw [hsk, Bool.false_or] at h1
    obtain ⟨j, hj, hj2⟩ := List.any_eq_true.1 h1
    simp only [Bool.and_eq_true, decide_eq_true_eq, Bool.not_eq_true'] at hj2
    obtain ⟨oj, hoj, e, he, hb, hon⟩ := Region.waitsFor_spec hj2.2
    have hjle : j ≤ z := by have := List.mem_range.1 hj; omega
    rw [← hon]
    by_cases hjz : j = z
    · subst hjz; exact hz oj hoj e he hb
    · exact h j oj hoj (ih (z - j) (by omega) j rfl (by omega) hj2.1.2) e he hb
theorem Closd.not_yet {listed : Array Bool} {skip : List Nat} (hs : leadB md ops z skip = true) (h : Closd md ops listed) {i : Nat} (hi : i < z) (hsk : skip.contains i = false) (hun : listed.getD i true = false) : z ∉ Region.ready md ops listed ∧ listed.getD z false = false := by
  have key : ¬ ∀ oz, ops[z]? = some oz → ∀ e ∈ oz.after, Region.binds md e = true → listed.getD e.on false = true := fun hz => by
    have := h.all hs hz (z - i) i rfl hi hsk
    rw [getD_both hun] at this
    cases this
  constructor
  · intro hr
    obtain ⟨_, ot, hot, hall⟩ := mem_ready.1 hr
    exact key fun oz hoz => by
      have : oz = ot := Option.some.inj (hoz.symm.trans hot)
      subst this; exact hall
  · cases hl : listed.getD z false with
    | false => rfl
    | true => exact absurd (fun oz hoz => h z oz hoz hl) key
/-- An operation is taken first. -/
theorem wpS_first {i : Nat} {oi : Oper} {v : Value} {T : World → Prop} (hi : ops[i]? = some oi) (hsel : ∀ (j : Nat) (o : Oper) cs b, ops[j]? = some o → o.op ≠ .select cs b)
    (hQ : ∀ c a w, Q (.panic c) (a.put oi.dst v) w → Q (.panic c) a w) (hiz : i ≠ z) {skip : List Nat} (hT : (∀ w, T w) ∨ (leadB md ops z skip = true ∧ skip.contains i = false ∧ i < z ∧ ∀ w, S w → T w)) :
    ∀ (f : Nat) (listed : Array Bool) (a : Act) (w : World),
      (∀ j oj, ops[j]? = some oj → j ≠ i → listed.getD j true = false → (∀ e ∈ oj.after, Region.binds md e = true → e.on ≠ i) → oi.apart ops oj = true) →
      Closd md ops listed → i ∈ Region.ready md ops listed → YieldsIf P ops T oi v a → Kept S z listed w →
      wpS P md ops Q S z f (listed.setIfInBounds i true) (a.put oi.dst v) w → wpS P md ops Q S z (f + 1) listed a w := by
  intro f
  have now : ∀ (listed : Array Bool) (w : World), Closd md ops listed → i ∈ Region.ready md ops listed → Kept S z listed w → T w := fun listed w hcl hr hk => by
    rcases hT with h | ⟨h1, h2, h3, h4⟩
    · exact h w
    · rcases hk with hk | hk
      · rw [(hcl.not_yet h1 h3 h2 (mem_ready.1 hr).1).2] at hk; cases hk
      · exact h4 w hk
  have keepZ : ∀ (listed : Array Bool) (j : Nat) (w : World), Kept S z ((listed.setIfInBounds i true).setIfInBounds j true) w → Kept S z (listed.setIfInBounds j true) w := fun listed j w hk => by
    rcases hk with hk | hk
    · left
      by_cases hji : j = i
      · subst hji
        rw [getD_set_ne false hiz, getD_set_ne false hiz] at hk
        rw [getD_set_ne false hiz]; exact hk
      · rw [Array.setIfInBounds_comm _ _ (fun e => hji e.symm), getD_set_ne false hiz] at hk
        exact hk
    · exact .inr hk
  have self : ∀ (listed : Array Bool) (w : World), Kept S z listed w → Kept S z (listed.setIfInBounds i true) w := fun listed w hk => by
    rcases hk with hk | hk
    · exact .inl (getD_set_true hk)
    · exact .inr hk
  induction f with
  | zero =>
    intro listed a w _ hcl hr hy hk H
    refine ⟨fun h => (by rw [h] at hr; cases hr), fun j hj => ?_⟩
    by_cases hji : j = i
    · subst hji; exact hy.wpOp hi (now _ _ hcl hr hk) ⟨self _ _ hk, H⟩
    · have := ready_mono hj hji
      rw [H.1] at this
      cases this
  | succ f ih =>
    intro listed a w hfree hcl hr hy hk H
    refine ⟨fun h => (by rw [h] at hr; cases hr), fun j hj => ?_⟩
    by_cases hji : j = i
    · subst hji; exact hy.wpOp hi (now _ _ hcl hr hk) ⟨self _ _ hk, H⟩
    · have h1 := H.2 j (ready_mono hj hji)
      obtain ⟨hjun, oj, hoj, hall⟩ := mem_ready.1 hj
      have hun := (mem_ready.1 hr).1
      have hnot : ∀ e ∈ oj.after, Region.binds md e = true → e.on ≠ i := fun e he hb heq => by
        have h1 := hall e he hb
        rw [heq, getD_both hun] at h1
        cases h1
      have h2 := wpOp_putIf hoj (hfree j oj hoj hji hjun hnot) (fun cs b => hsel i oi cs b hi) (fun cs b => hsel j oj cs b hoj) hQ hy h1
      have hfree' : ∀ k ok, ops[k]? = some ok → k ≠ i → (listed.setIfInBounds j true).getD k true = false →
          (∀ e ∈ ok.after, Region.binds md e = true → e.on ≠ i) → oi.apart ops ok = true := fun k ok hk hki hun hno => by
        refine hfree k ok hk hki ?_ hno
        by_cases hjk : j = k
        · subst hjk; exact hjun
        · rw [getD_set_ne true hjk] at hun; exact hun
      refine wpOp_mono (fun a' w' h3 => ⟨keepZ _ _ _ h3.2.1, ih (listed.setIfInBounds j true) a' w' hfree' (hcl.set hj) (ready_mono hr (Ne.symm hji)) h3.1 (keepZ _ _ _ h3.2.1) ?_⟩) h2
      rw [Array.setIfInBounds_comm _ _ hji]
      exact h3.2.2

/-- The walk's state: what has come up is closed, and the condition holds. -/
def AtS (P : Program) (md : Region.Mode) (ops : Array Oper) (Q : Exit → Act → World → Prop) (S : World → Prop) (z f : Nat) (listed : Array Bool) (a : Act) (w : World) : Prop :=
  Closd md ops listed → Kept S z listed w → wpS P md ops Q S z f listed a w
/-- A load, or another operation that looks at the world. -/
theorem AtS.load {i : Nat} {oi : Oper} {v : Value} {f : Nat} {listed : Array Bool} {a : Act} {w : World} (hi : ops[i]? = some oi)
    (hs : Region.noSelect ops = true) (hf : Region.free md ops listed i = true) (hr : (Region.ready md ops listed).contains i = true)
    (hQ : ∀ c a w, Q (.panic c) (a.put oi.dst v) w → Q (.panic c) a w) (skip : List Nat) (hz : (leadB md ops z skip && !skip.contains i && decide (i < z)) = true) (hy : YieldsIf P ops S oi v a)
    (h : AtS P md ops Q S z f (listed.setIfInBounds i true) (a.put oi.dst v) w) : AtS P md ops Q S z (f + 1) listed a w := fun hcl hk => by
  simp only [Bool.and_eq_true, decide_eq_true_eq, Bool.not_eq_true'] at hz
  have hr' : i ∈ Region.ready md ops listed := by simpa using hr
  refine wpS_first (T := S) hi (Region.noSelect_spec hs) hQ (by omega) (.inr ⟨hz.1.1, hz.1.2, hz.2, fun _ h => h⟩) f listed a w (Region.free_spec hi hf) hcl hr' hy hk (h (hcl.set hr') ?_)
  rcases hk with hk | hk
  · exact .inl (getD_set_true hk)
  · exact .inr hk
/-- An operation that looks at no world. -/
theorem AtS.free {i : Nat} {oi : Oper} {v : Value} {f : Nat} {listed : Array Bool} {a : Act} {w : World} (hi : ops[i]? = some oi)
    (hs : Region.noSelect ops = true) (hf : Region.free md ops listed i = true) (hr : (Region.ready md ops listed).contains i = true)
    (hQ : ∀ c a w, Q (.panic c) (a.put oi.dst v) w → Q (.panic c) a w) (hz : (i != z) = true) (hy : YieldsIf P ops (fun _ => True) oi v a)
    (h : AtS P md ops Q S z f (listed.setIfInBounds i true) (a.put oi.dst v) w) : AtS P md ops Q S z (f + 1) listed a w := fun hcl hk => by
  have hr' : i ∈ Region.ready md ops listed := by simpa using hr
  refine wpS_first (T := fun _ => True) (skip := []) hi (Region.noSelect_spec hs) hQ (by simpa using hz) (.inl fun _ => trivial) f listed a w (Region.free_spec hi hf) hcl hr' hy hk (h (hcl.set hr') ?_)
  rcases hk with hk | hk
  · exact .inl (getD_set_true hk)
  · exact .inr hk
/-- The one that comes up next, ahead of z: the condition is shown anew. -/
theorem AtS.only {i : Nat} {oi : Oper} {f : Nat} {listed : Array Bool} {a : Act} {w : World} (hi : ops[i]? = some oi) (hr : Region.ready md ops listed = [i]) (hw : Region.wanted oi (yielded ops a.tmps) = true)
    (h : ∀ K : Act → World → Prop, (∀ a' w', S w' → AtS P md ops Q S z f (listed.setIfInBounds i true) a' w' → K a' w') → Oper.wp P oi a w K Q) : AtS P md ops Q S z (f + 1) listed a w := fun hcl hk => by
  refine ⟨fun h0 => (by rw [hr] at h0; cases h0), fun j hj => ?_⟩
  have hj' := hj
  rw [hr] at hj
  obtain rfl : j = i := by simpa using hj
  refine wpOp_step hi fun K hK => ?_
  rw [if_pos hw]
  exact h K fun a' w' hS h' => hK a' w' ⟨.inr hS, h' (hcl.set hj') (.inr hS)⟩
/-- z, and what comes up behind it. -/
theorem AtS.late {i : Nat} {oi : Oper} {f : Nat} {listed : Array Bool} {a : Act} {w : World} (hi : ops[i]? = some oi) (hr : Region.ready md ops listed = [i]) (hw : Region.wanted oi (yielded ops a.tmps) = true)
    (hz : (listed.setIfInBounds i true).getD z false = true)
    (h : ∀ K : Act → World → Prop, (∀ a' w', AtS P md ops Q S z f (listed.setIfInBounds i true) a' w' → K a' w') → Oper.wp P oi a w K Q) : AtS P md ops Q S z (f + 1) listed a w := fun hcl hk => by
  refine ⟨fun h0 => (by rw [hr] at h0; cases h0), fun j hj => ?_⟩
  have hj' := hj
  rw [hr] at hj
  obtain rfl : j = i := by simpa using hj
  refine wpOp_step hi fun K hK => ?_
  rw [if_pos hw]
  exact h K fun a' w' h' => hK a' w' ⟨.inl hz, h' (hcl.set hj') (.inl hz)⟩
/-- The same, by a law on a region's step. -/
theorem AtS.law {i : Nat} {oi : Oper} {f : Nat} {listed : Array Bool} {a : Act} {w : World} (hi : ops[i]? = some oi) (hr : Region.ready md ops listed = [i])
    (hz : (listed.setIfInBounds i true).getD z false = true)
    (h : if Region.wanted oi (yielded ops a.tmps) = true then Oper.wp P oi a w (fun a' w' => AtS P md ops Q S z f (listed.setIfInBounds i true) a' w') Q else False) : AtS P md ops Q S z (f + 1) listed a w := by
  by_cases hw : Region.wanted oi (yielded ops a.tmps) = true
  · rw [if_pos hw] at h
    exact AtS.late hi hr hw hz fun K hK => Oper.wp_mono hK h
  · rw [if_neg hw] at h
    exact h.elim
theorem AtS.done {listed : Array Bool} {a : Act} {w : World} (hr : Region.ready md ops listed = []) (h : Q .normal a w) : AtS P md ops Q S z 0 listed a w := fun _ _ => ⟨hr, h⟩
theorem AtS.start {id : Nat} {a : Act} {w : World} (hm : P.follows .mixedOrders = true) (hS : S w.drew) (z : Nat)
    (h : AtS P .any ops (NoPanic Q) S z ops.size (Array.replicate ops.size false) a w.drew) : (Code.region id ops true).wp P Q a w :=
  wp_region_noPanic <| wp_region_any hm (any_of_wpS _ _ _ _ (h (Closd.start _) (.inr hS)))

/-- Nothing but going on. -/
def OnlyN (Q : Exit → Act → World → Prop) : Exit → Act → World → Prop
  | .normal, a, w => Q .normal a w
  | _, _, _ => False
theorem OnlyN.imp : ∀ (e : Exit) (a : Act) (w : World), OnlyN Q e a w → Q e a w := fun e a w h => by
  cases e <;> first | exact h | exact (h : False).elim
theorem OnlyN.normal {a : Act} {w : World} (h : Q .normal a w) : OnlyN Q .normal a w := h
theorem wpIn_of_wp {F : Fence} {n : Nat} (hF : Wid F) {o : Oper} (hd : isDefer o = false) {a : Act} {w : World} {K : Act → World → Prop} (h : Oper.wp P o a w K Q) : o.wpIn F n P a w K Q := by
  refine ⟨fun f _ => hF.fn f, ?_⟩
  rw [Oper.semAt_eq _ _ _ (not_defer hd)]
  unfold Oper.wp at h
  generalize (execOp a.eval o).run P w = r at *
  cases r with
  | ok x w' =>
    cases x <;> simp only [Oper.upon] at h <;> simp only [Oper.uponIn]
    case enter f args => exact ⟨hF.depth, hF.calls h⟩
    case row f args => exact ⟨hF.depth, hF.rows h⟩
    all_goals exact h
  | halt x w' => cases x <;> simp only [Oper.upon] at h <;> simp only [Oper.uponIn] <;> exact h
theorem wpOpIn_of_wpOp {F : Fence} {n : Nat} (hF : Wid F) (hd : ∀ o ∈ ops, isDefer o = false) (hL : ¬ LetsOut Q) {i : Nat} {K : Act → World → Prop} {a : Act} {w : World} (h : wpOp P ops Q i K a w) : wpOpIn F n P ops Q i K a w := by
  unfold wpOp at h
  unfold wpOpIn
  split
  · rename_i ho; simp only [ho] at h; exact h
  · rename_i o ho
    simp only [ho] at h
    split
    · rename_i hw
      simp only [hw, if_true] at h
      rcases h with h | h
      · exact wpIn_of_wp hF (hd o (Array.mem_of_getElem? ho)) h
      · exact absurd h.2 hL
    · rename_i hw; simp only [hw] at h; exact ⟨fun f _ => hF.fn f, h⟩
theorem wpAnyIn_of_wpAny {F : Fence} {n : Nat} (hF : Wid F) (hd : ∀ o ∈ ops, isDefer o = false) (hL : ¬ LetsOut Q) : ∀ (f : Nat) (listed : Array Bool) (a : Act) (w : World), wpAny P md ops Q f listed a w → wpAnyIn F n P md ops Q f listed a w
  | 0, _, _, _, h => h
  | f + 1, _, _, _, h => ⟨h.1, fun i hi => wpOpIn_of_wpOp hF hd hL (wpOp_mono (fun a' w' h' => wpAnyIn_of_wpAny hF hd hL f _ a' w' h') (h.2 i hi))⟩
/-- The same region in a fence. -/
theorem AtS.startIn {F : Fence} {n : Nat} (hF : Wid F) {id : Nat} {l : List Oper} {a : Act} {w : World} (hm : P.follows .mixedOrders = true) (hd : l.all (fun o => !isDefer o) = true) (hS : S w.drew) (z : Nat)
    (h : AtS P .any l.toArray (OnlyN Q) S z l.toArray.size (Array.replicate l.toArray.size false) a w.drew) : (Code.region id l.toArray true).wpIn F n P Q a w :=
  wpIn_mono (wpIn_region_any hm (wpAnyIn_of_wpAny hF (fun o ho => by simpa using List.all_eq_true.1 hd o (by simpa using ho)) (fun ⟨_, _, h⟩ => h) _ _ _ _ (any_of_wpS _ _ _ _ (h (Closd.start _) (.inr hS))))) OnlyN.imp
end
end Go.Proofs.Ytiioebpmfjipeaa
