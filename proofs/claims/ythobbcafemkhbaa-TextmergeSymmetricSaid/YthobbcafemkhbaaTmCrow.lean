/- Rows of regions as the program makes them: the last plain region's lines are a row of the call's own. slices.Clone. -/
import Derived.Test.YthobbcafemkhbaaTmAgreed
import Derived.Test.YthobbcafemkhbaaShelf
import Derived.Test.YthobbcafemkhbaaFence
namespace Go.Proofs.Ythobbcafemkhbaa
open Go.RowKit

theorem clone_any (w : World) (v : Value) (xs : List ByteArray) (h : Strs w v xs) (hx : xs.length ≤ 1000000) :
    Calls Try.prog 60 #[v] w fun e w' => ∃ v', e = .returned v' ∧ Ow w' w.heap.size 9 1 Str1 v' xs ∧ Below w.heap.size w w' := by
  obtain ⟨A, c, rfl, hc, hm⟩ := h.form
  rcases A with _ | a
  · have h0 : xs = [] := by
      rcases List.eq_nil_or_concat xs with h1 | ⟨l, x, h1⟩
      · exact h1
      · obtain ⟨b, off, e, _⟩ := h.get (i := 0) (by rw [h1]; simp)
        cases e
    subst h0
    exact (slices_Clone_string_nil 0 c w).mono fun e w' ⟨h1, h2⟩ => ⟨_, h1, Ow.nil _ _ _ _ _, by rw [h2]; exact Below.refl _ _⟩
  · by_cases h0 : xs = []
    · subst h0
      exact (slices_Clone_string_zero a c w).mono fun e w' ⟨v', h1, h2, _, h3⟩ => ⟨v', h1, ⟨[], h2, rfl⟩, h3⟩
    · have hpos := List.length_pos_iff.2 h0
      obtain ⟨b, off, e, _⟩ := h.get (i := 0) hpos
      cases e
      refine (slices_Clone_string b off xs.length c xs w (Nat.le_refl _) (by omega) fun j hj => ?_).mono fun e w' ⟨v', h1, h2, _, h3⟩ => ⟨v', h1, ?_, h3⟩
      · obtain ⟨b', off', e, h1⟩ := h.get hj
        cases e
        rw [List.getD_eq_getElem?_getD, List.getElem?_eq_getElem hj]
        exact h1
      · rw [List.take_length] at h2
        exact own_strs h2 rfl

/-- Blocks of other elements than regions and strings are as they were, and so are loops. -/
structure FrX (w w' : World) : Prop where
  keep : ∀ g t cs, t ≠ 58 → t ≠ 9 → Blk w g t cs → Blk w' g t cs
  others : KeepsOthers w w'
section
variable {w w' w'' : World}
theorem FrX.refl (w : World) : FrX w w := ⟨fun _ _ _ _ _ h => h, KeepsOthers.refl _⟩
theorem FrX.trans (h : FrX w w') (k : FrX w' w'') : FrX w w'' := ⟨fun g t cs h1 h2 x => k.keep g t cs h1 h2 (h.keep g t cs h1 h2 x), h.others.trans k.others⟩
theorem FrX.of_below (h : Below w.heap.size w w') : FrX w w' := ⟨fun _ _ _ _ _ x => x.keep h, h.size, fun k o hk _ => (h.block k (Array.getElem?_eq_some_iff.1 hk).1).trans hk⟩
theorem FrX.grown {B : Nat} {e : TypeId} {sz n : Nat} {v : Value} {xs : List Value} (ho : w.ownsRow B e sz v n xs) (he : e = 58 ∨ e = 9) (hg : w.grownBy w' v.ownBlock) : FrX w w' := by
  refine ⟨fun g t cs h1 h2 x => x.grown hg fun e1 => own_ne_type ho x (by rintro rfl; rcases he with rfl | rfl <;> contradiction) e1.symm, KeepsOthers.of_grownBy hg fun j o hj hjo => ?_⟩
  rcases ho.2 with ⟨rfl, _⟩ | ⟨g, cap, cur, rfl, _, hh, _⟩
  · simp [Value.ownBlock] at hj
  · have : g = j := by simpa [Value.ownBlock] using hj
    subst this
    rw [hh] at hjo
    cases hjo
    rfl
theorem FrX.set {g o : Nat} {cs : Array Value} (hg : Blk w g 58 cs) (u : Value) : FrX w (w.setCell ⟨g, o, none⟩ u) :=
  ⟨fun g' t cs' h1 _ x => x.far (p := ⟨g, o, none⟩) (fun e => hg.ne_type x (Ne.symm h1) e.symm) u, KeepsOthers.setCell _ _ _⟩
theorem FrX.keepT (h : FrX w w') {t : TypeId} (h1 : t ≠ 58) (h2 : t ≠ 9) : KeepT t w w' := fun g cs x => h.keep g t cs h1 h2 x
end

/-- The last region is none, or a conflict. -/
def Clsd (L : List Rg) : Prop := L = [] ∨ ∃ D c, L = D ++ [(true, c)]
/-- A row of regions under way. -/
def CRow (w : World) (B : Nat) (v : Value) (L : List Rg) : Prop := ∃ cells, w.ownsRow B 58 4 v L.length cells ∧
  ((Clsd L ∧ Stab w (OwnOf v) fun w' => Elems 4 (RgR w') L cells) ∨
   ∃ D ls vl c0, L = D ++ [(false, [], ls, [])] ∧ cells = c0 ++ [.bool false, .slice none 0 0, vl, .slice none 0 0] ∧ Ow w B 9 1 Str1 vl ls ∧ Stab w (fun b => OwnOf v b ∨ OwnOf vl b) fun w' => Elems 4 (RgR w') D c0)
section
variable {w w' : World} {B : Nat} {v v' : Value} {L : List Rg}
theorem CRow.row (h : CRow w B v L) : Row w B v L := by
  obtain ⟨cells, h1, ⟨h2, h3⟩ | ⟨D, ls, vl, c0, rfl, rfl, h3, h4⟩⟩ := h
  · exact ⟨cells, h1, h3⟩
  · refine ⟨_, h1, ?_⟩
    have hr : Stab w (OwnOf v) fun w' => RgR w' [.bool false, .slice none 0 0, vl, .slice none 0 0] (false, [], ls, []) := by
      obtain ⟨vs, o1, o2⟩ := id h3
      exact reg_stab nil_stab ((h3.stab (M := OwnOf v) (own_own_ne o1 h1 (by decide))).imp fun _ h => h.sl) nil_stab
    exact ((h4.mono fun _ _ h => .inl h).both hr).imp fun _ ⟨a, b⟩ => a.append (Elems.one b rfl)
theorem CRow.rgs (h : CRow w B v L) : Rgs w v L := h.row.rgs
theorem CRow.form (h : CRow w B v L) : ∃ A c, v = .slice A L.length c ∧ L.length ≤ c ∧ c ≤ 9223372036854775807 := h.rgs.form
theorem CRow.nil (w : World) (B : Nat) : CRow w B (.slice none 0 0) [] := ⟨[], World.ownsRow_nil _ _ _ _, .inl ⟨.inl rfl, fun _ _ => rfl⟩⟩
theorem CRow.below (h : CRow w B v L) (k : Below w.heap.size w w') : CRow w' B v L := by
  obtain ⟨cells, h1, h2⟩ := h
  refine ⟨cells, own_below h1 k, ?_⟩
  rcases h2 with ⟨h2, h3⟩ | ⟨D, ls, vl, c0, e1, e2, h3, h4⟩
  · exact .inl ⟨h2, h3.go (Agree.of_below k _)⟩
  · exact .inr ⟨D, ls, vl, c0, e1, e2, h3.stab (M := fun _ => False) (fun _ _ h => h) _ (Agree.of_below k _), h4.go (Agree.of_below k _)⟩
/-- What a function that adds to such a row leaves. -/
def CRowPost (w : World) (B : Nat) (L : List Rg) : Ending → World → Prop := fun e w' => ∃ v', e = .returned v' ∧ CRow w' B v' L ∧ Below B w w' ∧ FrX w w'
theorem CRowPost.same (h : CRow w B v L) : CRowPost w B L (.returned v) w := ⟨v, rfl, h, Below.refl _ _, FrX.refl _⟩
theorem CRowPost.after {w1 : World} {e : Ending} (hb : Below w.heap.size w w1) (hB : B ≤ w.heap.size) (h : CRowPost w1 B L e w') : CRowPost w B L e w' := by
  obtain ⟨v', h1, h2, h3, h4⟩ := h
  exact ⟨v', h1, h2, (hb.mono hB).trans h3, (FrX.of_below hb).trans h4⟩
end

/-- A cell of an owned row is overwritten. -/
theorem own_set {w : World} {B : Nat} {e : TypeId} {sz n cap g : Nat} {cells : List Value} (h : w.ownsRow B e sz (.slice (some ⟨g, 0, none⟩) n cap) n cells) {j : Nat} (u : Value) :
    (w.setCell ⟨g, j, none⟩ u).ownsRow B e sz (.slice (some ⟨g, 0, none⟩) n cap) n (cells.set j u) := by
  obtain ⟨h1, h2⟩ := h
  rcases h2 with ⟨h2, _⟩ | ⟨g', cap', cur, e1, b1, b2, b3, b4, b5, b6⟩
  · cases h2
  · cases e1
    subst b6
    refine ⟨by rw [List.length_set]; exact h1, .inr ⟨g, cap, cur.setIfInBounds j u, rfl, b1, Blk.set (g := g) b2 j u, b3, b4, by rw [Array.size_setIfInBounds]; exact b5, ?_⟩⟩
    rw [Array.toList_setIfInBounds, List.take_set]
theorem own_blk {w : World} {B : Nat} {e : TypeId} {sz n cap g : Nat} {cells : List Value} (h : w.ownsRow B e sz (.slice (some ⟨g, 0, none⟩) n cap) n cells) : ∃ cur, Blk w g e cur := by
  rcases h.2 with ⟨h2, _⟩ | ⟨g', cap', cur, e1, b1, b2, _⟩
  · cases h2
  · cases e1
    exact ⟨cur, b2⟩
theorem own_addr {w : World} {B : Nat} {e : TypeId} {sz n cap : Nat} {A : Option Addr} {cells : List Value} (h : w.ownsRow B e sz (.slice A n cap) n cells) (hn : 0 < n) : ∃ g, A = some ⟨g, 0, none⟩ ∧ B ≤ g := by
  rcases h.2 with ⟨h2, _⟩ | ⟨g', cap', cur, e1, b1, b2, _⟩
  · cases h2; omega
  · cases e1
    exact ⟨g', rfl, b1⟩
end Go.Proofs.Ythobbcafemkhbaa
