/- Rows of regions as the program makes them: the last plain region's lines are a row of the call's own. slices.Clone. textmerge.addLines. textmerge.addGap. -/
import Derived.Test.YthobbcafemkhbaaTmRef
import Derived.Test.YthobbcafemkhbaaShelf
import Derived.Test.YthobbcafemkhbaaFence
namespace Go.Proofs.Ythobbcafemkhbaa
open Go.RowKit
set_option linter.unusedVariables false

theorem clone_any (w : World) (v : Value) (xs : List ByteArray) (h : Strs w v xs) (hx : xs.length ≤ 1000000) :
    Calls Try.prog 60 #[v] w fun e w' => ∃ v', e = .returned v' ∧ Ow w' w.heap.size 9 1 Str1 v' xs ∧ Below w.heap.size w w' := by
  obtain ⟨A, c, rfl, hc, hm⟩ := h.form
  rcases A with _ | a
  · have h0 : xs = [] := by
      rcases List.eq_nil_or_concat xs with h1 | ⟨l, x, h1⟩
      · exact h1
      · obtain ⟨b, off, e, _⟩ := h.get (i := 0) (by rw [h1]; simp)
        cases e
    subst h0
    exact (slices_Clone_string_nil 0 c w).mono fun e w' ⟨h1, h2⟩ => ⟨_, h1, Ow.nil _ _ _ _ _, by rw [h2]; exact Below.refl _ _⟩
  · by_cases h0 : xs = []
    · subst h0
      exact (slices_Clone_string_zero a c w).mono fun e w' ⟨v', h1, h2, _, h3⟩ => ⟨v', h1, ⟨[], h2, rfl⟩, h3⟩
    · have hpos := List.length_pos_iff.2 h0
      obtain ⟨b, off, e, _⟩ := h.get (i := 0) hpos
      cases e
      refine (slices_Clone_string b off xs.length c xs w (Nat.le_refl _) (by omega) fun j hj => ?_).mono fun e w' ⟨v', h1, h2, _, h3⟩ => ⟨v', h1, ?_, h3⟩
      · obtain ⟨b', off', e, h1⟩ := h.get hj
        cases e
        rw [List.getD_eq_getElem?_getD, List.getElem?_eq_getElem hj]
        exact h1
      · rw [List.take_length] at h2
        exact own_strs h2 rfl

/-- Blocks of other elements than regions and strings are as they were, and so are loops. -/
structure FrX (w w' : World) : Prop where
  keep : ∀ g t cs, t ≠ 58 → t ≠ 9 → Blk w g t cs → Blk w' g t cs
  others : KeepsOthers w w'
section
variable {w w' w'' : World}
theorem FrX.refl (w : World) : FrX w w := ⟨fun _ _ _ _ _ h => h, KeepsOthers.refl _⟩
theorem FrX.trans (h : FrX w w') (k : FrX w' w'') : FrX w w'' := ⟨fun g t cs h1 h2 x => k.keep g t cs h1 h2 (h.keep g t cs h1 h2 x), h.others.trans k.others⟩
theorem FrX.of_below (h : Below w.heap.size w w') : FrX w w' := ⟨fun _ _ _ _ _ x => x.keep h, h.size, fun k o hk _ => (h.block k (Array.getElem?_eq_some_iff.1 hk).1).trans hk⟩
theorem FrX.grown {B : Nat} {e : TypeId} {sz n : Nat} {v : Value} {xs : List Value} (ho : w.ownsRow B e sz v n xs) (he : e = 58 ∨ e = 9) (hg : w.grownBy w' v.ownBlock) : FrX w w' := by
  refine ⟨fun g t cs h1 h2 x => x.grown hg fun e1 => own_ne_type ho x (by rintro rfl; rcases he with rfl | rfl <;> contradiction) e1.symm, KeepsOthers.of_grownBy hg fun j o hj hjo => ?_⟩
  rcases ho.2 with ⟨rfl, _⟩ | ⟨g, cap, cur, rfl, _, hh, _⟩
  · simp [Value.ownBlock] at hj
  · have : g = j := by simpa [Value.ownBlock] using hj
    subst this
    rw [hh] at hjo
    cases hjo
    rfl
theorem FrX.set {g o : Nat} {cs : Array Value} (hg : Blk w g 58 cs) (u : Value) : FrX w (w.setCell ⟨g, o, none⟩ u) :=
  ⟨fun g' t cs' h1 _ x => x.far (p := ⟨g, o, none⟩) (fun e => hg.ne_type x (Ne.symm h1) e.symm) u, KeepsOthers.setCell _ _ _⟩
theorem FrX.keepT (h : FrX w w') {t : TypeId} (h1 : t ≠ 58) (h2 : t ≠ 9) : KeepT t w w' := fun g cs x => h.keep g t cs h1 h2 x
end

/-- The last region is none, or a conflict. -/
def Clsd (L : List Rg) : Prop := L = [] ∨ ∃ D c, L = D ++ [(true, c)]
/-- A row of regions under way. -/
def CRow (w : World) (B : Nat) (v : Value) (L : List Rg) : Prop := ∃ cells, w.ownsRow B 58 4 v L.length cells ∧
  ((Clsd L ∧ Stab w (OwnOf v) fun w' => Elems 4 (RgR w') L cells) ∨
   ∃ D ls vl c0, L = D ++ [(false, [], ls, [])] ∧ cells = c0 ++ [.bool false, .slice none 0 0, vl, .slice none 0 0] ∧ Ow w B 9 1 Str1 vl ls ∧ Stab w (fun b => OwnOf v b ∨ OwnOf vl b) fun w' => Elems 4 (RgR w') D c0)
section
variable {w w' : World} {B : Nat} {v v' : Value} {L : List Rg}
theorem CRow.row (h : CRow w B v L) : Row w B v L := by
  obtain ⟨cells, h1, ⟨h2, h3⟩ | ⟨D, ls, vl, c0, rfl, rfl, h3, h4⟩⟩ := h
  · exact ⟨cells, h1, h3⟩
  · refine ⟨_, h1, ?_⟩
    have hr : Stab w (OwnOf v) fun w' => RgR w' [.bool false, .slice none 0 0, vl, .slice none 0 0] (false, [], ls, []) := by
      obtain ⟨vs, o1, o2⟩ := id h3
      exact reg_stab nil_stab ((h3.stab (M := OwnOf v) (own_own_ne o1 h1 (by decide))).imp fun _ h => h.sl) nil_stab
    exact ((h4.mono fun _ _ h => .inl h).both hr).imp fun _ ⟨a, b⟩ => a.append (Elems.one b rfl)
theorem CRow.rgs (h : CRow w B v L) : Rgs w v L := h.row.rgs
theorem CRow.form (h : CRow w B v L) : ∃ A c, v = .slice A L.length c ∧ L.length ≤ c ∧ c ≤ 9223372036854775807 := h.rgs.form
theorem CRow.nil (w : World) (B : Nat) : CRow w B (.slice none 0 0) [] := ⟨[], World.ownsRow_nil _ _ _ _, .inl ⟨.inl rfl, fun _ _ => rfl⟩⟩
theorem CRow.below (h : CRow w B v L) (k : Below w.heap.size w w') : CRow w' B v L := by
  obtain ⟨cells, h1, h2⟩ := h
  refine ⟨cells, own_below h1 k, ?_⟩
  rcases h2 with ⟨h2, h3⟩ | ⟨D, ls, vl, c0, e1, e2, h3, h4⟩
  · exact .inl ⟨h2, h3.go (Agree.of_below k _)⟩
  · exact .inr ⟨D, ls, vl, c0, e1, e2, h3.stab (M := fun _ => False) (fun _ _ h => h) _ (Agree.of_below k _), h4.go (Agree.of_below k _)⟩
/-- What a function that adds to such a row leaves. -/
def CRowPost (w : World) (B : Nat) (L : List Rg) : Ending → World → Prop := fun e w' => ∃ v', e = .returned v' ∧ CRow w' B v' L ∧ Below B w w' ∧ FrX w w'
theorem CRowPost.same (h : CRow w B v L) : CRowPost w B L (.returned v) w := ⟨v, rfl, h, Below.refl _ _, FrX.refl _⟩
theorem CRowPost.after {w1 : World} {e : Ending} (hb : Below w.heap.size w w1) (hB : B ≤ w.heap.size) (h : CRowPost w1 B L e w') : CRowPost w B L e w' := by
  obtain ⟨v', h1, h2, h3, h4⟩ := h
  exact ⟨v', h1, h2, (hb.mono hB).trans h3, (FrX.of_below hb).trans h4⟩
end

/-- A cell of an owned row is overwritten. -/
theorem own_set {w : World} {B : Nat} {e : TypeId} {sz n cap g : Nat} {cells : List Value} (h : w.ownsRow B e sz (.slice (some ⟨g, 0, none⟩) n cap) n cells) {j : Nat} (u : Value) :
    (w.setCell ⟨g, j, none⟩ u).ownsRow B e sz (.slice (some ⟨g, 0, none⟩) n cap) n (cells.set j u) := by
  obtain ⟨h1, h2⟩ := h
  rcases h2 with ⟨h2, _⟩ | ⟨g', cap', cur, e1, b1, b2, b3, b4, b5, b6⟩
  · cases h2
  · cases e1
    subst b6
    refine ⟨by rw [List.length_set]; exact h1, .inr ⟨g, cap, cur.setIfInBounds j u, rfl, b1, Blk.set (g := g) b2 j u, b3, b4, by rw [Array.size_setIfInBounds]; exact b5, ?_⟩⟩
    rw [Array.toList_setIfInBounds, List.take_set]
theorem own_blk {w : World} {B : Nat} {e : TypeId} {sz n cap g : Nat} {cells : List Value} (h : w.ownsRow B e sz (.slice (some ⟨g, 0, none⟩) n cap) n cells) : ∃ cur, Blk w g e cur := by
  rcases h.2 with ⟨h2, _⟩ | ⟨g', cap', cur, e1, b1, b2, _⟩
  · cases h2
  · cases e1
    exact ⟨cur, b2⟩
theorem own_addr {w : World} {B : Nat} {e : TypeId} {sz n cap : Nat} {A : Option Addr} {cells : List Value} (h : w.ownsRow B e sz (.slice A n cap) n cells) (hn : 0 < n) : ∃ g, A = some ⟨g, 0, none⟩ ∧ B ≤ g := by
  rcases h.2 with ⟨h2, _⟩ | ⟨g', cap', cur, e1, b1, b2, _⟩
  · cases h2; omega
  · cases e1
    exact ⟨g', rfl, b1⟩
end Go.Proofs.Ythobbcafemkhbaa

namespace Go.Proofs.Ythobbcafemkhbaa
open Go.RowKit

section
variable {w w1 w2 : World} {B : Nat} {v v2 vl : Value} {L : List Rg} {ls : List ByteArray} {cells : List Value} {ob : Obj}
theorem crow_new (hst : Stab w (OwnOf v) fun w' => Elems 4 (RgR w') L cells) (hown : w.ownsRow B 58 4 v L.length cells) (hB : B ≤ w.heap.size) (hb1 : Below w.heap.size w w1)
    (hl : Ow w1 w.heap.size 9 1 Str1 vl ls)
    (hg2 : (w1.alloc ob).grownBy w2 v.ownBlock) (ho2 : w2.ownsRow B 58 4 v2 (L.length + 1) (cells ++ [.bool false, .slice none 0 0, vl, .slice none 0 0])) (ha2 : v2.ownBlock = v.ownBlock ∨ v2.ownBlock = some (w1.alloc ob).heap.size) :
    CRow w2 B v2 (L ++ [(false, [], ls, [])]) ∧ Below B w w2 ∧ FrX w w2 := by
  have hA1 : Agree (OwnOf v) w1 w2 := (Agree.alloc w1 ob).trans (Agree.of_grown hg2 fun g hg => hg)
  have hA : Agree (OwnOf v) w w2 := (Agree.of_below hb1 _).trans hA1
  have hsz := hb1.size
  have hmv : Moved w v v2 := Moved.of_at ha2 (by simp; omega)
  have hown1 := own_below hown hb1
  refine ⟨⟨_, by simpa using ho2, .inr ⟨L, ls, vl, cells, rfl, rfl, ?_, ?_⟩⟩, ?_, ?_⟩
  · obtain ⟨vs, o1, o2⟩ := id hl
    have := (hl.stab (M := OwnOf v) (own_own_ne o1 hown1 (by decide))) _ hA1
    exact this.mono_base hB
  · refine hst.shift hA fun b hb h1 => ?_
    rcases h1 with h1 | h1
    · exact hmv.old hb h1
    · obtain ⟨vs, o1, o2⟩ := hl
      have := (o1.lt b h1).1
      omega
  · exact ((hb1.mono hB).alloc (by omega) ob).grown hg2 (by simp; omega) fun k hk => (hown.lt k hk).1
  · exact (FrX.of_below hb1).trans ((FrX.of_below ((Below.refl _ _).alloc (Nat.le_refl _) ob)).trans (FrX.grown (hown1.alloc ob) (.inl rfl) hg2))
/-- Lines have been added to the last region. -/
theorem crow_more {D : List Rg} {c0 : List Value} {g n cap : Nat} {A' : Option Addr} {m c' : Nat} {xs : List ByteArray} (hn : n = D.length + 1)
    (hown : w.ownsRow B 58 4 (.slice (some ⟨g, 0, none⟩) n cap) n (c0 ++ [.bool false, .slice none 0 0, vl, .slice none 0 0])) (hc0 : c0.length = D.length * 4) (hB : B ≤ w.heap.size)
    (hl : Ow w B 9 1 Str1 vl ls) (hst : Stab w (fun b => OwnOf (.slice (some ⟨g, 0, none⟩) n cap) b ∨ OwnOf vl b) fun w' => Elems 4 (RgR w') D c0)
    (hg : w.grownBy w1 vl.ownBlock) (ho : w1.ownsRow B 9 1 (.slice A' m c') m ((ls ++ xs).map .string)) (hm : m = (ls ++ xs).length) (ha : (Value.slice A' m c').ownBlock = vl.ownBlock ∨ (Value.slice A' m c').ownBlock = some w.heap.size) :
    CRow (w1.setCell ⟨g, D.length * 4 + 2, none⟩ (.slice A' m c')) B (.slice (some ⟨g, 0, none⟩) n cap) (D ++ [(false, [], ls ++ xs, [])]) ∧ Below B w (w1.setCell ⟨g, D.length * 4 + 2, none⟩ (.slice A' m c')) ∧ FrX w (w1.setCell ⟨g, D.length * 4 + 2, none⟩ (.slice A' m c')) := by
  subst hn
  obtain ⟨vs, o1, o2⟩ := id hl
  have hown1 : w1.ownsRow B 58 4 (.slice (some ⟨g, 0, none⟩) (D.length + 1) cap) (D.length + 1) (c0 ++ [.bool false, .slice none 0 0, vl, .slice none 0 0]) :=
    own_stab hown (M := OwnOf vl) (own_own_ne hown o1 (by decide)) _ (Agree.of_grown hg fun _ h => h)
  obtain ⟨cur, hbk⟩ := own_blk hown1
  have hgB : B ≤ g := by
    obtain ⟨g', e, h⟩ := own_addr hown (by omega)
    cases e
    exact h
  have hA1 : Agree (fun b => b = g) w1 (w1.setCell ⟨g, D.length * 4 + 2, none⟩ (.slice A' m c')) := Agree.set1 w1 g _ _
  have hA : Agree (fun b => OwnOf (.slice (some ⟨g, 0, none⟩) (D.length + 1) cap) b ∨ OwnOf vl b) w (w1.setCell ⟨g, D.length * 4 + 2, none⟩ (.slice A' m c')) :=
    (Agree.of_grown hg fun _ h => .inr h).trans (hA1.mono fun b _ h => .inl (by rw [h]; rfl))
  have hset := own_set hown1 (j := D.length * 4 + 2) (.slice A' m c')
  have ecl : (c0 ++ [.bool false, .slice none 0 0, vl, .slice none 0 0]).set (D.length * 4 + 2) (.slice A' m c') = c0 ++ [.bool false, .slice none 0 0, .slice A' m c', .slice none 0 0] := by
    rw [← hc0, List.set_append_right _ _ (by omega), Nat.add_sub_cancel_left]
    rfl
  rw [ecl] at hset
  refine ⟨⟨_, by simpa using hset, .inr ⟨D, ls ++ xs, _, c0, rfl, rfl, ?_, ?_⟩⟩, ?_, ?_⟩
  · have hne := own_own_ne ho hown1 (by decide)
    exact ((own_strs ho hm).stab (M := fun b => b = g) fun g' hg' e => hne g' hg' (by rw [e]; rfl)) _ hA1
  · refine hst.shift hA fun b hb h1 => ?_
    rcases h1 with h1 | h1
    · exact .inl h1
    · rcases ha with h2 | h2
      · exact .inr (by unfold OwnOf at h1 ⊢; rw [← h2]; exact h1)
      · unfold OwnOf at h1
        rw [h2] at h1
        cases h1
        omega
  · exact ((Below.refl B w).grown hg hB fun k hk => (o1.lt k hk).1).setCell (p := ⟨g, D.length * 4 + 2, none⟩) hgB _
  · exact (FrX.grown o1 (.inr rfl) hg).trans (FrX.set hbk _)
end

set_option maxRecDepth 100000 in
set_option maxHeartbeats 1000000 in
theorem addLines_new (w : World) (B : Nat) (v vx : Value) (L : List Rg) (ls : List ByteArray) (h : CRow w B v L) (hcl : Clsd L) (hB : B ≤ w.heap.size) (hx : Strs w vx ls) (hlen : L.length ≤ 1000000) (hll : ls.length ≤ 1000000) (h0 : ls ≠ []) :
    Calls Try.prog 38 #[v, vx] w (CRowPost w B (addL L ls)) := by
  obtain ⟨i1, hi1, hy0, hy1, hy2⟩ := info_parts Try.info_reg
  obtain ⟨A, c, rfl, hc1, hc2⟩ := h.form
  have cc := Lib.hid (clone_any w _ ls hx hll)
  obtain ⟨Ax, cx, rfl, hx1, hx2⟩ := hx.form
  have hne : ((ls.length : Int) == 0) = false := by
    have := List.length_pos_iff.2 h0
    rw [beq_eq_false_iff_ne]; omega
  have hrg := h.rgs
  obtain ⟨cells, hown, hst⟩ := h.row
  have HE : Hid (addL L ls = L ++ [(false, [], ls, [])]) := by
    show _ = _
    rcases hcl with h1 | ⟨L', ⟨b, l, r⟩, h1⟩
    · subst h1; exact addL_empty h0
    · subst h1; exact addL_conf _ _ _ _ h0
  have key : ∀ w1 vl ob w2 v2, Below w.heap.size w w1 → Ow w1 w.heap.size 9 1 Str1 vl ls → (w1.alloc ob).grownBy w2 (Value.slice A L.length c).ownBlock →
      w2.ownsRow B 58 4 v2 (L.length + 1) (cells ++ [.bool false, .slice none 0 0, vl, .slice none 0 0]) → (v2.ownBlock = (Value.slice A L.length c).ownBlock ∨ v2.ownBlock = some (w1.alloc ob).heap.size) →
      CRowPost w B (addL L ls) (.returned v2) w2 := by
    intro w1 vl ob w2 v2 hb1 ho1 hg2 ho2 ha2
    obtain ⟨r1, r2, r3⟩ := crow_new hst hown hB hb1 ho1 hg2 ho2 ha2
    exact ⟨v2, rfl, by rw [HE.out]; exact r1, r2, r3⟩
  have KEY := Lib.hid key
  clear key hst HE h0 hx h
  by_cases hpos : 0 < L.length
  · obtain ⟨L', ⟨b, l, r⟩, h1⟩ := hcl.resolve_left (fun e => by subst e; simp at hpos)
    have hidx : ((L.length : Int) - 1).toNat = L.length - 1 := by omega
    have hl0 : ((L.length : Int) == 0) = false := by rw [beq_eq_false_iff_ne]; omega
    have hlast : L[L.length - 1].1 = true := by subst h1; simp
    obtain ⟨b0, off, vb, vl, vr, rfl, a1, _⟩ := hrg.get (i := L.length - 1) (by omega)
    rw [hlast] at a1
    clear h1 hrg hcl hlast
    go_enter Try.func38, Try.ntmps38
    go_wp2_with fail
    refine cc.out.mono ?_
    rintro e w1 ⟨vl, rfl, ho1, hb1⟩
    obtain ⟨A1, d1, rfl, _, _⟩ := Strs.form ho1.sl
    have hown1 := own_below hown hb1
    have hsz1 := hb1.size
    clear a1 cc
    go_wp2_with (at_builtin; go_must (refine wpList_append_any _ rfl (.tmp 22) (.tmp 26) _ rfl B 58 i1 _ 4 80 Try.underlying24 hi1 hy0 hy1 hy2 rfl (by omega) (.slice (some ⟨b0, off, none⟩) L.length c) L.length cells rfl (hown1.alloc _) _ 1 1 [.bool false, .slice none 0 0, .slice A1 ls.length d1, .slice none 0 0] rfl rfl (CellsAt.of_new _ _ _ _) (by simp [Value.oneCell']) (by omega) (by omega) (by simp; omega) ?_)
                 intro v2 w2 ho2 hg2 ha2)
    go_ret
    exact KEY.out _ _ _ _ _ hb1 ho1 hg2 ho2 ha2
  · have hz : L = [] := List.eq_nil_of_length_eq_zero (by omega)
    subst hz
    clear hcl hrg hpos
    go_enter Try.func38, Try.ntmps38
    go_wp2_with fail
    refine cc.out.mono ?_
    rintro e w1 ⟨vl, rfl, ho1, hb1⟩
    obtain ⟨A1, d1, rfl, _, _⟩ := Strs.form ho1.sl
    have hown1 := own_below hown hb1
    have hsz1 := hb1.size
    clear cc
    go_wp2_with (at_builtin; go_must (refine wpList_append_any _ rfl (.tmp 22) (.tmp 26) _ rfl B 58 i1 _ 4 80 Try.underlying24 hi1 hy0 hy1 hy2 rfl (by omega) (.slice A 0 c) 0 cells rfl (hown1.alloc _) _ 1 1 [.bool false, .slice none 0 0, .slice A1 ls.length d1, .slice none 0 0] rfl rfl (CellsAt.of_new _ _ _ _) (by simp [Value.oneCell']) (by omega) (by omega) (by simp; omega) ?_)
                 intro v2 w2 ho2 hg2 ha2)
    go_ret
    exact KEY.out _ _ _ _ _ hb1 ho1 hg2 ho2 ha2

theorem own_cell {w : World} {B : Nat} {e : TypeId} {sz n cap g : Nat} {cells : List Value} (h : w.ownsRow B e sz (.slice (some ⟨g, 0, none⟩) n cap) n cells) {j : Nat} {u : Value} (hj : cells[j]? = some u) : w.cell? ⟨g, j, none⟩ = some u ∧ w.frozen? ⟨g, j, none⟩ = false := by
  obtain ⟨b, off, e1, h1⟩ := own_cellsAt h j u hj
  cases e1
  obtain ⟨cur, hb⟩ := own_blk h
  rw [Nat.zero_add] at h1
  exact ⟨h1, hb.frozen j⟩

set_option maxRecDepth 100000 in
set_option maxHeartbeats 1000000 in
theorem addLines_more (w : World) (B : Nat) (v vx : Value) (L : List Rg) (ls : List ByteArray) (h : CRow w B v L) (hcl : ¬ Clsd L) (hB : B ≤ w.heap.size) (hx : Strs w vx ls) {N : Nat} (hN : RgB N L) (hN1 : N ≤ 1000000) (hll : ls.length ≤ 1000000) (h0 : ls ≠ []) :
    Calls Try.prog 38 #[v, vx] w (CRowPost w B (addL L ls)) := by
  obtain ⟨i0, hi, hz0, hz1, hz2⟩ := info_parts Try.info_str
  obtain ⟨A, c, rfl, hc1, hc2⟩ := h.form
  obtain ⟨Ax, cx, rfl, hx1, hx2⟩ := hx.form
  have hxc := strs_cells hx
  have hne : ((ls.length : Int) == 0) = false := by
    have := List.length_pos_iff.2 h0
    rw [beq_eq_false_iff_ne]; omega
  obtain ⟨cells, hown, ⟨h1, _⟩ | ⟨D, lo, vl, c0, rfl, rfl, hl, hst⟩⟩ := h
  · exact absurd h1 hcl
  have hD : (D ++ [((false, [], lo, []) : Rg)]).length = D.length + 1 := by simp
  have hlo : lo.length ≤ N := hN.2 _ (List.mem_append_right _ (List.mem_singleton.2 rfl))
  have hlD := hN.1
  rw [hD] at hown hc1 hlD hst
  have hc0 : c0.length = D.length * 4 := hst.now.length
  obtain ⟨g, rfl, hgB⟩ := own_addr hown (by omega)
  obtain ⟨k0, f0⟩ := own_cell hown (j := D.length * 4) (u := .bool false) (by rw [← hc0]; simp)
  obtain ⟨k2, f2⟩ := own_cell hown (j := D.length * 4 + 2) (u := vl) (by rw [← hc0]; simp)
  obtain ⟨vs, o1, o2⟩ := id hl
  have e1 := elems_cells o2
  subst e1
  have key : ∀ w1 A' m c', w.grownBy w1 vl.ownBlock → w1.ownsRow B 9 1 (.slice A' m c') m ((lo ++ ls).map .string) → m = (lo ++ ls).length → ((Value.slice A' m c').ownBlock = vl.ownBlock ∨ (Value.slice A' m c').ownBlock = some w.heap.size) →
      w1.cell? ⟨g, D.length * 4 + 2, none⟩ = some vl ∧ w1.frozen? ⟨g, D.length * 4 + 2, none⟩ = false ∧
      CRowPost w B (addL (D ++ [(false, [], lo, [])]) ls) (.returned (.slice (some ⟨g, 0, none⟩) (D.length + 1) c)) (w1.setCell ⟨g, D.length * 4 + 2, none⟩ (.slice A' m c')) := by
    intro w1 A' m c' hg ho hm ha
    have hown1 : w1.ownsRow B 58 4 (.slice (some ⟨g, 0, none⟩) (D.length + 1) c) (D.length + 1) (c0 ++ [.bool false, .slice none 0 0, vl, .slice none 0 0]) :=
      own_stab hown (M := OwnOf vl) (own_own_ne hown o1 (by decide)) _ (Agree.of_grown hg fun _ h => h)
    obtain ⟨q1, q2⟩ := own_cell hown1 (j := D.length * 4 + 2) (u := vl) (by rw [← hc0]; simp)
    obtain ⟨r1, r2, r3⟩ := crow_more rfl hown hc0 hB hl hst hg ho hm ha
    exact ⟨q1, q2, _, rfl, by rw [addL_plain _ _ _ _ h0]; exact r1, r2, r3⟩
  have KEY := Lib.hid key
  obtain ⟨Al, cl, rfl⟩ := own_form o1
  clear key hst hl hcl hx hD h0
  rw [show (D ++ [((false, [], lo, []) : Rg)]).length = D.length + 1 by simp]
  go_enter Try.func38, Try.ntmps38
  go_wp2_with (at_builtin; go_must (refine wpList_append_any _ rfl (.tmp 37) (.tmp 38) _ rfl B 9 i0 _ 1 16 Try.underlying36 hi hz0 hz1 hz2 rfl (by omega) (.slice Al lo.length cl) lo.length (lo.map .string) rfl o1 Ax ls.length cx (ls.map .string) rfl (by simp) hxc one_map (by omega) (by omega) hB ?_)
               intro v1 w1 ho1 hg1 ha1
               rw [← List.map_append] at ho1
               obtain ⟨A1, d1, rfl⟩ := own_form ho1
               obtain ⟨q1, q2, q3⟩ := KEY.out w1 A1 _ d1 hg1 ho1 (by simp) ha1
               have Q3 := Lib.hid q3
               clear q3 ha1 hg1 ho1)
  go_ret
  exact Q3.out

theorem clsd_or (L : List Rg) : Clsd L ∨ ¬ Clsd L := Classical.em _
theorem addLines_any (w : World) (B : Nat) (v vx : Value) (L : List Rg) (ls : List ByteArray) (h : CRow w B v L) (hB : B ≤ w.heap.size) (hx : Strs w vx ls) {N : Nat} (hN : RgB N L) (hN1 : N ≤ 1000000) (hll : ls.length ≤ 1000000) :
    Calls Try.prog 38 #[v, vx] w (CRowPost w B (addL L ls)) := by
  by_cases h0 : ls = []
  · subst h0
    obtain ⟨A, c, rfl, hc1, hc2⟩ := h.form
    obtain ⟨Ax, cx, rfl, hx1, hx2⟩ := hx.form
    rw [addL_nil]
    have HP := Lib.hid (CRowPost.same h)
    clear h hx
    go_enter Try.func38, Try.ntmps38
    go_wp2
    go_ret
    exact HP.out
  · rcases clsd_or L with hc | hc
    · exact addLines_new w B v vx L ls h hc hB hx (by have := hN.1; omega) hll h0
    · exact addLines_more w B v vx L ls h hc hB hx hN hN1 hll h0
end Go.Proofs.Ythobbcafemkhbaa

namespace Go.Proofs.Ythobbcafemkhbaa
open Go.RowKit

section
variable {w w1 w2 : World} {B : Nat} {v v2 vb vl vr : Value} {L : List Rg} {b l r : List ByteArray} {cells : List Value} {ob : Obj}
theorem crow_conf (hst : Stab w (OwnOf v) fun w' => Elems 4 (RgR w') L cells) (hown : w.ownsRow B 58 4 v L.length cells) (hB : B ≤ w.heap.size) (hb1 : Below w.heap.size w w1)
    {B1 B2 B3 : Nat} (hb : Ow w1 B1 9 1 Str1 vb b) (hl : Ow w1 B2 9 1 Str1 vl l) (hr : Ow w1 B3 9 1 Str1 vr r)
    (hg2 : (w1.alloc ob).grownBy w2 v.ownBlock) (ho2 : w2.ownsRow B 58 4 v2 (L.length + 1) (cells ++ [.bool true, vb, vl, vr])) (ha2 : v2.ownBlock = v.ownBlock ∨ v2.ownBlock = some (w1.alloc ob).heap.size) :
    CRow w2 B v2 (L ++ [(true, b, l, r)]) ∧ Below B w w2 ∧ FrX w w2 := by
  have hown1 := own_below hown hb1
  have key : ∀ {B' : Nat} {u : Value} {xs : List ByteArray}, Ow w1 B' 9 1 Str1 u xs → Stab w1 (OwnOf v) fun w' => Strs w' u xs := fun h => by
    obtain ⟨vs, o1, o2⟩ := id h
    exact (h.stab (M := OwnOf v) (own_own_ne o1 hown1 (by decide))).imp fun _ h => h.sl
  obtain ⟨⟨cs, r1, r2⟩, r3, _, _⟩ := row_end hst hown hB hb1 (reg_stab (c := true) (key hb) (key hl) (key hr)) hg2 ho2 ha2
  exact ⟨⟨cs, r1, .inl ⟨.inr ⟨L, _, rfl⟩, r2⟩⟩, r3, (FrX.of_below hb1).trans ((FrX.of_below ((Below.refl _ _).alloc (Nat.le_refl _) ob)).trans (FrX.grown (hown1.alloc ob) (.inl rfl) hg2))⟩
end

set_option maxRecDepth 100000 in
set_option maxHeartbeats 2000000 in
theorem addGap_any (w : World) (B : Nat) (v vb vl vr : Value) (L : List Rg) (b l r : List ByteArray) (h : CRow w B v L) (hB : B ≤ w.heap.size) (hb : Strs w vb b) (hl : Strs w vl l) (hr : Strs w vr r)
    {N : Nat} (hN : RgB N L) (hN1 : N ≤ 1000000) (hlb : b.length ≤ 1000000) (hll : l.length ≤ 1000000) (hlr : r.length ≤ 1000000) :
    Calls Try.prog 37 #[v, vb, vl, vr] w (CRowPost w B (addG L b l r)) := by
  obtain ⟨i1, hi1, hy0, hy1, hy2⟩ := info_parts Try.info_reg
  obtain ⟨A, c, rfl, hc1, hc2⟩ := h.form
  have bd : ∀ n, Below w.heap.size w (w.drewN n) := fun n => below_drewN' (Below.refl _ _) n
  have c1 := equal_any w _ _ _ _ hl hr
  have c2 := fun n => equal_any (w.drewN n) _ _ _ _ (hb.keep (Keeps.drewN w n)) (hl.keep (Keeps.drewN w n))
  have c3 := fun n => equal_any (w.drewN n) _ _ _ _ (hb.keep (Keeps.drewN w n)) (hr.keep (Keeps.drewN w n))
  have k1 := fun n => addLines_any (w.drewN n) B _ _ L l (h.below (bd n)) hB (hl.keep (Keeps.drewN w n)) hN hN1 hll
  have k2 := fun n => addLines_any (w.drewN n) B _ _ L r (h.below (bd n)) hB (hr.keep (Keeps.drewN w n)) hN hN1 hlr
  have d1 := fun w' (h : Strs w' vb b) => clone_any w' _ b h hlb
  have d2 := fun w' (h : Strs w' vl l) => clone_any w' _ l h hll
  have d3 := fun w' (h : Strs w' vr r) => clone_any w' _ r h hlr
  have hlen : L.length ≤ 1000000 := by have := hN.1; omega
  have C1 := Lib.hid c1
  have C2 := Lib.hid c2
  have C3 := Lib.hid c3
  have K1 := Lib.hid k1
  have K2 := Lib.hid k2
  have D1 := Lib.hid d1
  have D2 := Lib.hid d2
  have D3 := Lib.hid d3
  have SB := Lib.hid hb
  have SL := Lib.hid hl
  have SR := Lib.hid hr
  obtain ⟨Ab, cb, rfl, hb1, hb2⟩ := hb.form
  obtain ⟨Al, cl, rfl, hl1, hl2⟩ := hl.form
  obtain ⟨Ar, cr, rfl, hr1, hr2⟩ := hr.form
  clear c1 c2 c3 k1 k2 d1 d2 d3 hb hl hr
  by_cases h1 : l = r
  · have HE : Hid (addG L b l r = addL L l) := by show _ = _; subst h1; exact addG_same _ _ _
    rw [eqB_true h1] at C1
    clear h1 h
    go_enter Try.func37, Try.ntmps37
    go_wp2_with fail
    refine C1.out.mono ?_
    rintro e w1 ⟨rfl, n, rfl⟩
    go_wp2_with fail
    refine (K1.out n).mono ?_
    rintro e w2 ⟨v2, rfl, hp⟩
    go_wp2
    go_ret
    rw [HE.out]
    exact CRowPost.after (bd n) hB ⟨v2, rfl, hp⟩
  · rw [eqB_false h1] at C1
    by_cases h2 : b = l
    · have HE : Hid (addG L b l r = addL L r) := by show _ = _; subst h2; exact addG_left _ _ _
      rw [eqB_true h2] at C2
      clear h1 h2 h
      go_enter Try.func37, Try.ntmps37
      go_wp2_with fail
      refine C1.out.mono ?_
      rintro e w1 ⟨rfl, n, rfl⟩
      go_wp2_with fail
      refine (C2.out n).mono ?_
      rintro e w1 ⟨rfl, m, rfl⟩
      go_wp2_with fail
      refine (K2.out (n + m)).mono ?_
      rintro e w2 ⟨v2, rfl, hp⟩
      go_wp2
      go_ret
      rw [HE.out]
      exact CRowPost.after (bd (n + m)) hB ⟨v2, rfl, hp⟩
    · rw [eqB_false h2] at C2
      by_cases h3 : b = r
      · have HE : Hid (addG L b l r = addL L l) := by show _ = _; subst h3; exact addG_right _ _ _
        rw [eqB_true h3] at C3
        clear h1 h2 h3 h
        go_enter Try.func37, Try.ntmps37
        go_wp2_with fail
        refine C1.out.mono ?_
        rintro e w1 ⟨rfl, n, rfl⟩
        go_wp2_with fail
        refine (C2.out n).mono ?_
        rintro e w1 ⟨rfl, m, rfl⟩
        go_wp2_with fail
        refine (C3.out (n + m)).mono ?_
        rintro e w1 ⟨rfl, o, rfl⟩
        go_wp2_with fail
        refine (K1.out (n + m + o)).mono ?_
        rintro e w2 ⟨v2, rfl, hp⟩
        go_wp2
        go_ret
        rw [HE.out]
        exact CRowPost.after (bd (n + m + o)) hB ⟨v2, rfl, hp⟩
      · have HE : Hid (addG L b l r = L ++ [(true, b, l, r)]) := by show _ = _; unfold addG; rw [if_neg h1, if_neg h2, if_neg h3]
        rw [eqB_false h3] at C3
        have HH := Lib.hid fun n => (h.below (bd n)).row
        clear h1 h2 h3 h
        go_enter Try.func37, Try.ntmps37
        go_wp2_with fail
        refine C1.out.mono ?_
        rintro e w1 ⟨rfl, n, rfl⟩
        go_wp2_with fail
        refine (C2.out n).mono ?_
        rintro e w1 ⟨rfl, m, rfl⟩
        go_wp2_with fail
        refine (C3.out (n + m)).mono ?_
        rintro e w1 ⟨rfl, o, rfl⟩
        rw [World.drewN_drewN]
        obtain ⟨cells, hown, hst⟩ := HH.out (n + m + o)
        have hbd := bd (n + m + o)
        have sb := SB.out.keep (Keeps.drewN w (n + m + o))
        have sl := SL.out.keep (Keeps.drewN w (n + m + o))
        have sr := SR.out.keep (Keeps.drewN w (n + m + o))
        have hBq : B ≤ (w.drewN (n + m + o)).heap.size := hB
        clear HH C1 C2 C3 K1 K2 SB SL SR bd
        generalize w.drewN (n + m + o) = wq at *
        go_wp2_with fail
        refine (D1.out wq sb).mono ?_
        rintro e w1 ⟨v1, rfl, o1, g1⟩
        go_wp2_with fail
        refine (D2.out w1 (sl.keep (Keeps.of_below g1))).mono ?_
        rintro e w2 ⟨v2, rfl, o2, g2⟩
        go_wp2_with fail
        refine (D3.out w2 ((sr.keep (Keeps.of_below g1)).keep (Keeps.of_below g2))).mono ?_
        rintro e w3 ⟨v3, rfl, o3, g3⟩
        have q1 := (o1.stab (M := fun _ => False) (fun _ _ h => h)) _ (Agree.of_below g2 _)
        have q1 := (q1.stab (M := fun _ => False) (fun _ _ h => h)) _ (Agree.of_below g3 _)
        have q2 := (o2.stab (M := fun _ => False) (fun _ _ h => h)) _ (Agree.of_below g3 _)
        have g13 : Below wq.heap.size wq w3 := g1.trans ((g2.mono g1.size).trans (g3.mono (by have := g1.size; have := g2.size; omega)))
        have hown1 := own_below hown g13
        have hs3 := g13.size
        obtain ⟨A1, d1, rfl, _, _⟩ := Strs.form q1.sl
        obtain ⟨A2, d2, rfl, _, _⟩ := Strs.form q2.sl
        obtain ⟨A3, d3, rfl, _, _⟩ := Strs.form o3.sl
        clear D1 D2 D3 sb sl sr g1 g2 g3 o1 o2
        go_wp2_with (at_builtin; go_must (refine wpList_append_any _ rfl (.tmp 30) (.tmp 38) _ rfl B 58 i1 _ 4 80 Try.underlying24 hi1 hy0 hy1 hy2 rfl (by omega) (.slice A L.length c) L.length cells rfl (hown1.alloc _) _ 1 1 [.bool true, .slice A1 b.length d1, .slice A2 l.length d2, .slice A3 r.length d3] rfl rfl (CellsAt.of_new _ _ _ _) (by simp [Value.oneCell']) (by omega) (by omega) (by simp; omega) ?_)
                     intro v2 w4 ho2 hg2 ha2)
        go_ret
        rw [HE.out]
        exact CRowPost.after hbd hB ⟨v2, rfl, crow_conf hst hown hBq g13 q1 q2 o3 hg2 ho2 ha2⟩
end Go.Proofs.Ythobbcafemkhbaa
