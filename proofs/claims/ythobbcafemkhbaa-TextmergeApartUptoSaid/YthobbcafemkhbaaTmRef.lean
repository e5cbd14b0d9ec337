/- Rows of regions that a call makes: the words. cordwoodref19.agreed. cordwoodref19.gap. -/
import Derived.Test.YthobbcafemkhbaaTmMem
import Derived.Test.YthobbcafemkhbaaTmP
import Derived.Test.YthobbcafemkhbaaClosW
import Derived.Test.YthobbcafemkhbaaAwake
namespace Go.Proofs.Ythobbcafemkhbaa
open Go.RowKit

theorem Try.info_reg : (Try.prog.info? 58).map (fun i => (i.zero, i.size, i.bytes)) = some (some (.agg #[.bool false, .slice none 0 0, .slice none 0 0, .slice none 0 0]), 4, 80) := by kernel_rfl

/-- The block that a row lies in. -/
def OwnOf (v : Value) : Nat → Prop := fun b => v.ownBlock = some b
/-- The new row lies where the old one lay, or in a new block. -/
def Moved (w : World) (v v' : Value) : Prop := v'.ownBlock = v.ownBlock ∨ ∀ b, v'.ownBlock = some b → w.heap.size ≤ b

section
variable {w w' : World} {v v' : Value} {B : Nat} {L : List Rg} {cells us : List Value}
theorem Moved.refl (w : World) (v : Value) : Moved w v v := .inl rfl
theorem Moved.of_at {n : Nat} (h : v'.ownBlock = v.ownBlock ∨ v'.ownBlock = some n) (hn : w.heap.size ≤ n) : Moved w v v' := by
  rcases h with h | h
  · exact .inl h
  · exact .inr fun b hb => by rw [h] at hb; cases hb; exact hn
theorem Moved.old (h : Moved w v v') {b : Nat} (hb : b < w.heap.size) (k : v'.ownBlock = some b) : v.ownBlock = some b := by
  rcases h with h | h
  · rw [← h]; exact k
  · have := h b k; omega
theorem Moved.trans {a b : World} {v1 v2 v3 : Value} (h : Moved a v1 v2) (k : Moved b v2 v3) (hs : a.heap.size ≤ b.heap.size) : Moved a v1 v3 := by
  rcases k with k | k
  · rcases h with h | h
    · exact .inl (k.trans h)
    · exact .inr fun b hb => h b (by rw [← k]; exact hb)
  · exact .inr fun b hb => by have := k b hb; omega
theorem Stab.grow {φ : World → Prop} (h : Stab w (OwnOf v) φ) (hA : Agree (OwnOf v) w w') (hv : Moved w v v') : Stab w' (OwnOf v') φ := h.shift hA fun _ hb h1 => hv.old hb h1
/-- Everything below B is kept. -/
abbrev Far (w : World) (B : Nat) (φ : World → Prop) : Prop := Stab w (fun b => B ≤ b) φ
theorem Far.below {φ : World → Prop} (h : Far w B φ) (k : Below B w w') : Far w' B φ := h.shift ⟨k.size, fun b hb hn => k.block b (by omega)⟩ fun _ _ h => h
theorem Far.own {φ : World → Prop} (h : Far w B φ) (hv : ∀ g, v.ownBlock = some g → B ≤ g) : Stab w (OwnOf v) φ := h.mono fun _ _ h1 => hv _ h1
theorem far_strs {xs : List ByteArray} (h : Strs w v xs) : Far w w.heap.size fun w' => Strs w' v xs := by
  intro w' k
  refine h.keep fun b o u hu => ?_
  have hlt := World.block_lt_of_cell? w _ hu
  exact (World.cell?_of_block (a := ⟨b, o, none⟩) (k.block b hlt (Nat.not_le_of_lt hlt))).trans hu
theorem Far.mono_base {B' : Nat} {φ : World → Prop} (h : Far w B φ) (hb : B ≤ B') : Far w B' φ := h.mono fun _ _ h1 => by omega

/-- A row of regions that the call owns; what they hold lies elsewhere. -/
def Row (w : World) (B : Nat) (v : Value) (L : List Rg) : Prop := ∃ cells, w.ownsRow B 58 4 v L.length cells ∧ Stab w (OwnOf v) fun w' => Elems 4 (RgR w') L cells
theorem Row.rgs (h : Row w B v L) : Rgs w v L := by
  obtain ⟨cells, h1, h2⟩ := h
  exact Ow.sl ⟨cells, h1, h2.now⟩
theorem Row.form (h : Row w B v L) : ∃ A c, v = .slice A L.length c ∧ L.length ≤ c ∧ c ≤ 9223372036854775807 := h.rgs.form
theorem Row.nil (w : World) (B : Nat) : Row w B (.slice none 0 0) [] := ⟨[], World.ownsRow_nil _ _ _ _, fun _ _ => rfl⟩
theorem Row.made (w : World) (hB : B ≤ w.heap.size) : Row (w.alloc (.cells #[] 58)) B (.slice (some ⟨w.heap.size, 0, none⟩) 0 0) [] :=
  ⟨[], (Blk.new w #[] 58).own hB (cap := 0) (by simp) (by simp) (by simp), fun _ _ => rfl⟩
theorem Row.below (h : Row w B v L) (k : Below w.heap.size w w') : Row w' B v L := by
  obtain ⟨cells, h1, h2⟩ := h
  exact ⟨cells, own_stab (M := fun _ => False) h1 (fun _ _ h => h) _ (Agree.of_below k _), h2.go (Agree.of_below k _)⟩
theorem Row.lt (h : Row w B v L) : ∀ g, v.ownBlock = some g → B ≤ g ∧ g < w.heap.size := by
  obtain ⟨cells, h1, h2⟩ := h
  exact fun g hg => h1.lt g hg
theorem reg_stab {M : Nat → Prop} {c : Bool} {vb vl vr : Value} {b l r : List ByteArray} (h1 : Stab w M fun w' => Strs w' vb b) (h2 : Stab w M fun w' => Strs w' vl l) (h3 : Stab w M fun w' => Strs w' vr r) :
    Stab w M fun w' => RgR w' [.bool c, vb, vl, vr] (c, b, l, r) :=
  ((h1.both h2).both h3).imp fun _ ⟨⟨a1, a2⟩, a3⟩ => ⟨vb, vl, vr, rfl, a1, a2, a3⟩
theorem nil_stab {M : Nat → Prop} : Stab w M fun w' => Strs w' (.slice none 0 0) [] := fun _ _ => Sl.nil _ _ _
theorem Row.push {x : Rg} (hs : Stab w (OwnOf v) fun w' => Elems 4 (RgR w') L cells) (hx : Stab w (OwnOf v) fun w' => RgR w' us x) (hl : us.length = 4) (hA : Agree (OwnOf v) w w')
    (hown : w'.ownsRow B 58 4 v' (L.length + 1) (cells ++ us)) (hv : Moved w v v') : Row w' B v' (L ++ [x]) :=
  ⟨_, by simpa using hown, ((hs.both hx).imp fun _ ⟨a, b⟩ => a.append (Elems.one b hl)).grow hA hv⟩

/-- What a function that adds to a row leaves. -/
def RowPost (w : World) (B : Nat) (v : Value) (L : List Rg) : Ending → World → Prop := fun e w' =>
  ∃ v', e = .returned v' ∧ Row w' B v' L ∧ Below B w w' ∧ Agree (OwnOf v) w w' ∧ Moved w v v'

/-- How great regions are. -/
def RgB (N : Nat) (L : List Rg) : Prop := L.length ≤ N ∧ ∀ x ∈ L, x.2.2.1.length ≤ N
end
theorem RgB.nil : RgB 0 [] := ⟨Nat.le_refl _, fun _ h => by cases h⟩
theorem RgB.mono {N M : Nat} {L : List Rg} (h : RgB N L) (k : N ≤ M) : RgB M L := ⟨by have := h.1; omega, fun x hx => by have := h.2 x hx; omega⟩
theorem RgB.snoc {N : Nat} {L : List Rg} (h : RgB N L) (x : Rg) : RgB (N + x.2.2.1.length + 1) (L ++ [x]) := by
  refine ⟨by have := h.1; simp; omega, fun y hy => ?_⟩
  rcases List.mem_append.1 hy with h1 | h1
  · have := h.2 y h1; omega
  · rw [List.mem_singleton.1 h1]; omega
theorem RgB.addL {N : Nat} {L : List Rg} (h : RgB N L) (ls : List ByteArray) : RgB (N + ls.length + 1) (addL L ls) := by
  by_cases h0 : ls = []
  · subst h0; rw [addL_nil]; exact h.mono (by omega)
  rcases rg_cases L with e | ⟨L', b, l, r, e⟩ | ⟨L', b, l, r, e⟩
  · subst e; rw [addL_empty h0]; exact ⟨by simp, fun x hx => by rw [List.mem_singleton.1 hx]; show ls.length ≤ _; omega⟩
  · subst e
    rw [addL_plain _ _ _ _ h0]
    refine ⟨by have := h.1; simp at this ⊢; omega, fun x hx => ?_⟩
    rcases List.mem_append.1 hx with h1 | h1
    · have := h.2 x (List.mem_append_left _ h1); omega
    · rw [List.mem_singleton.1 h1]
      have := h.2 _ (List.mem_append_right _ (List.mem_singleton.2 rfl))
      show (l ++ ls).length ≤ _
      have h2 : l.length ≤ N := this
      rw [List.length_append]; omega
  · subst e
    rw [addL_conf _ _ _ _ h0]
    exact h.snoc (false, [], ls, [])
theorem RgB.addG {N : Nat} {L : List Rg} (h : RgB N L) (b l r : List ByteArray) : RgB (N + l.length + r.length + 1) (addG L b l r) := by
  rcases addG_cases L b l r with ⟨e, _⟩ | ⟨e, _⟩ | ⟨e, _⟩ <;> rw [e]
  · exact (h.addL l).mono (by omega)
  · exact (h.addL r).mono (by omega)
  · exact (h.snoc (true, b, l, r)).mono (by show N + l.length + 1 ≤ _; omega)
end Go.Proofs.Ythobbcafemkhbaa

namespace Go.Proofs.Ythobbcafemkhbaa
open Go.RowKit

theorem elems_cells {xs : List ByteArray} {vs : List Value} (h : Elems 1 Str1 xs vs) : vs = xs.map .string := by
  induction xs generalizing vs with
  | nil => exact h
  | cons x xs ih =>
    obtain ⟨us, vs', e, _, r, ht⟩ := h
    rw [e, show us = [.string x] from r, ih ht]
    rfl
theorem strs_cells {w : World} {A : Option Addr} {n c : Nat} {xs : List ByteArray} (h : Strs w (.slice A n c) xs) : CellsAt w A (xs.map .string) := by
  obtain ⟨A', c', vs, e, _, _, h3, h4⟩ := h
  cases e
  rw [← elems_cells h4]; exact h3
theorem own_strs {w : World} {base : Nat} {v : Value} {n : Nat} {xs : List ByteArray} (h : w.ownsRow base 9 1 v n (xs.map .string)) (hn : n = xs.length) : Ow w base 9 1 Str1 v xs := by
  subst hn; exact ⟨_, h, elems_strs xs⟩
theorem one_map {xs : List ByteArray} : ∀ u ∈ xs.map Value.string, u.oneCell' = true := by
  intro u hu
  obtain ⟨x, _, rfl⟩ := List.mem_map.1 hu
  rfl

theorem own_own_ne {w : World} {b b' s s' n n' : Nat} {e e' : TypeId} {v v' : Value} {xs xs' : List Value} (h : w.ownsRow b e s v n xs) (h' : w.ownsRow b' e' s' v' n' xs') (hne : e ≠ e') : ∀ g, v.ownBlock = some g → ¬ OwnOf v' g := by
  intro g hg hg'
  rcases h'.2 with ⟨rfl, _⟩ | ⟨g', cap, cur, rfl, _, hh, _⟩
  · simp [OwnOf, Value.ownBlock] at hg'
  · have e1 : g' = g := by simpa [OwnOf, Value.ownBlock] using hg'
    subst e1
    exact own_ne_type h hh hne hg

section
variable {w w1 w2 : World} {B : Nat} {v v1 v2 : Value} {L : List Rg} {ls : List ByteArray} {cells : List Value} {ob : Obj}
theorem grown_fresh (hg : (w.alloc ob).grownBy w1 (some w.heap.size)) : Below w.heap.size w w1 :=
  ((Below.refl _ _).alloc (Nat.le_refl _) ob).grown hg (by simp) fun k hk => by cases hk; exact Nat.le_refl _
theorem own_below {base : Nat} {e : TypeId} {sz n : Nat} {xs : List Value} (h : w.ownsRow base e sz v n xs) (k : Below w.heap.size w w1) : w1.ownsRow base e sz v n xs := own_stab (M := fun _ => False) h (fun _ _ h => h) _ (Agree.of_below k _)
/-- A region has been appended to the row. -/
theorem row_end {c : Bool} {vb vl vr : Value} {b l r : List ByteArray} (hst : Stab w (OwnOf v) fun w' => Elems 4 (RgR w') L cells) (hown : w.ownsRow B 58 4 v L.length cells) (hB : B ≤ w.heap.size) (hb1 : Below w.heap.size w w1)
    (hr : Stab w1 (OwnOf v) fun w' => RgR w' [.bool c, vb, vl, vr] (c, b, l, r))
    (hg2 : (w1.alloc ob).grownBy w2 v.ownBlock) (ho2 : w2.ownsRow B 58 4 v2 (L.length + 1) (cells ++ [.bool c, vb, vl, vr])) (ha2 : v2.ownBlock = v.ownBlock ∨ v2.ownBlock = some (w1.alloc ob).heap.size) :
    Row w2 B v2 (L ++ [(c, b, l, r)]) ∧ Below B w w2 ∧ Agree (OwnOf v) w w2 ∧ Moved w v v2 := by
  have hA1 : Agree (OwnOf v) w1 w2 := (Agree.alloc w1 ob).trans (Agree.of_grown hg2 fun g hg => hg)
  have hsz := hb1.size
  refine ⟨Row.push (hst.go (Agree.of_below hb1 _)) hr rfl hA1 ho2 (Moved.of_at ha2 (by simp)), ?_, (Agree.of_below hb1 _).trans hA1, Moved.of_at ha2 (by simp; omega)⟩
  exact ((hb1.mono hB).alloc (by omega) ob).grown hg2 (by simp; omega) fun k hk => (hown.lt k hk).1
theorem agreed_end (hst : Stab w (OwnOf v) fun w' => Elems 4 (RgR w') L cells) (hown : w.ownsRow B 58 4 v L.length cells) (hB : B ≤ w.heap.size) (hb1 : Below w.heap.size w w1)
    {base n : Nat} (ho1 : w1.ownsRow base 9 1 v1 n (ls.map .string)) (hn : n = ls.length)
    (hg2 : (w1.alloc ob).grownBy w2 v.ownBlock) (ho2 : w2.ownsRow B 58 4 v2 (L.length + 1) (cells ++ [.bool false, .slice none 0 0, v1, .slice none 0 0])) (ha2 : v2.ownBlock = v.ownBlock ∨ v2.ownBlock = some (w1.alloc ob).heap.size) :
    Row w2 B v2 (L ++ [(false, [], ls, [])]) ∧ Below B w w2 ∧ Agree (OwnOf v) w w2 ∧ Moved w v v2 :=
  row_end hst hown hB hb1 (reg_stab nil_stab (((own_strs ho1 hn).stab (M := OwnOf v) (own_own_ne ho1 (own_below hown hb1) (by decide))).imp fun _ h => h.sl) nil_stab) hg2 ho2 ha2
end

set_option maxRecDepth 100000 in
set_option maxHeartbeats 1000000 in
theorem agreed_new (w : World) (B : Nat) (v vx : Value) (L : List Rg) (ls : List ByteArray) (h : Row w B v L) (hB : B ≤ w.heap.size) (hx : Strs w vx ls) (hlen : L.length ≤ 1000000) (hll : ls.length ≤ 1000000) (h0 : ls ≠ [])
    (hc : L = [] ∨ ∃ L' b l r, L = L' ++ [(true, b, l, r)]) :
    Calls Try.prog 41 #[v, vx] w (RowPost w B v (addL L ls)) := by
  obtain ⟨i0, hi, hz0, hz1, hz2⟩ := info_parts Try.info_str
  obtain ⟨i1, hi1, hy0, hy1, hy2⟩ := info_parts Try.info_reg
  obtain ⟨A, c, rfl, hc1, hc2⟩ := h.form
  obtain ⟨Ax, cx, rfl, hx1, hx2⟩ := hx.form
  have hne : ((ls.length : Int) == 0) = false := by
    have := List.length_pos_iff.2 h0
    rw [beq_eq_false_iff_ne]; omega
  have hrg := h.rgs
  obtain ⟨cells, hown, hst⟩ := h
  have hxc := (strs_cells hx).keep (Keeps.alloc w (.cells #[] 9))
  have hs0 := (Blk.new w #[] 9).own (Nat.le_refl _) (cap := 0) (sz := 1) (n := 0) rfl (by unfold maxLen; omega) (by omega)
  have HE : Hid (addL L ls = L ++ [(false, [], ls, [])]) := by
    show _ = _
    rcases hc with h1 | ⟨L', b, l, r, h1⟩
    · subst h1; exact addL_empty h0
    · subst h1; exact addL_conf _ _ _ _ h0
  have key : ∀ w1 v1 ob w2 v2, Below w.heap.size w w1 → w1.ownsRow w.heap.size 9 1 v1 ls.length (ls.map .string) → (w1.alloc ob).grownBy w2 (Value.slice A L.length c).ownBlock →
      w2.ownsRow B 58 4 v2 (L.length + 1) (cells ++ [.bool false, .slice none 0 0, v1, .slice none 0 0]) → (v2.ownBlock = (Value.slice A L.length c).ownBlock ∨ v2.ownBlock = some (w1.alloc ob).heap.size) →
      RowPost w B (.slice A L.length c) (addL L ls) (.returned v2) w2 := by
    intro w1 v1 ob w2 v2 hb1 ho1 hg2 ho2 ha2
    obtain ⟨r1, r2, r3, r4⟩ := agreed_end hst hown hB hb1 ho1 rfl hg2 ho2 ha2
    exact ⟨v2, rfl, by rw [HE.out]; exact r1, r2, r3, r4⟩
  have KEY := Lib.hid key
  clear key hst HE h0
  by_cases hpos : 0 < L.length
  · obtain ⟨L', b, l, r, h1⟩ := hc.resolve_left (fun e => by subst e; simp at hpos)
    have hidx : ((L.length : Int) - 1).toNat = L.length - 1 := by omega
    have hlast : L[L.length - 1].1 = true := by subst h1; simp
    obtain ⟨b0, off, vb, vl, vr, rfl, a1, _⟩ := hrg.get (i := L.length - 1) (by omega)
    rw [hlast] at a1
    clear h1 hrg hc hlast
    go_enter Try.func41, Try.ntmps41
    go_wp2_with (first
      | (at_builtin; (refine wpList_append_any _ rfl (.tmp 45) (.tmp 46) _ rfl w.heap.size 9 i0 _ 1 16 Try.underlying36 hi hz0 hz1 hz2 rfl (by omega) (.slice (some ⟨w.heap.size, 0, none⟩) 0 0) 0 [] rfl hs0 Ax ls.length cx (ls.map .string) rfl (by simp) hxc one_map (by omega) (by omega) (by simp) ?_)
         intro v1 w1 ho1 hg1 ha1
         have hb1 : Below w.heap.size w w1 := grown_fresh hg1
         have hown1 := own_below hown hb1
         have hsz1 := hb1.size
         simp only [Nat.zero_add, List.nil_append] at ho1
         obtain ⟨A1, d1, rfl⟩ := own_form ho1)
      | (at_builtin; go_must (refine wpList_append_any _ rfl (.tmp 44) (.tmp 49) _ rfl B 58 i1 _ 4 80 Try.underlying24 hi1 hy0 hy1 hy2 rfl (by omega) (.slice (some ⟨b0, off, none⟩) L.length c) L.length cells rfl (hown1.alloc _) _ 1 1 [.bool false, .slice none 0 0, .slice A1 ls.length d1, .slice none 0 0] rfl rfl (CellsAt.of_new _ _ _ _) (by simp [Value.oneCell']) (by omega) (by omega) (by simp; omega) ?_)
         intro v2 w2 ho2 hg2 ha2))
    go_ret
    exact KEY.out _ _ _ _ _ hb1 ho1 hg2 ho2 ha2
  · have hz : L = [] := List.eq_nil_of_length_eq_zero (by omega)
    subst hz
    clear hc hrg hpos
    go_enter Try.func41, Try.ntmps41
    go_wp2_with (first
      | (at_builtin; (refine wpList_append_any _ rfl (.tmp 45) (.tmp 46) _ rfl w.heap.size 9 i0 _ 1 16 Try.underlying36 hi hz0 hz1 hz2 rfl (by omega) (.slice (some ⟨w.heap.size, 0, none⟩) 0 0) 0 [] rfl hs0 Ax ls.length cx (ls.map .string) rfl (by simp) hxc one_map (by omega) (by omega) (by simp) ?_)
         intro v1 w1 ho1 hg1 ha1
         have hb1 : Below w.heap.size w w1 := grown_fresh hg1
         have hown1 := own_below hown hb1
         have hsz1 := hb1.size
         simp only [Nat.zero_add, List.nil_append] at ho1
         obtain ⟨A1, d1, rfl⟩ := own_form ho1)
      | (at_builtin; go_must (refine wpList_append_any _ rfl (.tmp 44) (.tmp 49) _ rfl B 58 i1 _ 4 80 Try.underlying24 hi1 hy0 hy1 hy2 rfl (by omega) (.slice A 0 c) 0 cells rfl (hown1.alloc _) _ 1 1 [.bool false, .slice none 0 0, .slice A1 ls.length d1, .slice none 0 0] rfl rfl (CellsAt.of_new _ _ _ _) (by simp [Value.oneCell']) (by omega) (by omega) (by simp; omega) ?_)
         intro v2 w2 ho2 hg2 ha2))
    go_ret
    exact KEY.out _ _ _ _ _ hb1 ho1 hg2 ho2 ha2

theorem elems_one {w : World} : ∀ {L : List Rg} {cells : List Value}, Elems 4 (RgR w) L cells → ∀ u ∈ cells, u.oneCell' = true
  | [], cells, h, u, hu => by rw [show cells = [] from h] at hu; cases hu
  | x :: L, cells, ⟨us, vs, e, _, ⟨vb, vl, vr, e2, h1, h2, h3⟩, ht⟩, u, hu => by
    obtain ⟨_, _, rfl, _⟩ := h1.form
    obtain ⟨_, _, rfl, _⟩ := h2.form
    obtain ⟨_, _, rfl, _⟩ := h3.form
    subst e e2
    rcases List.mem_append.1 hu with h | h
    · simp only [List.mem_cons, List.not_mem_nil, or_false] at h
      rcases h with rfl | rfl | rfl | rfl <;> rfl
    · exact elems_one ht u h
theorem own_mono_base {w : World} {b b' : Nat} {e : TypeId} {sz n : Nat} {v : Value} {xs : List Value} (h : w.ownsRow b e sz v n xs) (hb : b' ≤ b) : w.ownsRow b' e sz v n xs := by
  obtain ⟨h1, h2⟩ := h
  refine ⟨h1, ?_⟩
  rcases h2 with h2 | ⟨g, cap, cur, a1, a2, a3⟩
  · exact .inl h2
  · exact .inr ⟨g, cap, cur, a1, by omega, a3⟩
theorem Row.mono_base {w : World} {B B' : Nat} {v : Value} {L : List Rg} (h : Row w B v L) (hb : B' ≤ B) : Row w B' v L := by
  obtain ⟨cells, h1, h2⟩ := h
  exact ⟨cells, own_mono_base h1 hb, h2⟩
theorem own_cellsAt {w : World} {b : Nat} {e : TypeId} {sz n c : Nat} {A : Option Addr} {xs : List Value} (h : w.ownsRow b e sz (.slice A n c) n xs) : CellsAt w A xs := by
  rcases h.2 with ⟨h1, rfl⟩ | ⟨g, cap, cur, h1, _⟩
  · have := h.1
    have : xs = [] := List.eq_nil_of_length_eq_zero (by omega)
    subst this
    exact CellsAt.nil _ _
  · cases h1
    exact CellsAt.of_kit (h.cells (g := g) rfl)
theorem run_at_to_same {P : Program} (t e : TypeId) (ti : TypeInfo) (ht : P.underlying t = some (.slice e)) (hti : P.info? e = some ti) {A : Option Addr} {n c : Nat} (hc : n ≤ c) (k2 : IntKind) (j : Nat) (hj : j ≤ n) :
    ∀ w', (Instr.sliceAt t (.slice A n c) none (some (.int k2 (j : Int))) none).run P w' = .ok (.slice A j c) w' := by
  intro w'
  have hel : P.elem t = e := by simp [Program.elem, ht]
  have hr := run_slice_h (P := P) w' t A n c (by rw [hel]; exact ht) k2 j (by omega) (by omega)
  have hs : (sizeOf (P.elem t)).run P w' = .ok ti.size w' := by rw [hel]; simp [sizeOf, typeInfo, hti]
  rw [hs] at hr
  rw [run_sliceAt_slice w' t _ _ _ _ (by rw [hel]; exact ht), hr]
  simp [Result.andThen, Go.sliced]
  intro _
  cases A with
  | none => rfl
  | some a => simp [Addr.add]

set_option maxRecDepth 100000 in
set_option maxHeartbeats 2000000 in
theorem agreed_last (w : World) (B : Nat) (v vx : Value) (L' : List Rg) (b l r ls : List ByteArray) (h : Row w B v (L' ++ [(false, b, l, r)])) (hB : B ≤ w.heap.size) (hx : Strs w vx ls) (hlen : L'.length ≤ 1000000) (hl1 : l.length ≤ 1000000) (hll : ls.length ≤ 1000000) (h0 : ls ≠ []) :
    Calls Try.prog 41 #[v, vx] w (RowPost w B v (addL (L' ++ [(false, b, l, r)]) ls)) := by
  obtain ⟨i0, hi, hz0, hz1, hz2⟩ := info_parts Try.info_str
  obtain ⟨i1, hi1, hy0, hy1, hy2⟩ := info_parts Try.info_reg
  obtain ⟨A, c, rfl, hc1, hc2⟩ := h.form
  obtain ⟨Ax, cx, rfl, hx1, hx2⟩ := hx.form
  have hne : ((ls.length : Int) == 0) = false := by
    have := List.length_pos_iff.2 h0
    rw [beq_eq_false_iff_ne]; omega
  rw [addL_plain _ _ _ _ h0]
  have hrg := h.rgs
  obtain ⟨cells, hown, hst⟩ := h
  have hcl : cells.length = (L'.length + 1) * 4 := by have := hst.now.length; simpa using this
  have hsl := run_at_to_same (P := Try.prog) 24 58 i1 Try.underlying24 hi1 (A := A) (n := L'.length + 1) (c := c) (by simpa using hc1) .i64 L'.length (by omega)
  obtain ⟨b0, off, vb, vl, vr, rfl, a1, a2, a3, a4, a5, a6, a7⟩ := hrg.get (i := L'.length) (by simp)
  simp only [List.getElem_concat_length] at a1 a5 a6 a7
  obtain ⟨Al, cl, rfl, hl2, hl3⟩ := a6.form
  have hnews : CellsAt w (some ⟨b0, off, none⟩) (cells.take (L'.length * 4)) := (own_cellsAt hown).take _
  have hone : ∀ u ∈ cells.take (L'.length * 4), u.oneCell' = true := fun u hu => elems_one hst.now u (List.mem_of_mem_take hu)
  have hst0 : Stab w (OwnOf (.slice (some ⟨b0, off, none⟩) (L' ++ [(false, b, l, r)]).length c)) fun w' => Elems 4 (RgR w') L' (cells.take (L'.length * 4)) := hst.imp fun w2 h2 => by
    have := h2.take L'.length
    rwa [List.take_left] at this
  have hw0 := (Blk.new w #[] 58).own (Nat.le_refl _) (cap := 0) (sz := 4) (n := 0) rfl (by unfold maxLen; omega) (by omega)
  have hnews0 := hnews.keep (Keeps.alloc w (.cells #[] 58))
  have hn4 : (cells.take (L'.length * 4)).length = L'.length * 4 := by rw [List.length_take, hcl]; omega
  have HN4 := Lib.hid hn4
  have hlc := strs_cells a6
  have hxc := strs_cells hx
  clear hst hcl hnews hrg a2 a4 a5 a7 a6 hn4 hne hx
  have hne : ((ls.length : Int) == 0) = false := by
    have := List.length_pos_iff.2 h0
    rw [beq_eq_false_iff_ne]; omega
  clear h0
  generalize cells.take (L'.length * 4) = cs0 at *
  go_enter Try.func41, Try.ntmps41
  go_wp2_with (first
    | (at_builtin; (refine wpList_append_any _ rfl (.tmp 24) (.tmp 28) _ rfl w.heap.size 58 i1 _ 4 80 Try.underlying24 hi1 hy0 hy1 hy2 rfl (by omega) (.slice (some ⟨w.heap.size, 0, none⟩) 0 0) 0 [] rfl hw0 (some ⟨b0, off, none⟩) L'.length c cs0 rfl HN4.out hnews0 hone (by omega) (by omega) (by simp) ?_)
       intro v1 w1 ho1 hg1 ha1
       simp only [Nat.zero_add, List.nil_append] at ho1
       have hb1 : Below w.heap.size w w1 := grown_fresh hg1
       have hsz1 := hb1.size
       have hs0 := (Blk.new w1 #[] 9).own (Nat.le_refl _) (cap := 0) (sz := 1) (n := 0) rfl (by unfold maxLen; omega) (by omega)
       have hlc1 := (hlc.keep (Keeps.of_below hb1)).keep (Keeps.alloc w1 (.cells #[] 9))
       have a31 := Keeps.alloc w1 (.cells #[] 9) _ _ _ (cell_later hb1 a3)
       obtain ⟨A1, d1, rfl⟩ := own_form ho1)
    | (at_builtin; (refine wpList_append_any _ rfl (.tmp 31) (.tmp 37) _ rfl w1.heap.size 9 i0 _ 1 16 Try.underlying36 hi hz0 hz1 hz2 rfl (by omega) (.slice (some ⟨w1.heap.size, 0, none⟩) 0 0) 0 [] rfl hs0 Al l.length cl (l.map .string) rfl (by simp) hlc1 one_map (by omega) (by omega) (by simp) ?_)
       intro v2 w2 ho2 hg2 ha2
       simp only [Nat.zero_add, List.nil_append] at ho2
       have hb2 : Below w1.heap.size w1 w2 := grown_fresh hg2
       have hxc2 := (hxc.keep (Keeps.of_below hb1)).keep (Keeps.of_below hb2)
       have hsz2 := hb2.size
       obtain ⟨A2, d2, rfl⟩ := own_form ho2)
    | (at_builtin; (refine wpList_append_any _ rfl (.tmp 38) (.tmp 39) _ rfl w1.heap.size 9 i0 _ 1 16 Try.underlying36 hi hz0 hz1 hz2 rfl (by omega) (.slice A2 l.length d2) l.length (l.map .string) rfl ho2 Ax ls.length cx (ls.map .string) rfl (by simp) hxc2 one_map (by omega) (by omega) (by omega) ?_)
       intro v3 w3 ho3 hg3 ha3
       have hb3 : Below w1.heap.size w1 w3 := hb2.grown hg3 hsz2 (fun k hk => (ho2.lt k hk).1)
       have ho13 := own_below ho1 hb3
       have hsz3 := hb3.size
       obtain ⟨A3, d3, rfl⟩ := own_form ho3)
    | (at_builtin; (refine wpList_append_any _ rfl (.tmp 30) (.tmp 42) _ rfl w.heap.size 58 i1 _ 4 80 Try.underlying24 hi1 hy0 hy1 hy2 rfl (by omega) (.slice A1 L'.length d1) L'.length cs0 rfl (ho13.alloc _) _ 1 1 [.bool false, .slice none 0 0, .slice A3 (l.length + ls.length) d3, .slice none 0 0] rfl rfl (CellsAt.of_new _ _ _ _) (by simp [Value.oneCell']) (by omega) (by omega) (by simp; omega) ?_)
       intro v4 w4 ho4 hg4 ha4))
  go_ret
  have hst1 : Stab w1 (OwnOf (.slice A1 L'.length d1)) fun w' => Elems 4 (RgR w') L' cs0 := hst0.shift (Agree.of_below hb1 _) fun b hb h1 => by have := (ho1.lt b h1).1; omega
  rw [← List.map_append] at ho3
  have hr := reg_stab (c := false) nil_stab (((own_strs ho3 (by simp)).stab (M := OwnOf (.slice A1 L'.length d1)) (own_own_ne ho3 ho13 (by decide))).imp fun _ h => h.sl) nil_stab
  obtain ⟨r1, r2, r3, r4⟩ := row_end hst1 ho1 hsz1 hb3 hr hg4 ho4 ha4
  refine ⟨v4, rfl, r1.mono_base hB, (hb1.trans r2).mono hB, Agree.of_below (hb1.trans r2) _, .inr fun b hb => (r1.lt b hb).1⟩

theorem RowPost.drawn {w w1 : World} {B : Nat} {v : Value} {L : List Rg} (hd : Drawn w w1) {e : Ending} {w' : World} (h : RowPost w1 B v L e w') : RowPost w B v L e w' := by
  obtain ⟨n, rfl⟩ := hd
  obtain ⟨v', h1, h2, h3, h4, h5⟩ := h
  exact ⟨v', h1, h2, ⟨h3.os, h3.tape, h3.output, h3.size, h3.block⟩, ⟨h4.size, h4.block⟩, h5⟩
theorem RowPost.same {w : World} {B : Nat} {v : Value} {L : List Rg} (h : Row w B v L) : RowPost w B v L (.returned v) w := ⟨v, rfl, h, Below.refl _ _, Agree.refl _ _, .inl rfl⟩

set_option maxHeartbeats 1000000 in
theorem agreed_any (w : World) (B : Nat) (v vx : Value) (L : List Rg) (ls : List ByteArray) (h : Row w B v L) (hB : B ≤ w.heap.size) (hx : Strs w vx ls) {N : Nat} (hN : RgB N L) (hN1 : N ≤ 1000000) (hll : ls.length ≤ 1000000) :
    Calls Try.prog 41 #[v, vx] w (RowPost w B v (addL L ls)) := by
  by_cases h0 : ls = []
  · subst h0
    obtain ⟨A, c, rfl, hc1, hc2⟩ := h.form
    obtain ⟨Ax, cx, rfl, hx1, hx2⟩ := hx.form
    rw [addL_nil]
    have HP := Lib.hid (RowPost.same h)
    clear h hx
    go_enter Try.func41, Try.ntmps41
    go_wp2
    go_ret
    exact HP.out
  · have hl := hN.1
    rcases rg_cases L with e | ⟨L', b, l, r, e⟩ | ⟨L', b, l, r, e⟩
    · exact agreed_new w B v vx L ls h hB hx (by omega) hll h0 (.inl e)
    · subst e
      have h2 := hN.2 _ (List.mem_append_right _ (List.mem_singleton.2 rfl))
      have h3 : l.length ≤ N := h2
      rw [List.length_append] at hl
      exact agreed_last w B v vx L' b l r ls h hB hx (by omega) (by omega) hll h0
    · exact agreed_new w B v vx L ls h hB hx (by omega) hll h0 (.inr ⟨L', b, l, r, e⟩)
end Go.Proofs.Ythobbcafemkhbaa

namespace Go.Proofs.Ythobbcafemkhbaa
open Go.RowKit

theorem Far.drewN {w : World} {B : Nat} {φ : World → Prop} (h : Far w B φ) (n : Nat) : Far (w.drewN n) B φ := fun w' k => h w' ⟨k.size, k.block⟩

set_option maxRecDepth 100000 in
set_option maxHeartbeats 2000000 in
theorem gap_any (w : World) (B : Nat) (v vb vl vr : Value) (L : List Rg) (b l r : List ByteArray) (h : Row w B v L) (hB : B ≤ w.heap.size) (hb : Far w B fun w' => Strs w' vb b) (hl : Far w B fun w' => Strs w' vl l) (hr : Far w B fun w' => Strs w' vr r)
    {N : Nat} (hN : RgB N L) (hN1 : N ≤ 1000000) (hll : l.length ≤ 1000000) (hlr : r.length ≤ 1000000) :
    Calls Try.prog 40 #[v, vb, vl, vr] w (RowPost w B v (addG L b l r)) := by
  obtain ⟨i1, hi1, hy0, hy1, hy2⟩ := info_parts Try.info_reg
  obtain ⟨A, c, rfl, hc1, hc2⟩ := h.form
  obtain ⟨Ab, cb, rfl, hb1, hb2⟩ := hb.now.form
  obtain ⟨Al, cl, rfl, hl1, hl2⟩ := hl.now.form
  obtain ⟨Ar, cr, rfl, hr1, hr2⟩ := hr.now.form
  have c1 := same_any w _ _ _ _ hl.now hr.now
  have c2 := fun n => same_any (w.drewN n) _ _ _ _ (hb.drewN n).now (hr.drewN n).now
  have c3 := fun n => same_any (w.drewN n) _ _ _ _ (hb.drewN n).now (hl.drewN n).now
  have k1 := fun n => agreed_any (w.drewN n) B _ _ L l (h.below (below_drewN' (Below.refl _ _) n)) hB (hl.drewN n).now hN hN1 hll
  have k2 := fun n => agreed_any (w.drewN n) B _ _ L r (h.below (below_drewN' (Below.refl _ _) n)) hB (hr.drewN n).now hN hN1 hlr
  have hlen : L.length ≤ 1000000 := by have := hN.1; omega
  have C1 := Lib.hid c1
  have C2 := Lib.hid c2
  have C3 := Lib.hid c3
  have K1 := Lib.hid k1
  have K2 := Lib.hid k2
  clear c1 c2 c3 k1 k2
  by_cases h1 : l = r
  · have HE : Hid (addG L b l r = addL L l) := by show _ = _; subst h1; exact addG_same _ _ _
    rw [eqB_true h1] at C1
    clear h1 hb hl hr h
    go_enter Try.func40, Try.ntmps40
    go_wp2_with fail
    refine C1.out.mono ?_
    rintro e w1 ⟨rfl, n, rfl⟩
    go_wp2_with fail
    refine (K1.out n).mono ?_
    rintro e w2 ⟨v2, rfl, hp⟩
    go_wp2
    go_ret
    rw [HE.out]
    exact RowPost.drawn ⟨n, rfl⟩ ⟨v2, rfl, hp⟩
  · rw [eqB_false h1] at C1
    by_cases h2 : b = r
    · have HE : Hid (addG L b l r = addL L l) := by show _ = _; subst h2; exact addG_right _ _ _
      rw [eqB_true h2] at C2
      clear h1 h2 hb hl hr h
      go_enter Try.func40, Try.ntmps40
      go_wp2_with fail
      refine C1.out.mono ?_
      rintro e w1 ⟨rfl, n, rfl⟩
      go_wp2_with fail
      refine (C2.out n).mono ?_
      rintro e w1 ⟨rfl, m, rfl⟩
      go_wp2_with fail
      refine (K1.out (n + m)).mono ?_
      rintro e w2 ⟨v2, rfl, hp⟩
      go_wp2
      go_ret
      rw [HE.out]
      exact RowPost.drawn ⟨n + m, rfl⟩ ⟨v2, rfl, hp⟩
    · rw [eqB_false h2] at C2
      by_cases h3 : b = l
      · have HE : Hid (addG L b l r = addL L r) := by show _ = _; subst h3; exact addG_left _ _ _
        rw [eqB_true h3] at C3
        clear h1 h2 h3 hb hl hr h
        go_enter Try.func40, Try.ntmps40
        go_wp2_with fail
        refine C1.out.mono ?_
        rintro e w1 ⟨rfl, n, rfl⟩
        go_wp2_with fail
        refine (C2.out n).mono ?_
        rintro e w1 ⟨rfl, m, rfl⟩
        go_wp2_with fail
        refine (C3.out (n + m)).mono ?_
        rintro e w1 ⟨rfl, o, rfl⟩
        go_wp2_with fail
        refine (K2.out (n + m + o)).mono ?_
        rintro e w2 ⟨v2, rfl, hp⟩
        go_wp2
        go_ret
        rw [HE.out]
        exact RowPost.drawn ⟨n + m + o, rfl⟩ ⟨v2, rfl, hp⟩
      · have HE : Hid (addG L b l r = L ++ [(true, b, l, r)]) := by show _ = _; unfold addG; rw [if_neg h1, if_neg h3, if_neg h2]
        rw [eqB_false h3] at C3
        have how := h.lt
        obtain ⟨cells, hown, hst⟩ := h
        have hreg := fun n => reg_stab (c := true) ((hb.drewN n).own fun g hg => (how g hg).1) ((hl.drewN n).own fun g hg => (how g hg).1) ((hr.drewN n).own fun g hg => (how g hg).1)
        have hst' : ∀ n, Stab (w.drewN n) (OwnOf (.slice A L.length c)) fun w' => Elems 4 (RgR w') L cells := fun n w' k => hst w' ⟨k.size, k.block⟩
        have hown' : ∀ n, (w.drewN n).ownsRow B 58 4 (.slice A L.length c) L.length cells := fun n => own_below hown (below_drewN' (Below.refl _ _) n)
        have HR := Lib.hid hreg
        have HST := Lib.hid hst'
        have HOW := Lib.hid hown'
        clear h1 h2 h3 hb hl hr hreg hst' hown' hst hown how
        go_enter Try.func40, Try.ntmps40
        go_wp2_with fail
        refine C1.out.mono ?_
        rintro e w1 ⟨rfl, n, rfl⟩
        go_wp2_with fail
        refine (C2.out n).mono ?_
        rintro e w1 ⟨rfl, m, rfl⟩
        go_wp2_with fail
        refine (C3.out (n + m)).mono ?_
        rintro e w1 ⟨rfl, o, rfl⟩
        rw [World.drewN_drewN]
        have hown := HOW.out (n + m + o)
        have hst := HST.out (n + m + o)
        have hreg := HR.out (n + m + o)
        have hd : Drawn w (w.drewN (n + m + o)) := ⟨_, rfl⟩
        have hBq : B ≤ (w.drewN (n + m + o)).heap.size := hB
        clear HOW HST HR C1 C2 C3 K1 K2 hB
        generalize w.drewN (n + m + o) = wq at *
        go_wp2_with (at_builtin; go_must (refine wpList_append_any _ rfl (.tmp 26) (.tmp 31) _ rfl B 58 i1 _ 4 80 Try.underlying24 hi1 hy0 hy1 hy2 rfl (by omega) (.slice A L.length c) L.length cells rfl (hown.alloc _) _ 1 1 [.bool true, .slice Ab b.length cb, .slice Al l.length cl, .slice Ar r.length cr] rfl rfl (CellsAt.of_new _ _ _ _) (by simp [Value.oneCell']) (by omega) (by omega) (by simp; omega) ?_)
                     intro v2 w2 ho2 hg2 ha2)
        go_ret
        rw [HE.out]
        exact RowPost.drawn hd ⟨v2, rfl, row_end hst hown hBq (Below.refl _ _) hreg hg2 ho2 ha2⟩
end Go.Proofs.Ythobbcafemkhbaa
