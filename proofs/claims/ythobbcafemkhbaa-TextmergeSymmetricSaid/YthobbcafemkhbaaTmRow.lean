/- Rows of regions that a call makes: the words. -/
import Derived.Test.YthobbcafemkhbaaTmMem
import Derived.Test.YthobbcafemkhbaaTmValid
import Derived.Test.YthobbcafemkhbaaClosW
namespace Go.Proofs.Ythobbcafemkhbaa
open Go.RowKit

theorem Try.info_reg : (Try.prog.info? 58).map (fun i => (i.zero, i.size, i.bytes)) = some (some (.agg #[.bool false, .slice none 0 0, .slice none 0 0, .slice none 0 0]), 4, 80) := by kernel_rfl

/-- The block that a row lies in. -/
def OwnOf (v : Value) : Nat → Prop := fun b => v.ownBlock = some b
/-- The new row lies where the old one lay, or in a new block. -/
def Moved (w : World) (v v' : Value) : Prop := v'.ownBlock = v.ownBlock ∨ ∀ b, v'.ownBlock = some b → w.heap.size ≤ b

section
variable {w w' : World} {v v' : Value} {B : Nat} {L : List Rg} {cells us : List Value}
theorem Moved.refl (w : World) (v : Value) : Moved w v v := .inl rfl
theorem Moved.of_at {n : Nat} (h : v'.ownBlock = v.ownBlock ∨ v'.ownBlock = some n) (hn : w.heap.size ≤ n) : Moved w v v' := by
  rcases h with h | h
  · exact .inl h
  · exact .inr fun b hb => by rw [h] at hb; cases hb; exact hn
theorem Moved.old (h : Moved w v v') {b : Nat} (hb : b < w.heap.size) (k : v'.ownBlock = some b) : v.ownBlock = some b := by
  rcases h with h | h
  · rw [← h]; exact k
  · have := h b k; omega
theorem Moved.trans {a b : World} {v1 v2 v3 : Value} (h : Moved a v1 v2) (k : Moved b v2 v3) (hs : a.heap.size ≤ b.heap.size) : Moved a v1 v3 := by
  rcases k with k | k
  · rcases h with h | h
    · exact .inl (k.trans h)
    · exact .inr fun b hb => h b (by rw [← k]; exact hb)
  · exact .inr fun b hb => by have := k b hb; omega
theorem Stab.grow {φ : World → Prop} (h : Stab w (OwnOf v) φ) (hA : Agree (OwnOf v) w w') (hv : Moved w v v') : Stab w' (OwnOf v') φ := h.shift hA fun _ hb h1 => hv.old hb h1
/-- Everything below B is kept. -/
abbrev Far (w : World) (B : Nat) (φ : World → Prop) : Prop := Stab w (fun b => B ≤ b) φ
theorem Far.below {φ : World → Prop} (h : Far w B φ) (k : Below B w w') : Far w' B φ := h.shift ⟨k.size, fun b hb hn => k.block b (by omega)⟩ fun _ _ h => h
theorem Far.own {φ : World → Prop} (h : Far w B φ) (hv : ∀ g, v.ownBlock = some g → B ≤ g) : Stab w (OwnOf v) φ := h.mono fun _ _ h1 => hv _ h1
theorem far_strs {xs : List ByteArray} (h : Strs w v xs) : Far w w.heap.size fun w' => Strs w' v xs := by
  intro w' k
  refine h.keep fun b o u hu => ?_
  have hlt := World.block_lt_of_cell? w _ hu
  exact (World.cell?_of_block (a := ⟨b, o, none⟩) (k.block b hlt (Nat.not_le_of_lt hlt))).trans hu
theorem Far.mono_base {B' : Nat} {φ : World → Prop} (h : Far w B φ) (hb : B ≤ B') : Far w B' φ := h.mono fun _ _ h1 => by omega

/-- A row of regions that the call owns; what they hold lies elsewhere. -/
def Row (w : World) (B : Nat) (v : Value) (L : List Rg) : Prop := ∃ cells, w.ownsRow B 58 4 v L.length cells ∧ Stab w (OwnOf v) fun w' => Elems 4 (RgR w') L cells
theorem Row.rgs (h : Row w B v L) : Rgs w v L := by
  obtain ⟨cells, h1, h2⟩ := h
  exact Ow.sl ⟨cells, h1, h2.now⟩
theorem Row.form (h : Row w B v L) : ∃ A c, v = .slice A L.length c ∧ L.length ≤ c ∧ c ≤ 9223372036854775807 := h.rgs.form
theorem Row.nil (w : World) (B : Nat) : Row w B (.slice none 0 0) [] := ⟨[], World.ownsRow_nil _ _ _ _, fun _ _ => rfl⟩
theorem Row.made (w : World) (hB : B ≤ w.heap.size) : Row (w.alloc (.cells #[] 58)) B (.slice (some ⟨w.heap.size, 0, none⟩) 0 0) [] :=
  ⟨[], (Blk.new w #[] 58).own hB (cap := 0) (by simp) (by simp) (by simp), fun _ _ => rfl⟩
theorem Row.below (h : Row w B v L) (k : Below w.heap.size w w') : Row w' B v L := by
  obtain ⟨cells, h1, h2⟩ := h
  exact ⟨cells, own_stab (M := fun _ => False) h1 (fun _ _ h => h) _ (Agree.of_below k _), h2.go (Agree.of_below k _)⟩
theorem Row.lt (h : Row w B v L) : ∀ g, v.ownBlock = some g → B ≤ g ∧ g < w.heap.size := by
  obtain ⟨cells, h1, h2⟩ := h
  exact fun g hg => h1.lt g hg
theorem reg_stab {M : Nat → Prop} {c : Bool} {vb vl vr : Value} {b l r : List ByteArray} (h1 : Stab w M fun w' => Strs w' vb b) (h2 : Stab w M fun w' => Strs w' vl l) (h3 : Stab w M fun w' => Strs w' vr r) :
    Stab w M fun w' => RgR w' [.bool c, vb, vl, vr] (c, b, l, r) :=
  ((h1.both h2).both h3).imp fun _ ⟨⟨a1, a2⟩, a3⟩ => ⟨vb, vl, vr, rfl, a1, a2, a3⟩
theorem nil_stab {M : Nat → Prop} : Stab w M fun w' => Strs w' (.slice none 0 0) [] := fun _ _ => Sl.nil _ _ _
theorem Row.push {x : Rg} (hs : Stab w (OwnOf v) fun w' => Elems 4 (RgR w') L cells) (hx : Stab w (OwnOf v) fun w' => RgR w' us x) (hl : us.length = 4) (hA : Agree (OwnOf v) w w')
    (hown : w'.ownsRow B 58 4 v' (L.length + 1) (cells ++ us)) (hv : Moved w v v') : Row w' B v' (L ++ [x]) :=
  ⟨_, by simpa using hown, ((hs.both hx).imp fun _ ⟨a, b⟩ => a.append (Elems.one b hl)).grow hA hv⟩

/-- What a function that adds to a row leaves. -/
def RowPost (w : World) (B : Nat) (v : Value) (L : List Rg) : Ending → World → Prop := fun e w' =>
  ∃ v', e = .returned v' ∧ Row w' B v' L ∧ Below B w w' ∧ Agree (OwnOf v) w w' ∧ Moved w v v'

/-- How great regions are. -/
def RgB (N : Nat) (L : List Rg) : Prop := L.length ≤ N ∧ ∀ x ∈ L, x.2.2.1.length ≤ N
end
theorem RgB.nil : RgB 0 [] := ⟨Nat.le_refl _, fun _ h => by cases h⟩
theorem RgB.mono {N M : Nat} {L : List Rg} (h : RgB N L) (k : N ≤ M) : RgB M L := ⟨by have := h.1; omega, fun x hx => by have := h.2 x hx; omega⟩
theorem RgB.snoc {N : Nat} {L : List Rg} (h : RgB N L) (x : Rg) : RgB (N + x.2.2.1.length + 1) (L ++ [x]) := by
  refine ⟨by have := h.1; simp; omega, fun y hy => ?_⟩
  rcases List.mem_append.1 hy with h1 | h1
  · have := h.2 y h1; omega
  · rw [List.mem_singleton.1 h1]; omega
theorem RgB.addL {N : Nat} {L : List Rg} (h : RgB N L) (ls : List ByteArray) : RgB (N + ls.length + 1) (addL L ls) := by
  by_cases h0 : ls = []
  · subst h0; rw [addL_nil]; exact h.mono (by omega)
  rcases rg_cases L with e | ⟨L', b, l, r, e⟩ | ⟨L', b, l, r, e⟩
  · subst e; rw [addL_empty h0]; exact ⟨by simp, fun x hx => by rw [List.mem_singleton.1 hx]; show ls.length ≤ _; omega⟩
  · subst e
    rw [addL_plain _ _ _ _ h0]
    refine ⟨by have := h.1; simp at this ⊢; omega, fun x hx => ?_⟩
    rcases List.mem_append.1 hx with h1 | h1
    · have := h.2 x (List.mem_append_left _ h1); omega
    · rw [List.mem_singleton.1 h1]
      have := h.2 _ (List.mem_append_right _ (List.mem_singleton.2 rfl))
      show (l ++ ls).length ≤ _
      have h2 : l.length ≤ N := this
      rw [List.length_append]; omega
  · subst e
    rw [addL_conf _ _ _ _ h0]
    exact h.snoc (false, [], ls, [])
theorem RgB.addG {N : Nat} {L : List Rg} (h : RgB N L) (b l r : List ByteArray) : RgB (N + l.length + r.length + 1) (addG L b l r) := by
  rcases addG_cases L b l r with ⟨e, _⟩ | ⟨e, _⟩ | ⟨e, _⟩ <;> rw [e]
  · exact (h.addL l).mono (by omega)
  · exact (h.addL r).mono (by omega)
  · exact (h.snoc (true, b, l, r)).mono (by show N + l.length + 1 ≤ _; omega)
end Go.Proofs.Ythobbcafemkhbaa
