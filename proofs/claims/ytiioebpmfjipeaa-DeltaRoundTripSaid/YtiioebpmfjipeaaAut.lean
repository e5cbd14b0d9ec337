/- Plain: the suffix automaton of a text. -/
namespace Go.Proofs.Ytiioebpmfjipeaa

/-- Where a word ends first in a text. -/
def FE (t w : List UInt8) (e : Nat) : Prop := e ≤ t.length ∧ w <:+ t.take e ∧ ∀ e', e' < e → ¬ w <:+ t.take e'
theorem FE.uniq {t w : List UInt8} {e e' : Nat} (h : FE t w e) (k : FE t w e') : e = e' := by
  rcases Nat.lt_trichotomy e e' with h1 | h1 | h1
  · exact absurd h.2.1 (k.2.2 e h1)
  · exact h1
  · exact absurd k.2.1 (h.2.2 e' h1)
def Occ (t w : List UInt8) : Prop := ∃ e, e ≤ t.length ∧ w <:+ t.take e
theorem FE.occ {t w : List UInt8} {e : Nat} (h : FE t w e) : Occ t w := ⟨e, h.1, h.2.1⟩
theorem Occ.first {t w : List UInt8} (h : Occ t w) : ∃ e, FE t w e := by
  obtain ⟨e, h1, h2⟩ := h
  induction e using Nat.strongRecOn with
  | ind e ih =>
    by_cases hx : ∃ e', e' < e ∧ w <:+ t.take e'
    · obtain ⟨e', h3, h4⟩ := hx
      exact ih e' h3 (by omega) h4
    · exact ⟨e, h1, h2, fun e' h3 h4 => hx ⟨e', h3, h4⟩⟩
theorem Occ.suffix {t w w' : List UInt8} (h : Occ t w) (k : w' <:+ w) : Occ t w' := by
  obtain ⟨e, h1, h2⟩ := h
  exact ⟨e, h1, k.trans h2⟩
theorem Occ.app {t w : List UInt8} (h : Occ t w) (c : UInt8) : Occ (t ++ [c]) w := by
  obtain ⟨e, h1, h2⟩ := h
  exact ⟨e, by simp; omega, by rw [List.take_append_of_le_length h1]; exact h2⟩
theorem FE.app {t w : List UInt8} {e : Nat} (h : FE t w e) (c : UInt8) : FE (t ++ [c]) w e := by
  obtain ⟨h1, h2, h3⟩ := h
  refine ⟨by simp; omega, by rw [List.take_append_of_le_length h1]; exact h2, fun e' h4 => ?_⟩
  rw [List.take_append_of_le_length (by omega)]
  exact h3 e' h4
/-- A word that ends in the longer text ends in the shorter one, or at the end. -/
theorem Occ.snoc {t w : List UInt8} {c : UInt8} (h : Occ (t ++ [c]) w) : Occ t w ∨ w <:+ t ++ [c] := by
  obtain ⟨e, h1, h2⟩ := h
  by_cases he : e ≤ t.length
  · left
    rw [List.take_append_of_le_length he] at h2
    exact ⟨e, he, h2⟩
  · right
    have : e = (t ++ [c]).length := by simp at h1 ⊢; omega
    rw [this, List.take_length] at h2
    exact h2
theorem FE.new {t w : List UInt8} {c : UInt8} (h : w <:+ t ++ [c]) (hn : ¬ Occ t w) : FE (t ++ [c]) w (t.length + 1) := by
  refine ⟨by simp, by rw [List.take_of_length_le (by simp)]; exact h, fun e' h1 h2 => ?_⟩
  rw [List.take_append_of_le_length (by omega)] at h2
  exact hn ⟨e', by omega, h2⟩
theorem suf_cmp {a b t : List UInt8} (ha : a <:+ t) (hb : b <:+ t) (h : a.length ≤ b.length) : a <:+ b := List.suffix_of_suffix_length_le ha hb h
theorem suf_eq {a b : List UInt8} (h : a <:+ b) (hl : b.length ≤ a.length) : a = b := h.eq_of_length_le hl
theorem suf_snoc {w t : List UInt8} {c : UInt8} (h : w <:+ t ++ [c]) (hw : w ≠ []) : ∃ w', w = w' ++ [c] ∧ w' <:+ t := by
  obtain ⟨p, hp⟩ := h
  have hl : w.dropLast ++ [w.getLast hw] = w := List.dropLast_concat_getLast hw
  rw [← hl, ← List.append_assoc] at hp
  have h1 := List.append_inj_right' hp rfl
  have h2 := List.append_inj_left' hp rfl
  refine ⟨w.dropLast, ?_, ⟨p, h2⟩⟩
  simp only [List.cons.injEq, and_true] at h1
  rw [← h1, hl]
theorem snoc_suf {w t : List UInt8} (c : UInt8) (h : w <:+ t) : w ++ [c] <:+ t ++ [c] := by
  obtain ⟨p, hp⟩ := h
  exact ⟨p, by rw [← hp, List.append_assoc]⟩
theorem snoc_suf_inv {w t : List UInt8} {c d : UInt8} (h : w ++ [c] <:+ t ++ [d]) : c = d ∧ w <:+ t := by
  obtain ⟨p, hp⟩ := h
  rw [← List.append_assoc] at hp
  have h1 := List.append_inj_right' hp rfl
  have h2 := List.append_inj_left' hp rfl
  simp only [List.cons.injEq, and_true] at h1
  exact ⟨h1, ⟨p, h2⟩⟩
theorem Occ.pre {t w : List UInt8} {c : UInt8} (h : Occ t (w ++ [c])) : Occ t w := by
  obtain ⟨e, h1, h2⟩ := h
  have hl := h2.length_le
  rw [List.length_append, List.length_take, List.length_singleton] at hl
  have he : 0 < e := by omega
  have e1 : t.take e = t.take (e - 1) ++ [t[e - 1]'(by omega)] := by
    have := List.take_succ_eq_append_getElem (l := t) (i := e - 1) (by omega)
    rwa [show e - 1 + 1 = e by omega] at this
  rw [e1] at h2
  exact ⟨e - 1, by omega, (snoc_suf_inv h2).2⟩

/-- The automaton: node 0 is the empty word. The words of a node are the ends of its longest one that are longer than those of its link. -/
structure Aut where
  V : Nat → Prop
  len : Nat → Nat
  link : Nat → Option Nat
  fin : Nat → Nat
  go : Nat → UInt8 → Option Nat
def Aut.Cls (A : Aut) (L : Nat → List UInt8) (v : Nat) (w : List UInt8) : Prop := A.V v ∧ w <:+ L v ∧ ∀ u, A.link v = some u → A.len u < w.length
structure Aut.Inv (A : Aut) (L : Nat → List UInt8) (t : List UInt8) (last : Nat) : Prop where
  pos : A.V 0
  len : ∀ v, A.V v → (L v).length = A.len v
  root : L 0 = [] ∧ A.link 0 = none
  link : ∀ v, A.V v → v ≠ 0 → ∃ u, A.link v = some u ∧ A.V u ∧ A.len u < A.len v ∧ L u <:+ L v
  step : ∀ v c u, A.V v → A.go v c = some u → A.V u ∧ u ≠ 0 ∧ ∀ w, A.Cls L v w → A.Cls L u (w ++ [c])
  all : ∀ v c w, A.Cls L v w → Occ t (w ++ [c]) → ∃ u, A.go v c = some u
  fin : ∀ v w, A.Cls L v w → FE t w (A.fin v)
  last : A.V last ∧ L last = t
  one : ∀ v u w, A.Cls L v w → A.Cls L u w → v = u
  mem : ∀ w, Occ t w → ∃ v, A.Cls L v w
  ends : ∀ v w e, A.Cls L v w → e ≤ t.length → w <:+ t.take e → L v <:+ t.take e
section
variable {A : Aut} {L : Nat → List UInt8} {t : List UInt8} {last : Nat}
theorem Aut.Inv.self (h : A.Inv L t last) {v : Nat} (hv : A.V v) : A.Cls L v (L v) := by
  refine ⟨hv, List.suffix_refl _, fun u hu => ?_⟩
  rw [h.len v hv]
  by_cases h0 : v = 0
  · subst h0; rw [h.root.2] at hu; cases hu
  · obtain ⟨u', h1, _, h2, _⟩ := h.link v hv h0
    rw [h1] at hu; cases hu; exact h2
theorem Aut.Inv.empty (h : A.Inv L t last) : A.Cls L 0 [] := by
  have := h.self h.pos
  rwa [h.root.1] at this
theorem Aut.Inv.cls_len (h : A.Inv L t last) {v : Nat} {w : List UInt8} (hw : A.Cls L v w) : w.length ≤ A.len v := by
  have := hw.2.1.length_le
  rwa [h.len v hw.1] at this
theorem Aut.Inv.occ (h : A.Inv L t last) {v : Nat} {w : List UInt8} (hw : A.Cls L v w) : Occ t w := (h.fin v w hw).occ
/-- What lies between two words of a node is one of its words. -/
theorem Aut.Cls.mid {v : Nat} {a b w : List UInt8} (ha : A.Cls L v a) (hb : A.Cls L v b) (h1 : a.length ≤ w.length) (h2 : w <:+ b) : A.Cls L v w :=
  ⟨ha.1, h2.trans hb.2.1, fun u hu => by have := ha.2.2 u hu; omega⟩
/-- Between the words of a node and those of its link there are none. -/
theorem Aut.Inv.gap (h : A.Inv L t last) {v u x : Nat} {T : List UInt8} (hv : A.V v) (hu : A.link v = some u) (hx : A.V x) (hvT : L v <:+ T) (hxT : L x <:+ T) (h1 : A.len x < A.len v) : A.len x ≤ A.len u := by
  rcases Nat.lt_or_ge (A.len u) (A.len x) with h2 | h2
  · exfalso
    have h3 : L x <:+ L v := suf_cmp hxT hvT (by rw [h.len x hx, h.len v hv]; omega)
    have h4 : A.Cls L v (L x) := ⟨hv, h3, fun u' hu' => by rw [hu] at hu'; cases hu'; rw [h.len x hx]; exact h2⟩
    have := h.one v x _ h4 (h.self hx)
    subst this
    omega
  · exact h2

def upd {α : Type} (f : Nat → α) (k : Nat) (a : α) : Nat → α := fun i => if i = k then a else f i
theorem upd_same {α : Type} (f : Nat → α) (k : Nat) (a : α) : upd f k a k = a := if_pos rfl
theorem upd_ne {α : Type} (f : Nat → α) {k i : Nat} (a : α) (h : i ≠ k) : upd f k a i = f i := if_neg h

/-! ### a node is divided -/
def Aut.split (A : Aut) (p q part : Nat) (c : UInt8) : Aut where
  V v := A.V v ∨ v = part
  len := upd A.len part (A.len p + 1)
  link := upd (upd A.link part (A.link q)) q (some part)
  fin := upd A.fin part (A.fin q)
  go v x := if v = part then A.go q x else if x = c ∧ A.go v c = some q ∧ A.len v ≤ A.len p then some part else A.go v x
def splitL (L : Nat → List UInt8) (p part : Nat) (c : UInt8) : Nat → List UInt8 := upd L part (L p ++ [c])
section
variable {p q part : Nat} {c : UInt8}
/-- The words of the divided automaton. -/
theorem Aut.Inv.split_cls (h : A.Inv L t last) (hp : A.V p) (hq : A.go p c = some q) (hl : A.len p + 1 < A.len q) (hf : ¬ A.V part) (v : Nat) (w : List UInt8) :
    (A.split p q part c).Cls (splitL L p part c) v w ↔ (v ≠ part ∧ v ≠ q ∧ A.Cls L v w) ∨ (v = q ∧ A.Cls L q w ∧ A.len p + 1 < w.length) ∨ (v = part ∧ A.Cls L q w ∧ w.length ≤ A.len p + 1) := by
  obtain ⟨vq, q0, hqs⟩ := h.step p c q hp hq
  have hpq := hqs _ (h.self hp)
  have hqp : q ≠ part := fun e => hf (e ▸ vq)
  have hLp : (L p ++ [c]).length = A.len p + 1 := by simp [h.len p hp]
  unfold Aut.Cls
  by_cases e1 : v = part
  · subst e1
    have e2 : v ≠ q := hqp.symm
    have el : splitL L p v c v = L p ++ [c] := upd_same _ _ _
    have ek : (A.split p q v c).link v = A.link q := by
      show upd (upd A.link v (A.link q)) q (some v) v = _
      rw [upd_ne _ _ e2, upd_same]
    rw [el, ek]
    constructor
    · rintro ⟨_, h2, h3⟩
      refine .inr (.inr ⟨rfl, ⟨vq, h2.trans hpq.2.1, fun u hu => ?_⟩, by have := h2.length_le; omega⟩)
      have h4 := h3 u hu
      have hu' : A.V u := by
        obtain ⟨u', h5, h6, _⟩ := h.link q vq q0
        rw [h5] at hu; cases hu; exact h6
      have h7 : u ≠ v := fun e => hf (e ▸ hu')
      rw [show (A.split p q v c).len u = A.len u from upd_ne _ _ h7] at h4
      exact h4
    · rintro (⟨h1, _⟩ | ⟨h1, _⟩ | ⟨_, ⟨_, h2, h3⟩, h4⟩)
      · exact absurd rfl h1
      · exact absurd h1 e2
      · refine ⟨.inr rfl, suf_cmp h2 hpq.2.1 (by omega), fun u hu => ?_⟩
        have hu' : A.V u := by
          obtain ⟨u', h5, h6, _⟩ := h.link q vq q0
          rw [h5] at hu; cases hu; exact h6
        have h7 : u ≠ v := fun e => hf (e ▸ hu')
        rw [show (A.split p q v c).len u = A.len u from upd_ne _ _ h7]
        exact h3 u hu
  · have el : splitL L p part c v = L v := upd_ne _ _ e1
    rw [el]
    by_cases e2 : v = q
    · subst e2
      have ek : (A.split p v part c).link v = some part := upd_same _ _ _
      rw [ek]
      have en : (A.split p v part c).len part = A.len p + 1 := upd_same _ _ _
      constructor
      · rintro ⟨_, h2, h3⟩
        have h4 := h3 part rfl
        rw [en] at h4
        refine .inr (.inl ⟨rfl, ⟨vq, h2, fun u hu => ?_⟩, h4⟩)
        have := hpq.2.2 u hu
        omega
      · rintro (⟨_, h1, _⟩ | ⟨_, ⟨_, h2, h3⟩, h4⟩ | ⟨h1, _⟩)
        · exact absurd rfl h1
        · exact ⟨.inl vq, h2, fun u hu => by cases hu; rw [en]; exact h4⟩
        · exact absurd h1 e1
    · have ek : (A.split p q part c).link v = A.link v := by
        show upd (upd A.link part (A.link q)) q (some part) v = _
        rw [upd_ne _ _ e2, upd_ne _ _ e1]
      rw [ek]
      have key : A.V v → ∀ u, A.link v = some u → (A.split p q part c).len u = A.len u := fun hv u hu => by
        have h7 : u ≠ part := fun e => by
          subst e
          by_cases h0 : v = 0
          · subst h0; rw [h.root.2] at hu; cases hu
          · obtain ⟨u', h5, h6, _⟩ := h.link v hv h0
            rw [h5] at hu; cases hu; exact hf h6
        exact upd_ne _ _ h7
      constructor
      · rintro ⟨h1, h2, h3⟩
        have hv : A.V v := h1.resolve_right e1
        exact .inl ⟨e1, e2, hv, h2, fun u hu => by rw [← key hv u hu]; exact h3 u hu⟩
      · rintro (⟨_, _, hv, h2, h3⟩ | ⟨h1, _⟩ | ⟨h1, _⟩)
        · exact ⟨.inl hv, h2, fun u hu => by rw [key hv u hu]; exact h3 u hu⟩
        · exact absurd h1 e2
        · exact absurd h1 e1
theorem Aut.Inv.split (h : A.Inv L t last) (hp : A.V p) (hq : A.go p c = some q) (hl : A.len p + 1 < A.len q) (hf : ¬ A.V part) : (A.split p q part c).Inv (splitL L p part c) t last := by
  have hc := h.split_cls hp hq hl hf
  obtain ⟨vq, q0, hqs⟩ := h.step p c q hp hq
  have hpq := hqs _ (h.self hp)
  have hqp : q ≠ part := fun e => hf (e ▸ vq)
  have h0p : (0 : Nat) ≠ part := fun e => hf (e ▸ h.pos)
  have hLp : (L p ++ [c]).length = A.len p + 1 := by simp [h.len p hp]
  have hL : ∀ v, A.V v → splitL L p part c v = L v := fun v hv => upd_ne _ _ fun e => hf (e ▸ hv)
  have hlen : ∀ v, A.V v → (A.split p q part c).len v = A.len v := fun v hv => upd_ne _ _ fun e => hf (e ▸ hv)
  have hpart : (A.split p q part c).len part = A.len p + 1 := upd_same _ _ _
  have hLpart : splitL L p part c part = L p ++ [c] := upd_same _ _ _
  -- a word of the old automaton has a node in the new one
  have old : ∀ v w, A.Cls L v w → ∃ u, (A.split p q part c).Cls (splitL L p part c) u w := fun v w hw => by
    by_cases e2 : v = q
    · subst e2
      rcases Nat.lt_or_ge (A.len p + 1) w.length with h1 | h1
      · exact ⟨v, (hc _ _).2 (.inr (.inl ⟨rfl, hw, h1⟩))⟩
      · exact ⟨part, (hc _ _).2 (.inr (.inr ⟨rfl, hw, h1⟩))⟩
    · exact ⟨v, (hc _ _).2 (.inl ⟨fun e => hf (e ▸ hw.1), e2, hw⟩)⟩
  refine ⟨.inl h.pos, fun v hv => ?_, ⟨by rw [hL 0 h.pos]; exact h.root.1, ?_⟩, fun v hv h0 => ?_, fun v x u hv hg => ?_, fun v x w hw ho => ?_, fun v w hw => ?_, ⟨.inl h.last.1, by rw [hL _ h.last.1]; exact h.last.2⟩, fun v u w hv hu => ?_, fun w ho => ?_, fun v w e hw he hs => ?_⟩
  · rcases hv with hv | rfl
    · rw [hL v hv, hlen v hv]; exact h.len v hv
    · rw [hLpart, hpart]; exact hLp
  · show upd (upd A.link part (A.link q)) q (some part) 0 = none
    rw [upd_ne _ _ q0.symm, upd_ne _ _ h0p]
    exact h.root.2
  · by_cases e1 : v = part
    · subst e1
      obtain ⟨u, h1, h2, h3, h4⟩ := h.link q vq q0
      have h5 := hpq.2.2 u h1
      refine ⟨u, ?_, .inl h2, ?_, ?_⟩
      · show upd (upd A.link v (A.link q)) q (some v) v = _
        rw [upd_ne _ _ hqp.symm, upd_same]; exact h1
      · rw [hlen u h2, hpart]; omega
      · rw [hL u h2, hLpart]
        exact suf_cmp h4 hpq.2.1 (by rw [h.len u h2]; omega)
    · have hv' : A.V v := hv.resolve_right e1
      by_cases e2 : v = q
      · subst e2
        exact ⟨part, upd_same _ _ _, .inr rfl, by rw [hpart, hlen v hv']; exact hl, by rw [hLpart, hL v hv']; exact hpq.2.1⟩
      · obtain ⟨u, h1, h2, h3, h4⟩ := h.link v hv' h0
        refine ⟨u, ?_, .inl h2, by rw [hlen u h2, hlen v hv']; exact h3, by rw [hL u h2, hL v hv']; exact h4⟩
        show upd (upd A.link part (A.link q)) q (some part) v = _
        rw [upd_ne _ _ e2, upd_ne _ _ e1]; exact h1
  · -- steps
    by_cases e1 : v = part
    · subst e1
      have hg' : A.go q x = some u := by
        have : (A.split p q v c).go v x = A.go q x := if_pos rfl
        rw [this] at hg; exact hg
      obtain ⟨vu, u0, hs⟩ := h.step q x u vq hg'
      refine ⟨.inl vu, u0, fun w hw => ?_⟩
      rcases (hc _ _).1 hw with ⟨h1, _⟩ | ⟨h1, _⟩ | ⟨_, h1, h2⟩
      · exact absurd rfl h1
      · exact absurd h1 hqp.symm
      · have h3 := hs w h1
        by_cases e2 : u = q
        · subst e2
          -- q leads to itself: all words of q with the letter are words of q; the longest one would be longer
          exfalso
          have h4 := h.cls_len (hs _ (h.self vq))
          rw [List.length_append, h.len u vq, List.length_singleton] at h4
          omega
        · exact (hc _ _).2 (.inl ⟨fun e => hf (e ▸ vu), e2, h3⟩)
    · have hv' : A.V v := hv.resolve_right e1
      have hge : (A.split p q part c).go v x = if x = c ∧ A.go v c = some q ∧ A.len v ≤ A.len p then some part else A.go v x := if_neg e1
      rw [hge] at hg
      by_cases hr : x = c ∧ A.go v c = some q ∧ A.len v ≤ A.len p
      · rw [if_pos hr] at hg
        obtain rfl := Option.some.inj hg
        obtain ⟨rfl, h1, h2⟩ := hr
        obtain ⟨_, _, hs⟩ := h.step v x q hv' h1
        refine ⟨.inr rfl, h0p.symm, fun w hw => ?_⟩
        have hw' : A.Cls L v w := by
          rcases (hc _ _).1 hw with ⟨_, _, h3⟩ | ⟨h3, h4, h5⟩ | ⟨h3, _⟩
          · exact h3
          · rw [h3]; exact h4
          · exact absurd h3 e1
        have h4 := h.cls_len hw'
        exact (hc _ _).2 (.inr (.inr ⟨rfl, hs w hw', by simp; omega⟩))
      · rw [if_neg hr] at hg
        obtain ⟨vu, u0, hs⟩ := h.step v x u hv' hg
        refine ⟨.inl vu, u0, fun w hw => ?_⟩
        have hw' : A.Cls L v w := by
          rcases (hc _ _).1 hw with ⟨_, _, h3⟩ | ⟨h3, h4, h5⟩ | ⟨h3, _⟩
          · exact h3
          · rw [h3]; exact h4
          · exact absurd h3 e1
        have h3 := hs w hw'
        by_cases e2 : u = q
        · subst e2
          -- the letter is c, and the node is longer than p
          have h4 := hs _ (h.self hv')
          have h5 : x = c := by
            rcases Nat.le_total (L v ++ [x]).length (L p ++ [c]).length with hh | hh
            · exact (snoc_suf_inv (suf_cmp h4.2.1 hpq.2.1 hh)).1
            · exact (snoc_suf_inv (suf_cmp hpq.2.1 h4.2.1 hh)).1.symm
          subst h5
          have h6 : A.len p < A.len v := by
            rcases Nat.lt_or_ge (A.len p) (A.len v) with hh | hh
            · exact hh
            · exact absurd ⟨rfl, hg, hh⟩ hr
          -- a word of v no longer than p would be one of p's ancestors' and of v's
          have h7 : A.len p + 1 < (w ++ [x]).length := by
            rcases Nat.lt_or_ge (A.len p) w.length with hh | hh
            · simp; omega
            · exfalso
              have h8 : w <:+ L p := by
                have := suf_cmp h3.2.1 hpq.2.1 (by simp [h.len p hp]; omega)
                exact (snoc_suf_inv this).2
              have h9 : L p <:+ L v := by
                have := suf_cmp hpq.2.1 h4.2.1 (by simp [h.len p hp, h.len v hv']; omega)
                exact (snoc_suf_inv this).2
              have h10 : A.Cls L v (L p) := hw'.mid (h.self hv') (by rw [h.len p hp]; exact hh) h9
              have := h.one v p _ h10 (h.self hp)
              subst this
              omega
          exact (hc _ _).2 (.inr (.inl ⟨rfl, h3, h7⟩))
        · exact (hc _ _).2 (.inl ⟨fun e => hf (e ▸ vu), e2, h3⟩)
  · -- completeness
    rcases (hc _ _).1 hw with ⟨e1, e2, h1⟩ | ⟨rfl, h1, h2⟩ | ⟨rfl, h1, h2⟩
    · obtain ⟨u, hu⟩ := h.all v x w h1 ho
      have hge : (A.split p q part c).go v x = if x = c ∧ A.go v c = some q ∧ A.len v ≤ A.len p then some part else A.go v x := if_neg e1
      rw [hge]
      split
      · exact ⟨_, rfl⟩
      · exact ⟨u, hu⟩
    · obtain ⟨u, hu⟩ := h.all v x w h1 ho
      have hge : (A.split p v part c).go v x = if x = c ∧ A.go v c = some v ∧ A.len v ≤ A.len p then some part else A.go v x := if_neg hqp
      rw [hge]
      split
      · exact ⟨_, rfl⟩
      · exact ⟨u, hu⟩
    · obtain ⟨u, hu⟩ := h.all q x w h1 ho
      exact ⟨u, by have : (A.split p q v c).go v x = A.go q x := if_pos rfl
                   rw [this]; exact hu⟩
  · -- first ends
    rcases (hc _ _).1 hw with ⟨e1, e2, h1⟩ | ⟨rfl, h1, h2⟩ | ⟨rfl, h1, h2⟩
    · rw [show (A.split p q part c).fin v = A.fin v from upd_ne _ _ e1]; exact h.fin v w h1
    · rw [show (A.split p v part c).fin v = A.fin v from upd_ne _ _ hqp]; exact h.fin v w h1
    · rw [show (A.split p q v c).fin v = A.fin q from upd_same _ _ _]; exact h.fin q w h1
  · -- one node
    rcases (hc _ _).1 hv with ⟨e1, e2, h1⟩ | ⟨rfl, h1, h2⟩ | ⟨rfl, h1, h2⟩ <;> rcases (hc _ _).1 hu with ⟨e3, e4, h3⟩ | ⟨rfl, h3, h4⟩ | ⟨rfl, h3, h4⟩
    · exact h.one v u w h1 h3
    · exact absurd (h.one v u w h1 h3) e2
    · exact absurd (h.one v q w h1 h3) e2
    · exact absurd (h.one v u w h1 h3).symm e4
    · rfl
    · omega
    · exact absurd (h.one q u w h1 h3).symm e4
    · omega
    · rfl
  · obtain ⟨v, hv⟩ := h.mem w ho
    exact old v w hv
  · rcases (hc _ _).1 hw with ⟨e1, e2, h1⟩ | ⟨rfl, h1, h2⟩ | ⟨rfl, h1, h2⟩
    · rw [hL v h1.1]; exact h.ends v w e h1 he hs
    · rw [hL v vq]; exact h.ends v w e h1 he hs
    · rw [hLpart]; exact hpq.2.1.trans (h.ends q w e h1 he hs)
end

/-! ### a letter is added -/
def Aut.ext (A : Aut) (t : List UInt8) (whole lk : Nat) (go' : Nat → UInt8 → Option Nat) : Aut where
  V v := A.V v ∨ v = whole
  len := upd A.len whole (t.length + 1)
  link := upd A.link whole (some lk)
  fin := upd A.fin whole (t.length + 1)
  go := go'
section
variable {whole lk : Nat} {c : UInt8} {go' : Nat → UInt8 → Option Nat}
theorem Occ.of_suffix {w : List UInt8} (h : w <:+ t) : Occ t w := ⟨t.length, Nat.le_refl _, by rw [List.take_length]; exact h⟩
theorem Aut.Inv.ends_all (h : A.Inv L t last) {v : Nat} {w : List UInt8} (hw : A.Cls L v w) (hs : w <:+ t) : L v <:+ t := by
  have := h.ends v w t.length hw (Nat.le_refl _) (by rw [List.take_length]; exact hs)
  rwa [List.take_length] at this
theorem Aut.Inv.ext (h : A.Inv L t last) (hf : ¬ A.V whole) (vl : A.V lk) (hlk : L lk <:+ t ++ [c]) (H1 : ∀ w, w <:+ t → (Occ t (w ++ [c]) ↔ w.length + 1 ≤ A.len lk))
    (g1 : ∀ v, A.V v → L v <:+ t → A.len lk ≤ A.len v → go' v c = some whole) (g2 : ∀ v x, A.V v → ¬ (x = c ∧ L v <:+ t ∧ A.len lk ≤ A.len v) → go' v x = A.go v x) (g3 : ∀ x, go' whole x = none) :
    (A.ext t whole lk go').Inv (upd L whole (t ++ [c])) (t ++ [c]) whole := by
  have h0w : (0 : Nat) ≠ whole := fun e => hf (e ▸ h.pos)
  have hL : ∀ v, A.V v → upd L whole (t ++ [c]) v = L v := fun v hv => upd_ne _ _ fun e => hf (e ▸ hv)
  have hLw : upd L whole (t ++ [c]) whole = t ++ [c] := upd_same _ _ _
  have hlen : ∀ v, A.V v → (A.ext t whole lk go').len v = A.len v := fun v hv => upd_ne _ _ fun e => hf (e ▸ hv)
  have hlw : (A.ext t whole lk go').len whole = t.length + 1 := upd_same _ _ _
  have hkw : (A.ext t whole lk go').link whole = some lk := upd_same _ _ _
  have hk : ∀ v, A.V v → (A.ext t whole lk go').link v = A.link v := fun v hv => upd_ne _ _ fun e => hf (e ▸ hv)
  have hlinkV : ∀ v u, A.V v → A.link v = some u → A.V u := fun v u hv hu => by
    by_cases h0 : v = 0
    · subst h0; rw [h.root.2] at hu; cases hu
    · obtain ⟨u', h5, h6, _⟩ := h.link v hv h0
      rw [h5] at hu; cases hu; exact h6
  have hc : ∀ v w, (A.ext t whole lk go').Cls (upd L whole (t ++ [c])) v w ↔ (v ≠ whole ∧ A.Cls L v w) ∨ (v = whole ∧ w <:+ t ++ [c] ∧ A.len lk < w.length) := fun v w => by
    unfold Aut.Cls
    by_cases e1 : v = whole
    · subst e1
      rw [hLw, hkw]
      constructor
      · rintro ⟨_, h2, h3⟩
        have h4 := h3 lk rfl
        rw [hlen lk vl] at h4
        exact .inr ⟨rfl, h2, h4⟩
      · rintro (⟨h1, _⟩ | ⟨_, h2, h3⟩)
        · exact absurd rfl h1
        · exact ⟨.inr rfl, h2, fun u hu => by cases hu; rw [hlen lk vl]; exact h3⟩
    · constructor
      · rintro ⟨h1, h2, h3⟩
        have hv : A.V v := h1.resolve_right e1
        rw [hL v hv] at h2
        rw [hk v hv] at h3
        exact .inl ⟨e1, hv, h2, fun u hu => by have := h3 u hu; rwa [hlen u (hlinkV v u hv hu)] at this⟩
      · rintro (⟨_, hv, h2, h3⟩ | ⟨h1, _⟩)
        · rw [hL v hv, hk v hv]
          exact ⟨.inl hv, h2, fun u hu => by rw [hlen u (hlinkV v u hv hu)]; exact h3 u hu⟩
        · exact absurd h1 e1
  -- the words of the new node do not occur in the old text
  have hnew : ∀ w, w <:+ t ++ [c] → A.len lk < w.length → ¬ Occ t w := fun w hw hl ho => by
    have hne : w ≠ [] := by rintro rfl; simp at hl
    obtain ⟨w', rfl, hw'⟩ := suf_snoc hw hne
    have := (H1 w' hw').1 ho
    simp at hl
    omega
  have hll : A.len lk ≤ t.length := by
    obtain ⟨e, he, hs⟩ := h.occ (h.self vl)
    have := hs.length_le
    rw [h.len lk vl, List.length_take] at this
    omega
  refine ⟨.inl h.pos, fun v hv => ?_, ⟨by rw [hL 0 h.pos]; exact h.root.1, by rw [hk 0 h.pos]; exact h.root.2⟩, fun v hv h0 => ?_, fun v x u hv hg => ?_, fun v x w hw ho => ?_, fun v w hw => ?_, ⟨.inr rfl, hLw⟩, fun v u w hv hu => ?_, fun w ho => ?_, fun v w e hw he hs => ?_⟩
  · rcases hv with hv | rfl
    · rw [hL v hv, hlen v hv]; exact h.len v hv
    · rw [hLw, hlw]; simp
  · rcases hv with hv | rfl
    · obtain ⟨u, h1, h2, h3, h4⟩ := h.link v hv h0
      exact ⟨u, by rw [hk v hv]; exact h1, .inl h2, by rw [hlen u h2, hlen v hv]; exact h3, by rw [hL u h2, hL v hv]; exact h4⟩
    · exact ⟨lk, hkw, .inl vl, by rw [hlen lk vl, hlw]; omega, by rw [hL lk vl, hLw]; exact hlk⟩
  · by_cases e1 : v = whole
    · subst e1
      rw [show (A.ext t v lk go').go v x = none from g3 x] at hg
      cases hg
    · have hv' : A.V v := hv.resolve_right e1
      have hg' : go' v x = some u := hg
      by_cases hr : x = c ∧ L v <:+ t ∧ A.len lk ≤ A.len v
      · obtain ⟨rfl, h1, h2⟩ := hr
        rw [g1 v hv' h1 h2] at hg'
        obtain rfl := Option.some.inj hg'
        refine ⟨.inr rfl, h0w.symm, fun w hw => ?_⟩
        rcases (hc _ _).1 hw with ⟨_, h3⟩ | ⟨h3, _⟩
        · have hwt : w <:+ t := h3.2.1.trans h1
          refine (hc _ _).2 (.inr ⟨rfl, snoc_suf _ hwt, ?_⟩)
          rcases Nat.lt_or_ge (A.len lk) (w ++ [x]).length with hh | hh
          · exact hh
          · exfalso
            have h4 := (H1 w hwt).2 (by simpa using hh)
            obtain ⟨u', hu'⟩ := h.all v x w h3 h4
            have h5 := h.occ ((h.step v x u' hv' hu').2.2 _ (h.self hv'))
            have h6 := (H1 (L v) h1).1 h5
            rw [h.len v hv'] at h6
            omega
        · exact absurd h3 e1
      · rw [g2 v x hv' hr] at hg'
        obtain ⟨vu, u0, hs⟩ := h.step v x u hv' hg'
        refine ⟨.inl vu, u0, fun w hw => ?_⟩
        rcases (hc _ _).1 hw with ⟨_, h3⟩ | ⟨h3, _⟩
        · exact (hc _ _).2 (.inl ⟨fun e => hf (e ▸ vu), hs w h3⟩)
        · exact absurd h3 e1
  · rcases (hc _ _).1 hw with ⟨e1, h1⟩ | ⟨rfl, h1, h2⟩
    · show ∃ u, go' v x = some u
      by_cases hr : x = c ∧ L v <:+ t ∧ A.len lk ≤ A.len v
      · obtain ⟨rfl, h3, h4⟩ := hr
        exact ⟨_, g1 v h1.1 h3 h4⟩
      · rw [g2 v x h1.1 hr]
        by_cases hot : Occ t (w ++ [x])
        · exact h.all v x w h1 hot
        · exfalso
          rcases ho.snoc with h3 | h3
          · exact hot h3
          · obtain ⟨rfl, h4⟩ := snoc_suf_inv h3
            have h5 := h.ends_all h1 h4
            have h6 : ¬ w.length + 1 ≤ A.len lk := fun hh => hot ((H1 w h4).2 hh)
            have h7 := h.cls_len h1
            exact hr ⟨rfl, h5, by omega⟩
    · exfalso
      have h3 := hnew w h1 h2
      rcases ho.snoc with h4 | h4
      · exact h3 h4.pre
      · exact h3 (Occ.of_suffix (snoc_suf_inv h4).2)
  · rcases (hc _ _).1 hw with ⟨e1, h1⟩ | ⟨rfl, h1, h2⟩
    · rw [show (A.ext t whole lk go').fin v = A.fin v from upd_ne _ _ e1]
      exact (h.fin v w h1).app c
    · rw [show (A.ext t v lk go').fin v = t.length + 1 from upd_same _ _ _]
      exact FE.new h1 (hnew w h1 h2)
  · rcases (hc _ _).1 hv with ⟨e1, h1⟩ | ⟨rfl, h1, h2⟩ <;> rcases (hc _ _).1 hu with ⟨e3, h3⟩ | ⟨rfl, h3, h4⟩
    · exact h.one v u w h1 h3
    · exact absurd (h.occ h1) (hnew w h3 h4)
    · exact absurd (h.occ h3) (hnew w h1 h2)
    · rfl
  · have key : Occ t w → ∃ v, (A.ext t whole lk go').Cls (upd L whole (t ++ [c])) v w := fun hot => by
      obtain ⟨v, hv⟩ := h.mem w hot
      exact ⟨v, (hc _ _).2 (.inl ⟨fun e => hf (e ▸ hv.1), hv⟩)⟩
    rcases ho.snoc with h1 | h1
    · exact key h1
    · rcases Nat.lt_or_ge (A.len lk) w.length with h2 | h2
      · exact ⟨whole, (hc _ _).2 (.inr ⟨rfl, h1, h2⟩)⟩
      · exact key ((h.occ (h.self vl)).suffix (suf_cmp h1 hlk (by rw [h.len lk vl]; exact h2)))
  · rcases (hc _ _).1 hw with ⟨e1, h1⟩ | ⟨rfl, h1, h2⟩
    · rw [hL v h1.1]
      rcases Nat.lt_or_ge t.length e with h2 | h2
      · have ee : (t ++ [c]).take e = t ++ [c] := List.take_of_length_le (by simp; omega)
        rw [ee] at hs ⊢
        by_cases hw0 : w = []
        · subst hw0
          have := h.one v 0 [] h1 h.empty
          subst this
          rw [h.root.1]; exact List.nil_suffix
        · obtain ⟨w', rfl, hw'⟩ := suf_snoc hs hw0
          have h3 := (H1 w' hw').1 (h.occ h1)
          have h4 : w' ++ [c] <:+ L lk := suf_cmp hs hlk (by rw [h.len lk vl]; simpa using h3)
          obtain ⟨e', h5, h6⟩ := h.occ (h.self vl)
          have h7 := h.ends v _ e' h1 h5 (h4.trans h6)
          rcases Nat.le_total (L v).length (L lk).length with h8 | h8
          · exact (suf_cmp h7 h6 h8).trans hlk
          · have h9 : L lk <:+ L v := suf_cmp h6 h7 h8
            have h10 : A.Cls L v (L lk) := h1.mid (h.self h1.1) h4.length_le h9
            have := h.one v lk _ h10 (h.self vl)
            rw [this]; exact hlk
      · rw [List.take_append_of_le_length h2] at hs ⊢
        exact h.ends v w e h1 h2 hs
    · rw [hLw]
      rcases Nat.lt_or_ge t.length e with h3 | h3
      · rw [List.take_of_length_le (by simp; omega)]; exact List.suffix_refl _
      · rw [List.take_append_of_le_length h3] at hs
        exact absurd ⟨e, h3, hs⟩ (hnew w h1 h2)
/-- No suffix of the text goes on with the letter. -/
theorem Aut.Inv.h1_none (h : A.Inv L t last) (hn : ∀ v, A.V v → L v <:+ t → A.go v c = none) : ∀ w, w <:+ t → (Occ t (w ++ [c]) ↔ w.length + 1 ≤ A.len 0) := fun w hw => by
  have h0 : A.len 0 = 0 := by rw [← h.len 0 h.pos, h.root.1]; rfl
  rw [h0]
  constructor
  · intro ho
    obtain ⟨v, hv⟩ := h.mem w (Occ.of_suffix hw)
    obtain ⟨u, hu⟩ := h.all v c w hv ho
    rw [hn v hv.1 (h.ends_all hv hw)] at hu
    cases hu
  · intro hh; omega
/-- The node p is the first one whose words go on with the letter. -/
theorem Aut.Inv.h1_some (h : A.Inv L t last) {p q : Nat} (hp : A.V p) (hpt : L p <:+ t) (hq : A.go p c = some q) (hlq : A.len q = A.len p + 1) (hn : ∀ v, A.V v → L v <:+ t → A.len p < A.len v → A.go v c = none) :
    A.V q ∧ L q = L p ++ [c] ∧ L q <:+ t ++ [c] ∧ ∀ w, w <:+ t → (Occ t (w ++ [c]) ↔ w.length + 1 ≤ A.len q) := by
  obtain ⟨vq, q0, hs⟩ := h.step p c q hp hq
  have h1 := hs _ (h.self hp)
  have h2 : L p ++ [c] = L q := suf_eq h1.2.1 (by rw [h.len q vq, hlq]; simp [h.len p hp])
  refine ⟨vq, h2.symm, by rw [← h2]; exact snoc_suf c hpt, fun w hw => ?_⟩
  rw [hlq]
  constructor
  · intro ho
    obtain ⟨v, hv⟩ := h.mem w (Occ.of_suffix hw)
    obtain ⟨u, hu⟩ := h.all v c w hv ho
    have h3 := h.cls_len hv
    rcases Nat.lt_or_ge (A.len p) (A.len v) with h4 | h4
    · rw [hn v hv.1 (h.ends_all hv hw) h4] at hu
      cases hu
    · omega
  · intro hh
    have h3 : w <:+ L p := suf_cmp hw hpt (by rw [h.len p hp]; omega)
    exact (h.occ h1).suffix (snoc_suf c h3)
end
end
/-- The automaton of the empty text. -/
def Aut.start : Aut where
  V v := v = 0
  len _ := 0
  link _ := none
  fin _ := 0
  go _ _ := none
theorem Aut.start_inv : Aut.start.Inv (fun _ => []) [] 0 := by
  have hc : ∀ v w, Aut.start.Cls (fun _ => []) v w → v = 0 ∧ w = [] := fun v w ⟨h1, h2, _⟩ => ⟨h1, List.suffix_nil.1 h2⟩
  refine ⟨rfl, fun _ _ => rfl, ⟨rfl, rfl⟩, fun v hv h0 => absurd hv h0, fun v c u _ h => (by cases h), fun v c w _ ho => ?_, fun v w hw => ?_, ⟨rfl, rfl⟩, fun v u w h1 h2 => (hc v w h1).1.trans (hc u w h2).1.symm, fun w ho => ?_, fun v w e _ _ _ => List.nil_suffix⟩
  · obtain ⟨e, _, h⟩ := ho
    simp at h
  · obtain ⟨_, rfl⟩ := hc v w hw
    exact ⟨Nat.zero_le _, List.nil_suffix, fun e' h => by have : Aut.start.fin v = 0 := rfl; omega⟩
  · obtain ⟨e, _, h⟩ := ho
    simp at h
    exact ⟨0, rfl, by rw [h]; exact List.suffix_refl _, fun u hu => by cases hu⟩
end Go.Proofs.Ytiioebpmfjipeaa
