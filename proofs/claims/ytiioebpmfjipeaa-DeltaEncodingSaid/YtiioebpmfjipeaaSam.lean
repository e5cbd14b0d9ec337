/- Plain: nodes and edges as lists, and the automaton that they stand for. -/
import Derived.Test.YtiioebpmfjipeaaAut
namespace Go.Proofs.Ytiioebpmfjipeaa

structure Nd where
  len : Nat
  link : Option Nat
  fin : Nat
  edge : Option Nat
structure Ed where
  letter : UInt8
  to : Nat
  next : Option Nat

/-- The last edge of a node ahead of an index. -/
def headOf (own : Nat → Nat) (v : Nat) : Nat → Option Nat
  | 0 => none
  | k + 1 => if own k = v then some k else headOf own v k
theorem headOf_some {own : Nat → Nat} {v : Nat} : ∀ {k j : Nat}, headOf own v k = some j → j < k ∧ own j = v ∧ ∀ i, j < i → i < k → own i ≠ v
  | 0, j, h => (by cases h)
  | k + 1, j, h => by
    unfold headOf at h
    split at h
    · rename_i e
      cases h
      exact ⟨by omega, e, fun i h1 h2 => by omega⟩
    · rename_i e
      obtain ⟨h1, h2, h3⟩ := headOf_some h
      refine ⟨by omega, h2, fun i h4 h5 => ?_⟩
      rcases Nat.lt_or_ge i k with h6 | h6
      · exact h3 i h4 h6
      · have : i = k := by omega
        rw [this]; exact e
theorem headOf_none {own : Nat → Nat} {v : Nat} : ∀ {k : Nat}, headOf own v k = none → ∀ i, i < k → own i ≠ v
  | 0, h, i, hi => by omega
  | k + 1, h, i, hi => by
    unfold headOf at h
    split at h
    · cases h
    · rename_i e
      rcases Nat.lt_or_ge i k with h6 | h6
      · exact headOf_none h i h6
      · have : i = k := by omega
        rw [this]; exact e
theorem headOf_congr {own own' : Nat → Nat} {v : Nat} : ∀ {k : Nat}, (∀ i, i < k → own i = own' i) → headOf own v k = headOf own' v k
  | 0, _ => rfl
  | k + 1, h => by
    unfold headOf
    rw [h k (by omega), headOf_congr fun i hi => h i (by omega)]
theorem headOf_skip {own : Nat → Nat} {v k : Nat} (h : own k ≠ v) : headOf own v (k + 1) = headOf own v k := if_neg h
theorem headOf_here {own : Nat → Nat} {v k : Nat} (h : own k = v) : headOf own v (k + 1) = some k := if_pos h
theorem headOf_far {own : Nat → Nat} {v : Nat} : ∀ {k : Nat}, (∀ i, i < k → own i ≠ v) → headOf own v k = none
  | 0, _ => rfl
  | k + 1, h => by rw [headOf_skip (h k (by omega)), headOf_far fun i hi => h i (by omega)]

structure Rep (ns : List Nd) (es : List Ed) (own : Nat → Nat) (A : Aut) : Prop where
  V : ∀ v, A.V v ↔ v < ns.length
  node : ∀ v x, ns[v]? = some x → x.len = A.len v ∧ x.link = A.link v ∧ x.fin = A.fin v ∧ x.edge = headOf own v es.length
  next : ∀ e x, es[e]? = some x → own e < ns.length ∧ x.to < ns.length ∧ x.next = headOf own (own e) e
  go1 : ∀ e x, es[e]? = some x → A.go (own e) x.letter = some x.to
  go2 : ∀ v c u, v < ns.length → A.go v c = some u → ∃ e x, es[e]? = some x ∧ own e = v ∧ x.letter = c ∧ x.to = u
  one : ∀ e e' x x', es[e]? = some x → es[e']? = some x' → own e = own e' → x.letter = x'.letter → e = e'

/-- Two automata agree at their nodes. -/
structure Aut.Eqv (A B : Aut) : Prop where
  V : ∀ v, A.V v ↔ B.V v
  len : ∀ v, A.V v → A.len v = B.len v
  link : ∀ v, A.V v → A.link v = B.link v
  fin : ∀ v, A.V v → A.fin v = B.fin v
  go : ∀ v x, A.V v → A.go v x = B.go v x
section
variable {ns : List Nd} {es : List Ed} {own : Nat → Nat} {A B : Aut}
theorem Rep.congr (h : Rep ns es own A) (k : A.Eqv B) : Rep ns es own B := by
  have hV : ∀ v, v < ns.length → A.V v := fun v hv => (h.V v).2 hv
  refine ⟨fun v => (k.V v).symm.trans (h.V v), fun v x hx => ?_, h.next, fun e x hx => ?_, fun v c u hv hg => ?_, h.one⟩
  · have hv := hV v (List.getElem?_eq_some_iff.1 hx).1
    obtain ⟨h1, h2, h3, h4⟩ := h.node v x hx
    exact ⟨h1.trans (k.len v hv), h2.trans (k.link v hv), h3.trans (k.fin v hv), h4⟩
  · rw [← k.go _ _ (hV _ (h.next e x hx).1)]; exact h.go1 e x hx
  · rw [← k.go _ _ (hV v hv)] at hg; exact h.go2 v c u hv hg

/-! ### find -/
def Seek (es : List Ed) (own : Nat → Nat) (v : Nat) (c : UInt8) (e : Option Nat) : Prop :=
  ∃ k, k ≤ es.length ∧ e = headOf own v k ∧ ∀ e' x, k ≤ e' → es[e']? = some x → own e' = v → x.letter ≠ c
theorem Rep.seek_start (h : Rep ns es own A) {v : Nat} {x : Nd} (hx : ns[v]? = some x) (c : UInt8) : Seek es own v c x.edge :=
  ⟨es.length, Nat.le_refl _, (h.node v x hx).2.2.2, fun e' y h1 h2 _ => by
    have := (List.getElem?_eq_some_iff.1 h2).1
    omega⟩
theorem Seek.at {v : Nat} {c : UInt8} {j : Nat} (s : Seek es own v c (some j)) : ∃ y, es[j]? = some y ∧ own j = v := by
  obtain ⟨k, h1, h2, _⟩ := s
  obtain ⟨h3, h4, _⟩ := headOf_some h2.symm
  exact ⟨_, List.getElem?_eq_getElem (by omega), h4⟩
theorem Rep.seek_next (h : Rep ns es own A) {v : Nat} {c : UInt8} {j : Nat} {y : Ed} (s : Seek es own v c (some j)) (hy : es[j]? = some y) (hc : y.letter ≠ c) : Seek es own v c y.next := by
  obtain ⟨k, h1, h2, h3⟩ := s
  obtain ⟨h4, h5, h6⟩ := headOf_some h2.symm
  refine ⟨j, by omega, by rw [(h.next j y hy).2.2, h5], fun e' x h7 h8 h9 => ?_⟩
  rcases Nat.lt_or_ge e' k with h10 | h10
  · rcases Nat.lt_or_ge j e' with h11 | h11
    · exact absurd h9 (h6 e' h11 h10)
    · have : e' = j := by omega
      subst this
      rw [hy] at h8; cases h8; exact hc
  · exact h3 e' x h10 h8 h9
theorem Rep.seek_none (h : Rep ns es own A) {v : Nat} {c : UInt8} (hv : v < ns.length) (s : Seek es own v c none) : A.go v c = none := by
  obtain ⟨k, h1, h2, h3⟩ := s
  cases hg : A.go v c with
  | none => rfl
  | some u =>
    obtain ⟨e, x, h4, h5, h6, h7⟩ := h.go2 v c u hv hg
    rcases Nat.lt_or_ge e k with h8 | h8
    · exact absurd h5 (headOf_none h2.symm e h8)
    · exact absurd h6 (h3 e x h8 h4 h5)
theorem Rep.seek_some (h : Rep ns es own A) {v : Nat} {c : UInt8} {j : Nat} {y : Ed} (s : Seek es own v c (some j)) (hy : es[j]? = some y) (hc : y.letter = c) : A.go v c = some y.to ∧ own j = v := by
  obtain ⟨_, _, h5⟩ := s.at
  have := h.go1 j y hy
  rw [h5, hc] at this
  exact ⟨this, h5⟩

/-! ### what is written -/
def Aut.addE (A : Aut) (v : Nat) (c : UInt8) (u : Nat) : Aut := { A with go := fun v' x => if v' = v ∧ x = c then some u else A.go v' x }
def Aut.node (A : Aut) (n l : Nat) (lk : Option Nat) (f : Nat) : Aut where
  V v := A.V v ∨ v = n
  len := upd A.len n l
  link := upd A.link n lk
  fin := upd A.fin n f
  go v x := if v = n then none else A.go v x
def Aut.setLink (A : Aut) (v : Nat) (lk : Option Nat) : Aut := { A with link := upd A.link v lk }
theorem Rep.add (h : Rep ns es own A) {v : Nat} {x : Nd} {c : UInt8} {u : Nat} (hx : ns[v]? = some x) (hu : u < ns.length) (hg : A.go v c = none) :
    Rep (ns.set v { x with edge := some es.length }) (es ++ [⟨c, u, x.edge⟩]) (upd own es.length v) (A.addE v c u) := by
  have hv := (List.getElem?_eq_some_iff.1 hx).1
  have low : ∀ e y, (es ++ [(⟨c, u, x.edge⟩ : Ed)])[e]? = some y → (e < es.length ∧ es[e]? = some y) ∨ (e = es.length ∧ y = ⟨c, u, x.edge⟩) := fun e y hy => by
    rcases Nat.lt_trichotomy e es.length with h1 | h1 | h1
    · rw [List.getElem?_append_left h1] at hy; exact .inl ⟨h1, hy⟩
    · subst h1
      rw [List.getElem?_append_right (Nat.le_refl _)] at hy
      simp at hy
      exact .inr ⟨rfl, hy.symm⟩
    · rw [List.getElem?_eq_none (by simp; omega)] at hy; cases hy
  have ow : ∀ e, e < es.length → upd own es.length v e = own e := fun e he => upd_ne _ _ (by omega)
  have on : upd own es.length v es.length = v := upd_same _ _ _
  have hh : ∀ w k, k ≤ es.length → headOf (upd own es.length v) w k = headOf own w k := fun w k hk => headOf_congr fun i hi => ow i (by omega)
  have fresh : ∀ e y, es[e]? = some y → own e = v → y.letter ≠ c := fun e y hy ho hl => by
    have := h.go1 e y hy
    rw [ho, hl, hg] at this
    cases this
  refine ⟨fun w => by rw [List.length_set]; exact h.V w, fun w y hy => ?_, fun e y hy => ?_, fun e y hy => ?_, fun w d q hw hq => ?_, fun e e' y y' hy hy' ho hl => ?_⟩
  · have hlen : (es ++ [(⟨c, u, x.edge⟩ : Ed)]).length = es.length + 1 := by simp
    rw [hlen]
    by_cases e1 : w = v
    · subst e1
      rw [List.getElem?_set_self hv] at hy
      cases hy
      obtain ⟨h1, h2, h3, h4⟩ := h.node w x hx
      exact ⟨h1, h2, h3, (headOf_here on).symm⟩
    · rw [List.getElem?_set_ne (fun e => e1 e.symm)] at hy
      obtain ⟨h1, h2, h3, h4⟩ := h.node w y hy
      refine ⟨h1, h2, h3, ?_⟩
      rw [headOf_skip (by rw [on]; exact fun e => e1 e.symm), hh w _ (Nat.le_refl _)]
      exact h4
  · rw [List.length_set]
    rcases low e y hy with ⟨h1, h2⟩ | ⟨rfl, rfl⟩
    · obtain ⟨h3, h4, h5⟩ := h.next e y h2
      rw [ow e h1]
      exact ⟨h3, h4, by rw [hh _ _ (by omega)]; exact h5⟩
    · rw [on]
      exact ⟨hv, hu, by rw [hh _ _ (Nat.le_refl _)]; exact (h.node v x hx).2.2.2⟩
  · rcases low e y hy with ⟨h1, h2⟩ | ⟨rfl, rfl⟩
    · rw [ow e h1]
      show (if own e = v ∧ y.letter = c then some u else A.go (own e) y.letter) = _
      rw [if_neg fun hc => fresh e y h2 hc.1 hc.2]
      exact h.go1 e y h2
    · rw [on]; exact if_pos ⟨rfl, rfl⟩
  · rw [List.length_set] at hw
    have hq' : (if w = v ∧ d = c then some u else A.go w d) = some q := hq
    by_cases hc : w = v ∧ d = c
    · rw [if_pos hc] at hq'
      cases hq'
      refine ⟨es.length, ⟨c, u, x.edge⟩, by simp, by rw [on]; exact hc.1.symm, hc.2.symm, rfl⟩
    · rw [if_neg hc] at hq'
      obtain ⟨e, y, h1, h2, h3⟩ := h.go2 w d q hw hq'
      have he := (List.getElem?_eq_some_iff.1 h1).1
      exact ⟨e, y, by rw [List.getElem?_append_left he]; exact h1, by rw [ow e he]; exact h2, h3⟩
  · rcases low e y hy with ⟨h1, h2⟩ | ⟨rfl, rfl⟩ <;> rcases low e' y' hy' with ⟨h3, h4⟩ | ⟨rfl, rfl⟩
    · rw [ow e h1, ow e' h3] at ho; exact h.one e e' y y' h2 h4 ho hl
    · rw [ow e h1, on] at ho; exact absurd hl (fresh e y h2 ho)
    · rw [ow e' h3, on] at ho; exact absurd hl.symm (fresh e' y' h4 ho.symm)
    · rfl
theorem Rep.node' (h : Rep ns es own A) (l : Nat) (lk : Option Nat) (f : Nat) : Rep (ns ++ [⟨l, lk, f, none⟩]) es own (A.node ns.length l lk f) := by
  have low : ∀ w y, (ns ++ [(⟨l, lk, f, none⟩ : Nd)])[w]? = some y → (w < ns.length ∧ ns[w]? = some y) ∨ (w = ns.length ∧ y = ⟨l, lk, f, none⟩) := fun e y hy => by
    rcases Nat.lt_trichotomy e ns.length with h1 | h1 | h1
    · rw [List.getElem?_append_left h1] at hy; exact .inl ⟨h1, hy⟩
    · subst h1
      rw [List.getElem?_append_right (Nat.le_refl _)] at hy
      simp at hy
      exact .inr ⟨rfl, hy.symm⟩
    · rw [List.getElem?_eq_none (by simp; omega)] at hy; cases hy
  have far : ∀ e, e < es.length → own e ≠ ns.length := fun e he hc => by
    have := (h.next e _ (List.getElem?_eq_getElem he)).1
    omega
  have hlen : (ns ++ [(⟨l, lk, f, none⟩ : Nd)]).length = ns.length + 1 := by simp
  refine ⟨fun w => ?_, fun w y hy => ?_, fun e y hy => ?_, fun e y hy => ?_, fun w d q hw hq => ?_, h.one⟩
  · rw [hlen]
    show A.V w ∨ w = ns.length ↔ _
    rw [h.V w]; omega
  · rcases low w y hy with ⟨h1, h2⟩ | ⟨rfl, rfl⟩
    · have hne : w ≠ ns.length := by omega
      obtain ⟨h3, h4, h5, h6⟩ := h.node w y h2
      exact ⟨h3.trans (upd_ne _ _ hne).symm, h4.trans (upd_ne _ _ hne).symm, h5.trans (upd_ne _ _ hne).symm, h6⟩
    · exact ⟨(upd_same _ _ _).symm, (upd_same _ _ _).symm, (upd_same _ _ _).symm, (headOf_far far).symm⟩
  · rw [hlen]
    obtain ⟨h3, h4, h5⟩ := h.next e y hy
    exact ⟨by omega, by omega, h5⟩
  · have := (h.next e y hy).1
    show (if own e = ns.length then none else A.go (own e) y.letter) = _
    rw [if_neg (by omega)]
    exact h.go1 e y hy
  · have hq' : (if w = ns.length then none else A.go w d) = some q := hq
    by_cases e1 : w = ns.length
    · rw [if_pos e1] at hq'; cases hq'
    · rw [if_neg e1] at hq'
      exact h.go2 w d q (by omega) hq'
theorem Rep.setLink (h : Rep ns es own A) {v : Nat} {x : Nd} (hx : ns[v]? = some x) (lk : Option Nat) : Rep (ns.set v { x with link := lk }) es own (A.setLink v lk) := by
  have hv := (List.getElem?_eq_some_iff.1 hx).1
  refine ⟨fun w => by rw [List.length_set]; exact h.V w, fun w y hy => ?_, fun e y hy => by rw [List.length_set]; exact h.next e y hy, h.go1, fun w d q hw hq => h.go2 w d q (by rw [List.length_set] at hw; exact hw) hq, h.one⟩
  by_cases e1 : w = v
  · subst e1
    rw [List.getElem?_set_self hv] at hy
    cases hy
    obtain ⟨h1, h2, h3, h4⟩ := h.node w x hx
    exact ⟨h1, (upd_same _ _ _).symm, h3, h4⟩
  · rw [List.getElem?_set_ne (fun e => e1 e.symm)] at hy
    obtain ⟨h1, h2, h3, h4⟩ := h.node w y hy
    exact ⟨h1, h2.trans (upd_ne _ _ e1).symm, h3, h4⟩
theorem Rep.setTo (h : Rep ns es own A) {e : Nat} {y : Ed} {u : Nat} (hy : es[e]? = some y) (hu : u < ns.length) : Rep ns (es.set e { y with to := u }) own (A.addE (own e) y.letter u) := by
  have he := (List.getElem?_eq_some_iff.1 hy).1
  have low : ∀ e' z, (es.set e { y with to := u })[e']? = some z → (e' = e ∧ z = { y with to := u }) ∨ (e' ≠ e ∧ es[e']? = some z) := fun e' z hz => by
    by_cases e1 : e' = e
    · subst e1
      rw [List.getElem?_set_self he] at hz
      cases hz
      exact .inl ⟨rfl, rfl⟩
    · rw [List.getElem?_set_ne (fun e => e1 e.symm)] at hz
      exact .inr ⟨e1, hz⟩
  refine ⟨h.V, fun w z hz => by rw [List.length_set]; exact h.node w z hz, fun e' z hz => ?_, fun e' z hz => ?_, fun w d q hw hq => ?_, fun e1 e2 z1 z2 h1 h2 ho hl => ?_⟩
  · rcases low e' z hz with ⟨rfl, rfl⟩ | ⟨_, h2⟩
    · obtain ⟨h3, _, h5⟩ := h.next e' y hy
      exact ⟨h3, hu, h5⟩
    · exact h.next e' z h2
  · rcases low e' z hz with ⟨rfl, rfl⟩ | ⟨h1, h2⟩
    · exact if_pos ⟨rfl, rfl⟩
    · show (if own e' = own e ∧ z.letter = y.letter then some u else A.go (own e') z.letter) = _
      rw [if_neg fun hc => h1 (h.one e' e z y h2 hy hc.1 hc.2)]
      exact h.go1 e' z h2
  · have hq' : (if w = own e ∧ d = y.letter then some u else A.go w d) = some q := hq
    by_cases hc : w = own e ∧ d = y.letter
    · rw [if_pos hc] at hq'
      cases hq'
      exact ⟨e, { y with to := u }, List.getElem?_set_self he, hc.1.symm, hc.2.symm, rfl⟩
    · rw [if_neg hc] at hq'
      obtain ⟨e', z, h1, h2, h3, h4⟩ := h.go2 w d q hw hq'
      refine ⟨e', z, ?_, h2, h3, h4⟩
      rw [List.getElem?_set_ne ?_]
      · exact h1
      · rintro rfl
        rw [hy] at h1; cases h1
        exact hc ⟨h2.symm, h3.symm⟩
  · rcases low e1 z1 h1 with ⟨rfl, rfl⟩ | ⟨h3, h4⟩ <;> rcases low e2 z2 h2 with ⟨rfl, rfl⟩ | ⟨h5, h6⟩
    · rfl
    · exact h.one _ _ y z2 hy h6 ho hl
    · exact h.one _ _ z1 y h4 hy ho hl
    · exact h.one _ _ z1 z2 h4 h6 ho hl
end
end Go.Proofs.Ytiioebpmfjipeaa
