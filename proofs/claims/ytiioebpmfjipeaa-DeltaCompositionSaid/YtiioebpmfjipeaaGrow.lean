/- Plain: what extend and split make of the automaton, loop by loop. -/
import Derived.Test.YtiioebpmfjipeaaSam
namespace Go.Proofs.Ytiioebpmfjipeaa

section
variable {A : Aut} {L : Nat → List UInt8} {t : List UInt8} {last whole : Nat} {c : UInt8}
theorem Aut.Inv.same (h : A.Inv L t last) {v u : Nat} {T : List UInt8} (hv : A.V v) (hu : A.V u) (h1 : L v <:+ T) (h2 : L u <:+ T) (hl : A.len v = A.len u) : v = u := by
  have e : L v = L u := suf_eq (suf_cmp h1 h2 (by rw [h.len v hv, h.len u hu]; omega)) (by rw [h.len v hv, h.len u hu]; omega)
  have := h.self hv
  rw [e] at this
  exact h.one v u _ this (h.self hu)
theorem Aut.Inv.len0 (h : A.Inv L t last) : A.len 0 = 0 := by rw [← h.len 0 h.pos, h.root.1]; rfl
theorem Aut.Inv.len_le (h : A.Inv L t last) {v : Nat} (hv : A.V v) : A.len v ≤ t.length := by
  obtain ⟨e, he, hs⟩ := h.occ (h.self hv)
  have := hs.length_le
  rw [h.len v hv, List.length_take] at this
  omega
theorem Aut.Inv.link_V (h : A.Inv L t last) {v u : Nat} (hv : A.V v) (hu : A.link v = some u) : A.V u ∧ A.len u < A.len v ∧ L u <:+ L v := by
  by_cases h0 : v = 0
  · subst h0; rw [h.root.2] at hu; cases hu
  · obtain ⟨u', h5, h6⟩ := h.link v hv h0
    rw [h5] at hu; cases hu; exact h6
theorem Aut.Inv.link_none (h : A.Inv L t last) {v : Nat} (hv : A.V v) (hu : A.link v = none) : v = 0 := by
  by_cases h0 : v = 0
  · exact h0
  · obtain ⟨u', h5, h6⟩ := h.link v hv h0
    rw [hu] at h5; cases h5

def atLen (A : Aut) (L : Nat → List UInt8) (T : List UInt8) (p : Option Nat) (b : Nat) : Prop :=
  match p with
  | none => b = 0
  | some p => A.V p ∧ L p <:+ T ∧ b = A.len p + 1
/-- The next of a chain of links: no node lies between. -/
theorem Aut.Inv.chain (h : A.Inv L t last) {T : List UInt8} {p b : Nat} (hp : atLen A L T (some p) b) : ∃ b', atLen A L T (A.link p) b' ∧ b' ≤ A.len p ∧ b = A.len p + 1 ∧ ∀ v, A.V v → L v <:+ T → b' ≤ A.len v → A.len v < b → v = p := by
  obtain ⟨vp, hT, rfl⟩ := hp
  cases hl : A.link p with
  | none =>
    have := h.link_none vp hl
    subst this
    refine ⟨0, rfl, by omega, rfl, fun v hv h1 _ h2 => ?_⟩
    exact h.same hv vp h1 hT (by rw [h.len0] at h2 ⊢; omega)
  | some u =>
    obtain ⟨vu, hlt, hs⟩ := h.link_V vp hl
    refine ⟨A.len u + 1, ⟨vu, hs.trans hT, rfl⟩, by omega, rfl, fun v hv h1 h2 h3 => ?_⟩
    rcases Nat.lt_or_ge (A.len v) (A.len p) with h4 | h4
    · have := h.gap vp hl hv hT h1 h4
      omega
    · exact h.same hv vp h1 hT (by omega)

/-! ### the first loop of extend -/
structure Path (A : Aut) (L : Nat → List UInt8) (t : List UInt8) (c : UInt8) (whole : Nat) (p : Option Nat) (b : Nat) (B : Aut) : Prop where
  pos : atLen A L t p b
  V : ∀ v, B.V v ↔ A.V v ∨ v = whole
  len : B.len = upd A.len whole (t.length + 1)
  link : B.link = upd A.link whole (some 0)
  fin : B.fin = upd A.fin whole (t.length + 1)
  go0 : ∀ x, B.go whole x = none
  go1 : ∀ v, A.V v → L v <:+ t → b ≤ A.len v → A.go v c = none ∧ B.go v c = some whole
  go2 : ∀ v x, A.V v → ¬ (x = c ∧ L v <:+ t ∧ b ≤ A.len v) → B.go v x = A.go v x
theorem Path.start (h : A.Inv L t last) (hf : ¬ A.V whole) : Path A L t c whole (some last) (t.length + 1) (A.node whole (t.length + 1) (some 0) (t.length + 1)) := by
  have hll : A.len last = t.length := by rw [← h.len last h.last.1, h.last.2]
  refine ⟨⟨h.last.1, by rw [h.last.2]; exact List.suffix_refl _, by rw [hll]⟩, fun v => Iff.rfl, rfl, rfl, rfl, fun x => if_pos rfl, fun v hv _ hb => ?_, fun v x hv _ => if_neg (c := v = whole) fun e => hf (e ▸ hv)⟩
  have := h.len_le hv
  omega
theorem Path.go_at {p b : Nat} {B : Aut} (P : Path A L t c whole (some p) b B) (x : UInt8) : B.go p x = A.go p x := by
  obtain ⟨vp, _, hb⟩ := P.pos
  exact P.go2 p x vp fun ⟨_, _, h⟩ => by omega
theorem Path.next (h : A.Inv L t last) (hf : ¬ A.V whole) {p b : Nat} {B : Aut} (P : Path A L t c whole (some p) b B) (hg : B.go p c = none) : ∃ b', b' < b ∧ Path A L t c whole (B.link p) b' (B.addE p c whole) := by
  obtain ⟨b', h1, h2, h3, h4⟩ := h.chain P.pos
  obtain ⟨vp, hpt, _⟩ := P.pos
  have hpw : p ≠ whole := fun e => hf (e ▸ vp)
  have hlk : B.link p = A.link p := by rw [P.link]; exact upd_ne _ _ hpw
  refine ⟨b', by omega, by rw [hlk]; exact h1, P.V, P.len, P.link, P.fin, fun x => ?_, fun v hv hs hb => ?_, fun v x hv hn => ?_⟩
  · exact (if_neg fun e => hpw e.1.symm).trans (P.go0 x)
  · by_cases e : v = p
    · subst e
      exact ⟨by rw [← P.go_at]; exact hg, if_pos ⟨rfl, rfl⟩⟩
    · obtain ⟨h5, h6⟩ := P.go1 v hv hs (by
        rcases Nat.lt_or_ge (A.len v) b with hh | hh
        · exact absurd (h4 v hv hs hb hh) e
        · exact hh)
      exact ⟨h5, (if_neg fun e' => e e'.1).trans h6⟩
  · have e1 : ¬ (v = p ∧ x = c) := by
      rintro ⟨rfl, rfl⟩
      exact hn ⟨rfl, hpt, h2⟩
    exact (if_neg e1).trans (P.go2 v x hv fun ⟨h5, h6, h7⟩ => hn ⟨h5, h6, by omega⟩)
theorem Path.end_none (h : A.Inv L t last) (hf : ¬ A.V whole) {b : Nat} {B : Aut} (P : Path A L t c whole none b B) :
    B.Eqv (A.ext t whole 0 B.go) ∧ (A.ext t whole 0 B.go).Inv (upd L whole (t ++ [c])) (t ++ [c]) whole := by
  have hb : b = 0 := P.pos
  subst hb
  refine ⟨⟨P.V, fun v _ => by rw [P.len]; rfl, fun v _ => by rw [P.link]; rfl, fun v _ => by rw [P.fin]; rfl, fun _ _ _ => rfl⟩, ?_⟩
  refine h.ext hf h.pos (by rw [h.root.1]; exact List.nil_suffix) (h.h1_none fun v hv hs => (P.go1 v hv hs (Nat.zero_le _)).1) (fun v hv hs _ => (P.go1 v hv hs (Nat.zero_le _)).2) (fun v x hv hn => P.go2 v x hv fun ⟨h5, h6, h7⟩ => hn ⟨h5, h6, by rw [h.len0]; exact Nat.zero_le _⟩) P.go0
/-- The length of the node that follows. -/
theorem Path.len_ge (h : A.Inv L t last) {p q b : Nat} {B : Aut} (P : Path A L t c whole (some p) b B) (hg : B.go p c = some q) : A.V q ∧ A.len p + 1 ≤ A.len q := by
  rw [P.go_at] at hg
  obtain ⟨vp, _, _⟩ := P.pos
  obtain ⟨vq, _, hs⟩ := h.step p c q vp hg
  have := h.cls_len (hs _ (h.self vp))
  rw [List.length_append, h.len p vp, List.length_singleton] at this
  exact ⟨vq, this⟩
theorem Path.end_some (h : A.Inv L t last) (hf : ¬ A.V whole) {p q b : Nat} {B : Aut} (P : Path A L t c whole (some p) b B) (hg : B.go p c = some q) (hl : A.len q ≤ A.len p + 1) :
    (B.setLink whole (some q)).Eqv (A.ext t whole q B.go) ∧ (A.ext t whole q B.go).Inv (upd L whole (t ++ [c])) (t ++ [c]) whole := by
  obtain ⟨vq, hge⟩ := P.len_ge h hg
  have hg' : A.go p c = some q := by rw [← P.go_at]; exact hg
  obtain ⟨vp, hpt, hb⟩ := P.pos
  have hlq : A.len q = A.len p + 1 := by omega
  subst hb
  obtain ⟨_, _, h3, h4⟩ := h.h1_some vp hpt hg' hlq fun v hv hs hh => (P.go1 v hv hs (by omega)).1
  refine ⟨⟨P.V, fun v _ => by show B.len v = _; rw [P.len]; rfl, fun v _ => ?_, fun v _ => by show B.fin v = _; rw [P.fin]; rfl, fun _ _ _ => rfl⟩, ?_⟩
  · show upd B.link whole (some q) v = upd A.link whole (some q) v
    by_cases e : v = whole
    · subst e; rw [upd_same, upd_same]
    · rw [upd_ne _ _ e, upd_ne _ _ e, P.link, upd_ne _ _ e]
  · exact h.ext hf vq h3 h4 (fun v hv hs hh => (P.go1 v hv hs (by omega)).2) (fun v x hv hn => P.go2 v x hv fun ⟨h5, h6, h7⟩ => hn ⟨h5, h6, by omega⟩) P.go0

/-! ### the first loop of split -/
structure Copy (es : List Ed) (own : Nat → Nat) (B : Aut) (q part : Nat) (e : Option Nat) (C : Aut) : Prop where
  k : ∃ k, k ≤ es.length ∧ e = headOf own q k ∧ (∀ j y, k ≤ j → es[j]? = some y → own j = q → C.go part y.letter = some y.to) ∧ (∀ x u, C.go part x = some u → ∃ j y, k ≤ j ∧ es[j]? = some y ∧ own j = q ∧ y.letter = x)
  go : ∀ v x, v ≠ part → C.go v x = B.go v x
  same : C.V = B.V ∧ C.len = B.len ∧ C.link = B.link ∧ C.fin = B.fin
theorem Copy.start {ns : List Nd} {es : List Ed} {own : Nat → Nat} {B : Aut} {q l f : Nat} {lk : Option Nat} {x : Nd} (R : Rep ns es own B) (hx : ns[q]? = some x) : Copy es own (B.node ns.length l lk f) q ns.length x.edge (B.node ns.length l lk f) := by
  refine ⟨⟨es.length, Nat.le_refl _, (R.node q x hx).2.2.2, fun j y h1 h2 _ => ?_, fun x u hg => ?_⟩, fun v x hv => rfl, rfl, rfl, rfl, rfl⟩
  · have := (List.getElem?_eq_some_iff.1 h2).1
    omega
  · have : (B.node ns.length l lk f).go ns.length x = none := if_pos rfl
    rw [this] at hg; cases hg
theorem Copy.next {ns : List Nd} {es : List Ed} {own : Nat → Nat} {B C : Aut} {q part j : Nat} {y : Ed} {nx : Option Nat} (R : Rep ns es own C) (K : Copy es own B q part (some j) C) (hqp : q ≠ part) (hj : es[j]? = some y) :
    C.go part y.letter = none ∧ Copy (es ++ [⟨y.letter, y.to, nx⟩]) (upd own es.length part) B q part y.next (C.addE part y.letter y.to) := by
  obtain ⟨⟨k, h1, h2, h3, h4⟩, hgo, hV⟩ := K
  obtain ⟨h5, h6, h7⟩ := headOf_some h2.symm
  have hn : C.go part y.letter = none := by
    cases hg : C.go part y.letter with
    | none => rfl
    | some u =>
      obtain ⟨j', y', h8, h9, h10, h11⟩ := h4 _ _ hg
      have := R.one j' j y' y h9 hj (h10.trans h6.symm) h11
      omega
  have ow : ∀ e, e < es.length → upd own es.length part e = own e := fun e he => upd_ne _ _ (by omega)
  have low : ∀ e z, (es ++ [(⟨y.letter, y.to, nx⟩ : Ed)])[e]? = some z → (e < es.length ∧ es[e]? = some z) ∨ (e = es.length ∧ z = ⟨y.letter, y.to, nx⟩) := fun e z hz => by
    rcases Nat.lt_trichotomy e es.length with h1 | h1 | h1
    · rw [List.getElem?_append_left h1] at hz; exact .inl ⟨h1, hz⟩
    · subst h1
      rw [List.getElem?_append_right (Nat.le_refl _)] at hz
      simp at hz
      exact .inr ⟨rfl, hz.symm⟩
    · rw [List.getElem?_eq_none (by simp; omega)] at hz; cases hz
  refine ⟨hn, ⟨j, by simp; omega, ?_, fun j' z h8 h9 h10 => ?_, fun x u hg => ?_⟩, fun v x hv => ?_, hV⟩
  · rw [(R.next j y hj).2.2, h6]
    exact headOf_congr fun i hi => (ow i (by omega)).symm
  · rcases low j' z h9 with ⟨h11, h12⟩ | ⟨rfl, rfl⟩
    · rw [ow j' h11] at h10
      show (if part = part ∧ z.letter = y.letter then some y.to else C.go part z.letter) = _
      by_cases e : z.letter = y.letter
      · have e1 := R.one j' j z y h12 hj (h10.trans h6.symm) e
        subst e1
        rw [hj] at h12; cases h12
        exact if_pos ⟨rfl, rfl⟩
      · rw [if_neg fun hh => e hh.2]
        refine h3 j' z ?_ h12 h10
        rcases Nat.lt_or_ge j' k with h13 | h13
        · rcases Nat.lt_or_ge j j' with h14 | h14
          · exact absurd h10 (h7 j' h14 h13)
          · have e1 : j' = j := by omega
            subst e1
            rw [hj] at h12; cases h12
            exact absurd rfl e
        · exact h13
    · rw [upd_same] at h10; exact absurd h10.symm hqp
  · have hg' : (if part = part ∧ x = y.letter then some y.to else C.go part x) = some u := hg
    by_cases e : x = y.letter
    · subst e
      exact ⟨j, y, Nat.le_refl _, by rw [List.getElem?_append_left (by omega)]; exact hj, by rw [ow j (by omega)]; exact h6, rfl⟩
    · rw [if_neg fun hh => e hh.2] at hg'
      obtain ⟨j', y', h8, h9, h10, h11⟩ := h4 _ _ hg'
      have hlt := (List.getElem?_eq_some_iff.1 h9).1
      exact ⟨j', y', by omega, by rw [List.getElem?_append_left hlt]; exact h9, by rw [ow j' hlt]; exact h10, h11⟩
  · exact (if_neg fun hh => hv hh.1).trans (hgo v x hv)
theorem Copy.fin {ns : List Nd} {es : List Ed} {own : Nat → Nat} {B C : Aut} {q part : Nat} (R : Rep ns es own C) (K : Copy es own B q part none C) (hq : q < ns.length) (hqp : q ≠ part) : ∀ x, C.go part x = B.go q x := fun x => by
  obtain ⟨⟨k, h1, h2, h3, h4⟩, hgo, hV⟩ := K
  rw [← hgo q x hqp]
  have far := headOf_none h2.symm
  cases hg : C.go q x with
  | none =>
    cases hp : C.go part x with
    | none => rfl
    | some u =>
      obtain ⟨j, y, h5, h6, h7, h8⟩ := h4 _ _ hp
      have := R.go1 j y h6
      rw [h7, h8, hg] at this
      cases this
  | some u =>
    obtain ⟨j, y, h5, h6, h7, h8⟩ := R.go2 q x u hq hg
    rcases Nat.lt_or_ge j k with h9 | h9
    · exact absurd h6 (far j h9)
    · rw [← h7, h3 j y h9 h5 h6, h8]

/-! ### the second loop of split -/
structure Turn (A : Aut) (L : Nat → List UInt8) (t : List UInt8) (c : UInt8) (whole p q part : Nat) (B : Aut) (p' : Option Nat) (b : Nat) (D : Aut) : Prop where
  pos : atLen A L (L p) p' b
  low : b ≤ A.len p + 1
  V : ∀ v, D.V v ↔ (A.V v ∨ v = whole) ∨ v = part
  len : D.len = upd (upd A.len whole (t.length + 1)) part (A.len p + 1)
  link : D.link = upd (upd (upd A.link whole (some 0)) part (A.link q)) q (some part)
  fin : D.fin = upd (upd A.fin whole (t.length + 1)) part (A.fin q)
  go0 : ∀ x, D.go whole x = none
  goP : ∀ x, D.go part x = B.go q x
  go : ∀ v x, A.V v → D.go v x = if x = c ∧ A.go v c = some q ∧ b ≤ A.len v ∧ A.len v ≤ A.len p then some part else B.go v x
theorem Turn.start {p q part b : Nat} {B C : Aut} (h : A.Inv L t last) (hf : ¬ A.V whole) (hfp : ¬ A.V part) (hwp : whole ≠ part) (P : Path A L t c whole (some p) b B) (hg : B.go p c = some q)
    (hs : C.V = (B.node part (A.len p + 1) (B.link q) (B.fin q)).V ∧ C.len = (B.node part (A.len p + 1) (B.link q) (B.fin q)).len ∧ C.link = (B.node part (A.len p + 1) (B.link q) (B.fin q)).link ∧ C.fin = (B.node part (A.len p + 1) (B.link q) (B.fin q)).fin)
    (hgo : ∀ v x, v ≠ part → C.go v x = (B.node part (A.len p + 1) (B.link q) (B.fin q)).go v x) (hgp : ∀ x, C.go part x = (B.node part (A.len p + 1) (B.link q) (B.fin q)).go q x) :
    Turn A L t c whole p q part B (some p) (A.len p + 1) (C.setLink q (some part)) := by
  obtain ⟨vq, hge⟩ := P.len_ge h hg
  obtain ⟨vp, hpt, hb⟩ := P.pos
  have hqp : q ≠ part := fun e => hfp (e ▸ vq)
  have hqw : q ≠ whole := fun e => hf (e ▸ vq)
  obtain ⟨s1, s2, s3, s4⟩ := hs
  have nd : ∀ v x, v ≠ part → (B.node part (A.len p + 1) (B.link q) (B.fin q)).go v x = B.go v x := fun v x hv => if_neg hv
  refine ⟨⟨vp, List.suffix_refl _, rfl⟩, Nat.le_refl _, fun v => ?_, ?_, ?_, ?_, fun x => ?_, fun x => ?_, fun v x hv => ?_⟩
  · show C.V v ↔ _
    rw [s1]
    show B.V v ∨ v = part ↔ _
    rw [P.V v]
  · show C.len = _
    rw [s2]
    show upd B.len part _ = _
    rw [P.len]
  · show upd C.link q _ = _
    rw [s3]
    show upd (upd B.link part (B.link q)) q _ = _
    rw [P.link, upd_ne _ _ hqw]
  · show C.fin = _
    rw [s4]
    show upd B.fin part (B.fin q) = _
    rw [P.fin, upd_ne _ _ hqw]
  · show C.go whole x = none
    rw [hgo _ _ hwp, nd _ _ hwp]; exact P.go0 x
  · show C.go part x = _
    rw [hgp, nd _ _ hqp]
  · show C.go v x = _
    have hvp : v ≠ part := fun e => hfp (e ▸ hv)
    rw [hgo _ _ hvp, nd _ _ hvp, if_neg]
    rintro ⟨_, _, h1, h2⟩
    omega
section
variable {p q part b0 : Nat} {B : Aut}
theorem Turn.go_at {p' b : Nat} {D : Aut} (P : Path A L t c whole (some p) b0 B) (T : Turn A L t c whole p q part B (some p') b D) : D.go p' c = A.go p' c := by
  obtain ⟨vp, _, hb⟩ := T.pos
  have hl := T.low
  obtain ⟨_, _, hb0⟩ := P.pos
  rw [T.go p' c vp, if_neg (fun ⟨_, _, h1, _⟩ => by omega)]
  exact P.go2 p' c vp fun ⟨_, _, h⟩ => by omega
/-- The nodes that lead to q by the letter lie behind each other. -/
theorem Aut.Inv.under (h : A.Inv L t last) {v : Nat} (hv : A.V v) (hp : A.V p) (h1 : A.go v c = some q) (h2 : A.go p c = some q) (hl : A.len v ≤ A.len p) : L v <:+ L p := by
  obtain ⟨_, _, s1⟩ := h.step v c q hv h1
  obtain ⟨_, _, s2⟩ := h.step p c q hp h2
  have := suf_cmp (s1 _ (h.self hv)).2.1 (s2 _ (h.self hp)).2.1 (by simp [h.len v hv, h.len p hp]; omega)
  exact (snoc_suf_inv this).2
theorem Turn.next (h : A.Inv L t last) (hf : ¬ A.V whole) (hfp : ¬ A.V part) (P : Path A L t c whole (some p) b0 B) (hg : B.go p c = some q) {p' b : Nat} {D : Aut} (T : Turn A L t c whole p q part B (some p') b D) (hd : D.go p' c = some q) :
    ∃ b', b' < b ∧ Turn A L t c whole p q part B (D.link p') b' (D.addE p' c part) := by
  obtain ⟨b', h1, h2, h3, h4⟩ := h.chain T.pos
  have hd' := hd
  rw [T.go_at P] at hd'
  rw [P.go_at] at hg
  obtain ⟨vp', hs', _⟩ := T.pos
  obtain ⟨vp, _, _⟩ := P.pos
  have hl := T.low
  have vq := (h.step p' c q vp' hd').1
  have hlq := h.cls_len ((h.step p c q vp hg).2.2 _ (h.self vp))
  rw [List.length_append, h.len p vp, List.length_singleton] at hlq
  have n1 : p' ≠ whole := fun e => hf (e ▸ vp')
  have n2 : p' ≠ part := fun e => hfp (e ▸ vp')
  have n3 : p' ≠ q := fun e => by subst e; omega
  have hlk : D.link p' = A.link p' := by rw [T.link, upd_ne _ _ n3, upd_ne _ _ n2, upd_ne _ _ n1]
  refine ⟨b', by omega, by rw [hlk]; exact h1, by omega, T.V, T.len, T.link, T.fin, fun x => ?_, fun x => ?_, fun v x hv => ?_⟩
  · exact (if_neg fun e => n1 e.1.symm).trans (T.go0 x)
  · exact (if_neg fun e => n2 e.1.symm).trans (T.goP x)
  · show (if v = p' ∧ x = c then some part else D.go v x) = _
    by_cases e : v = p' ∧ x = c
    · obtain ⟨rfl, rfl⟩ := e
      rw [if_pos ⟨rfl, rfl⟩, if_pos ⟨rfl, hd', h2, by omega⟩]
    · rw [if_neg e, T.go v x hv]
      by_cases k : x = c ∧ A.go v c = some q ∧ b' ≤ A.len v ∧ A.len v ≤ A.len p
      · rw [if_pos k]
        obtain ⟨k1, k2, k3, k4⟩ := k
        refine if_pos ⟨k1, k2, ?_, k4⟩
        rcases Nat.lt_or_ge (A.len v) b with hh | hh
        · exact absurd ⟨h4 v hv (h.under hv vp k2 hg k4) k3 hh, k1⟩ e
        · exact hh
      · rw [if_neg k, if_neg fun ⟨k1, k2, k3, k4⟩ => k ⟨k1, k2, by omega, k4⟩]
def Turned (A : Aut) (c : UInt8) (p q part : Nat) (B D : Aut) : Prop := ∀ v x, A.V v → D.go v x = if x = c ∧ A.go v c = some q ∧ A.len v ≤ A.len p then some part else B.go v x
theorem Turn.end_none {b : Nat} {D : Aut} (T : Turn A L t c whole p q part B none b D) : Turned A c p q part B D := fun v x hv => by
  have hb : b = 0 := T.pos
  subst hb
  rw [T.go v x hv]
  simp
theorem Turn.end_some (h : A.Inv L t last) (P : Path A L t c whole (some p) b0 B) (hg : B.go p c = some q) {p' b : Nat} {D : Aut} (T : Turn A L t c whole p q part B (some p') b D) (hd : D.go p' c ≠ some q) : Turned A c p q part B D := fun v x hv => by
  rw [T.go_at P] at hd
  rw [P.go_at] at hg
  rw [T.go v x hv]
  by_cases k : x = c ∧ A.go v c = some q ∧ A.len v ≤ A.len p
  · rw [if_pos k]
    obtain ⟨k1, k2, k3⟩ := k
    refine if_pos ⟨k1, k2, ?_, k3⟩
    obtain ⟨vp', hs', hb⟩ := T.pos
    obtain ⟨vp, _, _⟩ := P.pos
    rcases Nat.lt_or_ge (A.len v) b with hh | hh
    · exfalso
      have hu := h.under hv vp k2 hg k3
      have c1 := (h.step v c q hv k2).2.2 _ (h.self hv)
      have c2 := (h.step p c q vp hg).2.2 _ (h.self vp)
      have hv' : L v <:+ L p' := suf_cmp hu hs' (by rw [h.len v hv, h.len p' vp']; omega)
      have c3 : A.Cls L q (L p' ++ [c]) := by
        refine c1.mid c2 ?_ (snoc_suf c hs')
        simp [h.len v hv, h.len p' vp']; omega
      obtain ⟨u, hu'⟩ := h.all p' c (L p') (h.self vp') (h.occ c3)
      have := h.one u q _ ((h.step p' c u vp' hu').2.2 _ (h.self vp')) c3
      subst this
      exact hd hu'
    · exact hh
  · rw [if_neg k, if_neg fun ⟨k1, k2, _, k4⟩ => k ⟨k1, k2, k4⟩]
theorem Turn.fin' (h : A.Inv L t last) (hf : ¬ A.V whole) (hfp : ¬ A.V part) (hwp : whole ≠ part) (P : Path A L t c whole (some p) b0 B) (hg : B.go p c = some q) (hl : A.len p + 1 < A.len q) {p' : Option Nat} {b : Nat} {D : Aut} (T : Turn A L t c whole p q part B p' b D) (hD : Turned A c p q part B D) :
    (D.setLink whole (some part)).Eqv ((A.split p q part c).ext t whole part D.go) ∧ ((A.split p q part c).ext t whole part D.go).Inv (upd (splitL L p part c) whole (t ++ [c])) (t ++ [c]) whole := by
  have hg' : A.go p c = some q := by rw [← P.go_at]; exact hg
  obtain ⟨vp, hpt, hb⟩ := P.pos
  subst hb
  have vq := (h.step p c q vp hg').1
  have hS := h.split vp hg' hl hfp
  have hqp : q ≠ part := fun e => hfp (e ▸ vq)
  have hqw : q ≠ whole := fun e => hf (e ▸ vq)
  have hfs : ¬ (A.split p q part c).V whole := fun e => e.elim hf hwp
  have lp : (A.split p q part c).len part = A.len p + 1 := upd_same _ _ _
  have Lp : splitL L p part c part = L p ++ [c] := upd_same _ _ _
  have lv : ∀ v, A.V v → (A.split p q part c).len v = A.len v := fun v hv => upd_ne _ _ fun e => hfp (e ▸ hv)
  have Lv : ∀ v, A.V v → splitL L p part c v = L v := fun v hv => upd_ne _ _ fun e => hfp (e ▸ hv)
  have gp : ∀ x, (A.split p q part c).go part x = A.go q x := fun x => if_pos rfl
  have gv : ∀ v x, A.V v → (A.split p q part c).go v x = if x = c ∧ A.go v c = some q ∧ A.len v ≤ A.len p then some part else A.go v x := fun v x hv => if_neg (c := v = part) fun e => hfp (e ▸ hv)
  have cq := (h.step p c q vp hg').2.2 _ (h.self vp)
  have up : L p ++ [c] <:+ t → L q <:+ t := fun hs => h.ends_all cq hs
  have gpp : (A.split p q part c).go p c = some part := by rw [gv p c vp, if_pos ⟨rfl, hg', Nat.le_refl _⟩]
  obtain ⟨v1, v2, v3, v4⟩ := hS.h1_some (c := c) (p := p) (q := part) (.inl vp) (by rw [Lv p vp]; exact hpt) gpp (by rw [lp, lv p vp]) (fun v hv hs hh => by
    rcases hv with hv | rfl
    · rw [Lv v hv] at hs
      rw [lv p vp, lv v hv] at hh
      have := (P.go1 v hv hs (by omega)).1
      rw [gv v c hv, this]
      simp
    · rw [Lp] at hs
      rw [gp]
      exact (P.go1 q vq (up hs) (by omega)).1)
  refine ⟨⟨fun v => ?_, fun v hv => ?_, fun v hv => ?_, fun v hv => ?_, fun _ _ _ => rfl⟩, hS.ext hfs v1 v3 v4 (fun v hv hs hh => ?_) (fun v x hv hn => ?_) T.go0⟩
  · show D.V v ↔ (A.V v ∨ v = part) ∨ v = whole
    rw [T.V v]
    constructor
    · rintro ((h1 | h1) | h1)
      · exact .inl (.inl h1)
      · exact .inr h1
      · exact .inl (.inr h1)
    · rintro ((h1 | h1) | h1)
      · exact .inl (.inl h1)
      · exact .inr h1
      · exact .inl (.inr h1)
  · show D.len v = upd (upd A.len part (A.len p + 1)) whole (t.length + 1) v
    rw [T.len]
    by_cases e1 : v = part
    · subst e1; rw [upd_same, upd_ne _ _ hwp.symm, upd_same]
    · rw [upd_ne _ _ e1]
      by_cases e2 : v = whole
      · subst e2; rw [upd_same, upd_same]
      · rw [upd_ne _ _ e2, upd_ne _ _ e2, upd_ne _ _ e1]
  · show upd D.link whole (some part) v = upd (upd (upd A.link part (A.link q)) q (some part)) whole (some part) v
    by_cases e2 : v = whole
    · subst e2; rw [upd_same, upd_same]
    · rw [upd_ne _ _ e2, upd_ne _ _ e2, T.link]
      by_cases e3 : v = q
      · subst e3; rw [upd_same, upd_same]
      · rw [upd_ne _ _ e3, upd_ne _ _ e3]
        by_cases e1 : v = part
        · subst e1; rw [upd_same, upd_same]
        · rw [upd_ne _ _ e1, upd_ne _ _ e1, upd_ne _ _ e2]
  · show D.fin v = upd (upd A.fin part (A.fin q)) whole (t.length + 1) v
    rw [T.fin]
    by_cases e1 : v = part
    · subst e1; rw [upd_same, upd_ne _ _ hwp.symm, upd_same]
    · rw [upd_ne _ _ e1]
      by_cases e2 : v = whole
      · subst e2; rw [upd_same, upd_same]
      · rw [upd_ne _ _ e2, upd_ne _ _ e2, upd_ne _ _ e1]
  · rw [lp] at hh
    rcases hv with hv | rfl
    · rw [Lv v hv] at hs
      rw [lv v hv] at hh
      obtain ⟨k1, k2⟩ := P.go1 v hv hs hh
      rw [hD v c hv, k1, if_neg (fun ⟨_, k3, _⟩ => (by cases k3))]
      exact k2
    · rw [Lp] at hs
      rw [T.goP]
      exact (P.go1 q vq (up hs) (by omega)).2
  · rw [lp] at hn
    rcases hv with hv | rfl
    · rw [Lv v hv, lv v hv] at hn
      rw [hD v x hv, gv v x hv, P.go2 v x hv hn]
    · rw [Lp, lp] at hn
      rw [T.goP, gp]
      exact P.go2 q x vq fun ⟨k1, k2, _⟩ => hn ⟨k1, cq.2.1.trans k2, Nat.le_refl _⟩
end
end
end Go.Proofs.Ytiioebpmfjipeaa
