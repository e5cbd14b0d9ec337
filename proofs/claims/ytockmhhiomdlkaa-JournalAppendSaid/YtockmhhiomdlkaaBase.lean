/- Words for memory, over any program: a slice that reads as a list, a row that the call owns, and the laws of the walk that speak of them. -/
import Derived.WalkKit
import Derived.WalkSpells
import Derived.WalkLawsBesides
import Derived.BigQuiet
import Derived.Lib.Hide
import Derived.Lib.SlicesS
import Derived.Deep.DeepFit
namespace Go.Proofs.Ytockmhhiomdlkaa
set_option linter.unusedSimpArgs false
set_option linter.unusedVariables false
open Go.RowKit

theorem str_eq {x y : ByteArray} (h : x = y) : (x.toList == y.toList) = true := (Lib.bytes_beq_iff x y).2 h
theorem str_ne {x y : ByteArray} (h : ¬ x = y) : (x.toList == y.toList) = false := (Lib.bytes_beq_false_iff x y).2 h

theorem ret_bool {a b : Bool} (h : a = b) : Ending.returned (.bool a) = .returned (.bool b) := by rw [h]
theorem ret_int {k : IntKind} {a b : Int} (h : a = b) : Ending.returned (.int k a) = .returned (.int k b) := by rw [h]

theorem ret_int2 {k k' : IntKind} {a b c d : Int} (h : a = c) (h' : b = d) : Ending.returned (.tuple #[.int k a, .int k' b]) = .returned (.tuple #[.int k c, .int k' d]) := by rw [h, h']
theorem i64w {n : Int} (h0 : -9223372036854775808 ≤ n) (h1 : n ≤ 9223372036854775807) : IntKind.i64.wrap n = n := IntWalk.i64_in n (by omega)

/-- Equal or not, as a Bool that the walk does not open. -/
def eqB {α : Type} [DecidableEq α] (x y : α) : Bool := decide (x = y)
theorem eqB_true {α : Type} [DecidableEq α] {x y : α} (h : x = y) : eqB x y = true := decide_eq_true h
theorem eqB_false {α : Type} [DecidableEq α] {x y : α} (h : ¬ x = y) : eqB x y = false := decide_eq_false h
theorem eqB_iff {α : Type} [DecidableEq α] {x y : α} : eqB x y = true ↔ x = y := decide_eq_true_iff

/-- Only draws have been made. -/
def Drawn (w w' : World) : Prop := ∃ n, w' = w.drewN n
theorem Drawn.refl (w : World) : Drawn w w := ⟨0, rfl⟩
theorem Drawn.drewN {w w' : World} (h : Drawn w w') (n : Nat) : Drawn w (w'.drewN n) := by obtain ⟨m, rfl⟩ := h; exact ⟨m + n, World.drewN_drewN ..⟩
theorem Drawn.drew {w w' : World} (h : Drawn w w') : Drawn w w'.drew := by obtain ⟨m, rfl⟩ := h; exact ⟨m + 1, rfl⟩
theorem Drawn.trans {a b c : World} (h : Drawn a b) (k : Drawn b c) : Drawn a c := by obtain ⟨m, rfl⟩ := k; exact h.drewN m
theorem Drawn.below {w w' : World} (h : Drawn w w') (B : Nat) : Below B w w' := by obtain ⟨m, rfl⟩ := h; exact ⟨rfl, rfl, rfl, Nat.le_refl _, fun _ _ => rfl⟩

/-- A callee's contract inside a quiet region. -/
theorem quiet_drawn {P : Program} {f : FuncId} {args : Array Value} {w : World} {n : Nat} {v : Value} (h : Calls P f args (w.drewN n) fun e w' => e = .returned v ∧ Drawn (w.drewN n) w') :
    Calls P f args (w.drewN n) fun e w'' => e = .returned v ∧ ∃ m, w'' = w.drewN m :=
  h.mono fun _ _ ⟨he, m, hm⟩ => ⟨he, n + m, by rw [hm, World.drewN_drewN]⟩

/-! ### cells -/

/-- From A on the memory holds the cells vs. -/
def CellsAt (w : World) (A : Option Addr) (vs : List Value) : Prop :=
  ∀ k u, vs[k]? = some u → ∃ b off, A = some ⟨b, off, none⟩ ∧ w.cell? ⟨b, off + k, none⟩ = some u

/-- What is there stays there. -/
def Keeps (w w' : World) : Prop := ∀ b o u, w.cell? ⟨b, o, none⟩ = some u → w'.cell? ⟨b, o, none⟩ = some u

theorem Keeps.refl (w : World) : Keeps w w := fun _ _ _ h => h
theorem Keeps.trans {a b c : World} (h : Keeps a b) (k : Keeps b c) : Keeps a c := fun _ _ _ x => k _ _ _ (h _ _ _ x)
theorem Keeps.of_below {w w' : World} (h : Below w.heap.size w w') : Keeps w w' := fun _ _ _ x => cell_later h x
theorem Keeps.drewN (w : World) (n : Nat) : Keeps w (w.drewN n) := fun _ _ _ x => x
theorem Keeps.drew (w : World) : Keeps w w.drew := fun _ _ _ x => x
theorem Keeps.alloc (w : World) (o : Obj) : Keeps w (w.alloc o) := fun _ _ _ x =>
  (World.cell?_alloc_lt w o _ (World.block_lt_of_cell? w _ x)).trans x

theorem Drawn.keeps {w w' : World} (h : Drawn w w') : Keeps w w' := by obtain ⟨n, rfl⟩ := h; exact Keeps.drewN w n
theorem CellsAt.keep {w w' : World} {A : Option Addr} {vs : List Value} (h : CellsAt w A vs) (k : Keeps w w') : CellsAt w' A vs := fun i u hu => by
  obtain ⟨b, off, e, hc⟩ := h i u hu
  exact ⟨b, off, e, k _ _ _ hc⟩
theorem CellsAt.nil (w : World) (A : Option Addr) : CellsAt w A [] := fun k u h => by simp at h

theorem CellsAt.kit {w : World} {ad : Addr} {vs : List Value} (h : CellsAt w (some ad) vs) : ∀ j u, vs[j]? = some u → w.cell? (ad.add j) = some u := by
  intro j u hu
  obtain ⟨b, off, e, hc⟩ := h j u hu
  cases e
  have : (⟨b, off, none⟩ : Addr).add j = ⟨b, off + j, none⟩ := by unfold Addr.add; split <;> simp_all
  rw [this]; exact hc

theorem CellsAt.of_kit {w : World} {ad : Addr} {vs : List Value} (h : ∀ j u, vs[j]? = some u → w.cell? (ad.add j) = some u) : CellsAt w (some ad) vs := by
  intro j u hu
  have h0 : vs[0]? = some (vs[0]'(by have := (List.getElem?_eq_some_iff.1 hu).1; omega)) := List.getElem?_eq_getElem _
  have hc0 := h 0 _ h0
  have hs : ad.spot = none := by
    have := World.cell?_spot hc0
    simpa [Addr.add] using this
  obtain ⟨b, off, spot⟩ := ad
  simp only at hs; subst hs
  refine ⟨b, off, rfl, ?_⟩
  have : (⟨b, off, none⟩ : Addr).add j = ⟨b, off + j, none⟩ := by unfold Addr.add; split <;> simp_all
  rw [← this]; exact h j u hu

theorem CellsAt.of_new (w : World) (cs : Array Value) (t : TypeId) (fr : Nat × Nat) : CellsAt (w.alloc (.cells cs t fr)) (some ⟨w.heap.size, 0, none⟩) cs.toList := by
  intro k u hu
  refine ⟨_, _, rfl, ?_⟩
  rw [World.cell?_alloc_mark]
  simpa using hu

theorem CellsAt.drop {w : World} {A : Option Addr} {vs : List Value} (h : CellsAt w A vs) (c i s : Nat) (hi : i < c ∨ vs.length ≤ i * s) :
    CellsAt w (if c = i then A else A.map (·.add (i * s))) (vs.drop (i * s)) := by
  intro k u hu
  rw [List.getElem?_drop] at hu
  obtain ⟨b, off, rfl, hc⟩ := h _ u hu
  have hlt := (List.getElem?_eq_some_iff.1 hu).1
  rw [if_neg (by omega)]
  refine ⟨b, off + i * s, ?_, by rw [← hc, Nat.add_assoc]⟩
  simp only [Option.map_some]
  unfold Addr.add; split <;> simp_all

theorem CellsAt.take {w : World} {A : Option Addr} {vs : List Value} (h : CellsAt w A vs) (n : Nat) : CellsAt w A (vs.take n) := by
  intro k u hu
  rw [List.getElem?_take] at hu
  split at hu
  · exact h k u hu
  · cases hu

/-! ### elements of sz cells each -/

def Elems {α : Type} (sz : Nat) (R : List Value → α → Prop) : List α → List Value → Prop
  | [], vs => vs = []
  | x :: xs, vs => ∃ us vs', vs = us ++ vs' ∧ us.length = sz ∧ R us x ∧ Elems sz R xs vs'

section
variable {α : Type} {sz : Nat} {R R' : List Value → α → Prop}
theorem Elems.length : ∀ {xs : List α} {vs : List Value}, Elems sz R xs vs → vs.length = xs.length * sz
  | [], vs, h => by simp [show vs = [] from h]
  | x :: xs, vs, ⟨us, vs', e, hl, _, hr⟩ => by
    subst e
    rw [List.length_append, hl, Elems.length hr, List.length_cons, Nat.add_mul, Nat.one_mul, Nat.add_comm]
theorem Elems.mono (hR : ∀ us x, R us x → R' us x) : ∀ {xs : List α} {vs : List Value}, Elems sz R xs vs → Elems sz R' xs vs
  | [], _, h => h
  | _ :: _, _, ⟨us, vs', e, hl, hr, ht⟩ => ⟨us, vs', e, hl, hR _ _ hr, Elems.mono hR ht⟩
theorem Elems.append : ∀ {xs : List α} {vs : List Value}, Elems sz R xs vs → ∀ {ys : List α} {us : List Value}, Elems sz R ys us → Elems sz R (xs ++ ys) (vs ++ us)
  | [], vs, h, ys, us, k => by simpa [show vs = [] from h] using k
  | x :: xs, vs, ⟨u, vs', e, hl, hr, ht⟩, ys, us, k => ⟨u, vs' ++ us, by rw [e, List.append_assoc], hl, hr, Elems.append ht k⟩
theorem Elems.one {x : α} {us : List Value} (h : R us x) (hl : us.length = sz) : Elems sz R [x] us := ⟨us, [], by simp, hl, h, rfl⟩
theorem Elems.drop : ∀ {xs : List α} {vs : List Value}, Elems sz R xs vs → ∀ i, Elems sz R (xs.drop i) (vs.drop (i * sz))
  | xs, vs, h, 0 => by simpa using h
  | [], vs, h, i + 1 => by simp [show vs = [] from h, Elems]
  | x :: xs, vs, ⟨us, vs', e, hl, hr, ht⟩, i + 1 => by
    subst e
    have : (us ++ vs').drop ((i + 1) * sz) = vs'.drop (i * sz) := by
      rw [Nat.add_mul, Nat.one_mul, Nat.add_comm, ← hl, ← List.drop_drop, List.drop_left]
    rw [this]
    exact Elems.drop ht i
theorem Elems.take : ∀ {xs : List α} {vs : List Value}, Elems sz R xs vs → ∀ i, Elems sz R (xs.take i) (vs.take (i * sz))
  | xs, vs, h, 0 => by simp [Elems]
  | [], vs, h, i + 1 => by simp [Elems, show vs = [] from h]
  | x :: xs, vs, ⟨us, vs', e, hl, hr, ht⟩, i + 1 => by
    subst e
    have : (us ++ vs').take ((i + 1) * sz) = us ++ vs'.take (i * sz) := by
      rw [Nat.add_mul, Nat.one_mul, Nat.add_comm, ← hl, List.take_length_add_append]
    rw [this]
    exact ⟨us, _, rfl, hl, hr, Elems.take ht i⟩
theorem Elems.get : ∀ {xs : List α} {vs : List Value}, Elems sz R xs vs → ∀ {i : Nat} {x : α}, xs[i]? = some x → ∃ us, R us x ∧ us.length = sz ∧ ∀ j u, us[j]? = some u → vs[i * sz + j]? = some u
  | [], _, _, i, x, h => by simp at h
  | y :: xs, vs, ⟨us, vs', e, hl, hr, ht⟩, 0, x, h => by
    subst e
    simp at h; subst h
    refine ⟨us, hr, hl, fun j u hu => ?_⟩
    have hlt := (List.getElem?_eq_some_iff.1 hu).1
    rw [Nat.zero_mul, Nat.zero_add, List.getElem?_append_left hlt]
    exact hu
  | y :: xs, vs, ⟨us, vs', e, hl, hr, ht⟩, i + 1, x, h => by
    subst e
    simp at h
    obtain ⟨us', h1, h2, h3⟩ := Elems.get ht h
    refine ⟨us', h1, h2, fun j u hu => ?_⟩
    rw [List.getElem?_append_right (by rw [hl, Nat.add_mul, Nat.one_mul]; omega), hl]
    have : (i + 1) * sz + j - sz = i * sz + j := by rw [Nat.add_mul, Nat.one_mul]; omega
    rw [this]
    exact h3 j u hu
end

/-! ### a slice that reads as a list -/

def Sl {α : Type} (w : World) (sz : Nat) (R : List Value → α → Prop) (v : Value) (xs : List α) : Prop :=
  ∃ A c vs, v = .slice A xs.length c ∧ xs.length ≤ c ∧ c ≤ maxLen ∧ CellsAt w A vs ∧ Elems sz R xs vs

section
variable {α : Type} {sz : Nat} {R R' : List Value → α → Prop} {w w' : World} {v : Value} {xs : List α}
theorem Sl.keep (h : Sl w sz R v xs) (k : Keeps w w') (hR : ∀ us x, R us x → R' us x) : Sl w' sz R' v xs := by
  obtain ⟨A, c, vs, e, h1, h2, h3, h4⟩ := h
  exact ⟨A, c, vs, e, h1, h2, h3.keep k, h4.mono hR⟩
theorem Sl.nil (w : World) (sz : Nat) (R : List Value → α → Prop) : Sl w sz R (.slice none 0 0) [] := ⟨none, 0, [], rfl, by simp, by simp, CellsAt.nil _ _, rfl⟩
/-- The cells of an element. -/
theorem Sl.get {A : Option Addr} {c n : Nat} (h : Sl w sz R (.slice A n c) xs) {i : Nat} {x : α} (hi : xs[i]? = some x) (hsz : 0 < sz) :
    ∃ b off us, A = some ⟨b, off, none⟩ ∧ R us x ∧ us.length = sz ∧ ∀ j u, us[j]? = some u → w.cell? ⟨b, off + i * sz + j, none⟩ = some u := by
  obtain ⟨A', c', vs, e, h1, h2, h3, h4⟩ := h
  cases e
  obtain ⟨us, r1, r2, r3⟩ := h4.get hi
  have h0 : us[0]? = some (us[0]'(by omega)) := List.getElem?_eq_getElem _
  obtain ⟨b, off, rfl, _⟩ := h3 _ _ (r3 0 _ h0)
  refine ⟨b, off, us, rfl, r1, r2, fun j u hu => ?_⟩
  obtain ⟨b', off', e, hc⟩ := h3 _ _ (r3 j u hu)
  cases e
  rw [Nat.add_assoc]; exact hc
theorem Sl.form (h : Sl w sz R v xs) : ∃ A c, v = .slice A xs.length c ∧ xs.length ≤ c ∧ c ≤ 9223372036854775807 := by
  obtain ⟨A, c, vs, e, h1, h2, _⟩ := h
  exact ⟨A, c, e, h1, by unfold maxLen at h2; omega⟩
theorem Sl.sliced {A : Option Addr} {c n : Nat} (h : Sl w sz R (.slice A n c) xs) {i j : Nat} (hij : i ≤ j) (hj : j ≤ n) :
    Sl w sz R (sliced A i j c sz) ((xs.drop i).take (j - i)) := by
  obtain ⟨A', c', vs, e, h1, h2, h3, h4⟩ := h
  cases e
  have hlen := h4.length
  refine ⟨_, c - i, (vs.drop (i * sz)).take ((j - i) * sz), ?_, ?_, by omega, (h3.drop c i sz ?_).take _, (h4.drop i).take _⟩
  · unfold Go.sliced
    congr 1
    simp; omega
  · simp; omega
  · by_cases hc : i < c
    · exact .inl hc
    · right; rw [hlen, show xs.length = i by omega]; exact Nat.le_refl _
theorem Sl.length_le (h : Sl w sz R v xs) : xs.length ≤ 9223372036854775807 := by
  obtain ⟨_, _, _, h1, h2⟩ := h.form; omega
end

/-- One cell an element. -/
def Str1 : List Value → ByteArray → Prop := fun us s => us = [.string s]
def Strs (w : World) (v : Value) (xs : List ByteArray) : Prop := Sl w 1 Str1 v xs
theorem Strs.keep {w w' : World} {v : Value} {xs : List ByteArray} (h : Strs w v xs) (k : Keeps w w') : Strs w' v xs := Sl.keep h k fun _ _ h => h
theorem Strs.get {w : World} {xs : List ByteArray} {A : Option Addr} {c n : Nat} (h : Strs w (.slice A n c) xs) {i : Nat} (hi : i < xs.length) :
    ∃ b off, A = some ⟨b, off, none⟩ ∧ w.cell? ⟨b, off + i, none⟩ = some (.string xs[i]) := by
  obtain ⟨b, off, us, e, r, _, hc⟩ := Sl.get h (List.getElem?_eq_getElem hi) (by omega)
  have hc0 := hc 0 (.string xs[i]) (by rw [show us = _ from r]; rfl)
  exact ⟨b, off, e, by simpa using hc0⟩
theorem Strs.form {w : World} {v : Value} {xs : List ByteArray} (h : Strs w v xs) : ∃ A c, v = .slice A xs.length c ∧ xs.length ≤ c ∧ c ≤ 9223372036854775807 := Sl.form h

/-- A hunk: at, old, new. -/
abbrev Hk := Int × List ByteArray × List ByteArray
def HkR (w : World) : List Value → Hk → Prop := fun us h => ∃ vo vn, us = [.int .i64 h.1, vo, vn] ∧ Strs w vo h.2.1 ∧ Strs w vn h.2.2 ∧ -9223372036854775808 ≤ h.1 ∧ h.1 ≤ 9223372036854775807
def Hks (w : World) (v : Value) (hs : List Hk) : Prop := Sl w 3 (HkR w) v hs
theorem HkR.keep {w w' : World} (k : Keeps w w') : ∀ us x, HkR w us x → HkR w' us x := fun _ _ ⟨vo, vn, e, h1, h2, h3⟩ => ⟨vo, vn, e, h1.keep k, h2.keep k, h3⟩
theorem Hks.keep {w w' : World} {v : Value} {hs : List Hk} (h : Hks w v hs) (k : Keeps w w') : Hks w' v hs := Sl.keep h k (HkR.keep k)
theorem Hks.form {w : World} {v : Value} {xs : List Hk} (h : Hks w v xs) : ∃ A c, v = .slice A xs.length c ∧ xs.length ≤ c ∧ c ≤ 9223372036854775807 := Sl.form h
theorem Hks.get {w : World} {hs : List Hk} {A : Option Addr} {c n : Nat} (h : Hks w (.slice A n c) hs) {i : Nat} (hi : i < hs.length) :
    ∃ b off vo vn, A = some ⟨b, off, none⟩ ∧ w.cell? ⟨b, off + i * 3, none⟩ = some (.int .i64 hs[i].1) ∧ w.cell? ⟨b, off + i * 3 + 1, none⟩ = some vo ∧ w.cell? ⟨b, off + i * 3 + 2, none⟩ = some vn ∧
      Strs w vo hs[i].2.1 ∧ Strs w vn hs[i].2.2 ∧ -9223372036854775808 ≤ hs[i].1 ∧ hs[i].1 ≤ 9223372036854775807 := by
  obtain ⟨b, off, us, e, ⟨vo, vn, rfl, h1, h2, h3, h4⟩, _, hc⟩ := Sl.get h (List.getElem?_eq_getElem hi) (by omega)
  exact ⟨b, off, vo, vn, e, hc 0 _ rfl, hc 1 _ rfl, hc 2 _ rfl, h1, h2, h3, h4⟩

/-! ### a row that the call owns -/

def Ow {α : Type} (w : World) (base : Nat) (e : TypeId) (sz : Nat) (R : List Value → α → Prop) (v : Value) (xs : List α) : Prop :=
  ∃ vs, w.ownsRow base e sz v xs.length vs ∧ Elems sz R xs vs

section
variable {α : Type} {sz : Nat} {R R' : List Value → α → Prop} {w w' : World} {v : Value} {xs : List α} {base : Nat} {e : TypeId}
theorem Ow.nil (w : World) (base : Nat) (e : TypeId) (sz : Nat) (R : List Value → α → Prop) : Ow w base e sz R (.slice none 0 0) [] := ⟨[], World.ownsRow_nil _ _ _ _, rfl⟩
theorem Ow.sl (h : Ow w base e sz R v xs) : Sl w sz R v xs := by
  obtain ⟨vs, ho, he⟩ := h
  rcases ho.2 with ⟨rfl, hn⟩ | ⟨g, cap, cur, rfl, h1, h2, h3, h4, h5, h6⟩
  · have : xs = [] := List.eq_nil_of_length_eq_zero hn
    subst this
    exact Sl.nil _ _ _
  · exact ⟨_, cap, vs, rfl, h3, h4, CellsAt.of_kit (ho.cells (g := g) rfl), he⟩
theorem Ow.keep (h : Ow w base e sz R v xs) (hg : w.grownBy w' none) (hR : ∀ us x, R us x → R' us x) : Ow w' base e sz R' v xs := by
  obtain ⟨vs, ho, he⟩ := h
  refine ⟨vs, ho.kept hg ?_, he.mono hR⟩
  cases hv : v.ownBlock
  · exact .inl rfl
  · right; simp
theorem Ow.mono_base (h : Ow w base e sz R v xs) {b' : Nat} (hb : b' ≤ base) : Ow w b' e sz R v xs := by
  obtain ⟨vs, ⟨hl, ho⟩, he⟩ := h
  refine ⟨vs, ⟨hl, ?_⟩, he⟩
  rcases ho with h1 | ⟨g, cap, cur, h1, h2, h3⟩
  · exact .inl h1
  · exact .inr ⟨g, cap, cur, h1, by omega, h3⟩
end

theorem grown_of_below {w w' : World} (h : Below w.heap.size w w') : w.grownBy w' none := ⟨h.os, h.tape, h.output, h.size, fun k hk _ => h.block k hk⟩
theorem below_of_grown {w w' : World} (h : w.grownBy w' none) : Below w.heap.size w w' := ⟨h.os, h.tape, h.output, h.size, fun k hk => h.block k hk (by simp)⟩
theorem below_drewN' {B : Nat} {a w : World} (h : Below B a w) (n : Nat) : Below B a (w.drewN n) := ⟨h.os, h.tape, h.output, h.size, h.block⟩
theorem bcell {W w1 : World} (hb : Below W.heap.size W w1) : (∀ b o, b < W.heap.size → w1.cell? ⟨b, o, none⟩ = W.cell? ⟨b, o, none⟩) ∧ (∀ b o, b < W.heap.size → w1.frozen? ⟨b, o, none⟩ = W.frozen? ⟨b, o, none⟩) :=
  ⟨fun b o h => hb.cell (p := ⟨b, o, none⟩) h, fun b o h => hb.frozen (p := ⟨b, o, none⟩) h⟩

/-! ### laws of the walk -/

section
variable {P : Program} (w : World)

/-- 'x[lo:hi]', the value under one name. -/
theorem wpList_sliced {ops : Array Oper} {rest : List Oper} {o : Oper} {a : Act} {Q : Exit → Act → World → Prop} (hgd : o.guard = none) (x lo hi : Operand) (t : TypeId)
    (ho : o.op = .slice t x (some lo) (some hi) none) (e : TypeId) (ti : TypeInfo) (sz : Nat) (ht : P.underlying t = some (.slice e)) (hti : P.info? e = some ti) (hsz : ti.size = sz)
    (A : Option Addr) (n c : Nat) (k1 k2 : IntKind) (l h : Int) (hx : a.eval x = .slice A n c) (hl : a.eval lo = .int k1 l) (hh : a.eval hi = .int k2 h)
    (h0 : 0 ≤ l) (h1 : l ≤ h) (h2 : h ≤ c) (hK : wpList P ops Q rest (a.put o.dst (sliced A l.toNat h.toNat c sz)) w) : wpList P ops Q (o :: rest) a w := by
  subst hsz
  refine wpList_plain hgd fun K hK' => ?_
  have hel : P.elem t = e := by simp [Program.elem, ht]
  have hr := run_slice_lh (P := P) w t A n c (by rw [hel]; exact ht) k1 k2 l h h0 h1 h2
  have hs : (sizeOf (P.elem t)).run P w = .ok ti.size w := by rw [hel]; simp [sizeOf, typeInfo, hti]
  rw [hs] at hr
  unfold Oper.wp
  simp [execOp, ho, hx, hl, hh, run_sliceAt_slice w t _ _ _ _ (show P.underlying t = some (.slice (P.elem t)) by rw [hel]; exact ht), hr, Result.andThen]
  exact hK' _ _ hK
end
end Go.Proofs.Ytockmhhiomdlkaa
