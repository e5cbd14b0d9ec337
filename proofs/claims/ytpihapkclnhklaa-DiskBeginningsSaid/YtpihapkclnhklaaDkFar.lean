/- Disks in memory, where a box that holds no string is written. -/
import Derived.Test.YtpihapkclnhklaaDkRef5
namespace Go.Proofs.Ytpihapkclnhklaa
open Go.RowKit

def NoStr (w : World) (g : Nat) : Prop := ∀ j s, w.cell? ⟨g, j, none⟩ ≠ some (.string s)
theorem nostr4 {w : World} {g : Nat} {t : TypeId} {a b : Int} {A P : Option Addr} {n c m k : Nat} (h : Blk w g t #[.int .i64 a, .slice A n c, .slice P m k, .int .i64 b]) : NoStr w g := by
  intro j s e
  rw [cell_of_row w g j _ t (0, 0) h] at e
  match j with
  | 0 => cases e
  | 1 => cases e
  | 2 => cases e
  | 3 => cases e
  | j + 4 => simp at e
theorem cell_set_ne (w : World) {p q : Addr} (h : q.block ≠ p.block) (u : Value) : (w.setCell p u).cell? q = w.cell? q :=
  World.cell?_of_block (w := w) (Below.heap_setCell w p u q.block h)
theorem CellsAt.setNe {w : World} {A : Option Addr} {vs : List Value} (h : CellsAt w A vs) {p : Addr} (u : Value) (hne : ∀ b off, A = some ⟨b, off, none⟩ → vs ≠ [] → b ≠ p.block) : CellsAt (w.setCell p u) A vs := by
  intro k x hk
  obtain ⟨b, off, e, hc⟩ := h k x hk
  exact ⟨b, off, e, (cell_set_ne w (q := ⟨b, off + k, none⟩) (hne b off e (by intro e; subst e; simp at hk)) u).trans hc⟩
theorem Strs.setBox {w : World} {v : Value} {xs : List ByteArray} (h : Strs w v xs) {g j : Nat} (hg : NoStr w g) (u : Value) : Strs (w.setCell ⟨g, j, none⟩ u) v xs := by
  obtain ⟨A, c, vs, rfl, h1, h2, h3, h4⟩ := h
  refine ⟨A, c, vs, rfl, h1, h2, h3.setNe u ?_, h4⟩
  intro b off e hne he
  cases xs with
  | nil => exact hne h4
  | cons x xs =>
    obtain ⟨us, vs', rfl, _, rfl, _⟩ := h4
    obtain ⟨b', off', e', hc⟩ := h3 0 (.string x) rfl
    rw [e] at e'
    cases e'
    have he : b = g := he
    subst he
    exact hg _ _ hc
theorem Wrs.setBox {w : World} {v : Value} {xs : List (Int × ByteArray)} (h : Wrs w v xs) {g j : Nat} (hg : NoStr w g) (u : Value) : Wrs (w.setCell ⟨g, j, none⟩ u) v xs := by
  obtain ⟨A, c, vs, rfl, h1, h2, h3, h4⟩ := h
  refine ⟨A, c, vs, rfl, h1, h2, h3.setNe u ?_, h4⟩
  intro b off e hne he
  cases xs with
  | nil => exact hne h4
  | cons x xs =>
    obtain ⟨us, vs', rfl, _, ⟨rfl, _⟩, _⟩ := h4
    obtain ⟨b', off', e', hc⟩ := h3 1 (.string x.2) rfl
    rw [e] at e'
    cases e'
    have he : b = g := he
    subst he
    exact hg _ _ hc
theorem DskP.setBox {w : World} {vs vp : Value} {d : Dk} (h : DskP w vs vp d) {g j : Nat} (hg : NoStr w g) (u : Value) : DskP (w.setCell ⟨g, j, none⟩ u) vs vp d :=
  ⟨h.sec.setBox hg u, h.pen.setBox hg u, h.z0, h.z1, h.f0, h.f1⟩
/-- A boxed disk is overwritten. -/
theorem DskP.set4 {w : World} {vs vp : Value} {d : Dk} (h : DskP w vs vp d) {g : Nat} {t : TypeId} {a b a' b' : Int} {A P A' P' : Option Addr} {n c m k n' c' m' k' : Nat} (hg : Blk w g t #[.int .i64 a, .slice A n c, .slice P m k, .int .i64 b]) :
    DskP ((((w.setCell ⟨g, 0, none⟩ (.int .i64 a')).setCell ⟨g, 1, none⟩ (.slice A' n' c')).setCell ⟨g, 2, none⟩ (.slice P' m' k')).setCell ⟨g, 3, none⟩ (.int .i64 b')) vs vp d :=
  (((h.setBox (nostr4 hg) _).setBox (nostr4 (hg.set 0 (.int .i64 a'))) _).setBox (nostr4 ((hg.set 0 (.int .i64 a')).set 1 (.slice A' n' c'))) _).setBox (nostr4 (((hg.set 0 (.int .i64 a')).set 1 (.slice A' n' c')).set 2 (.slice P' m' k'))) _
/-- Its Left alone is written. -/
theorem DskP.set3 {w : World} {vs vp : Value} {d : Dk} (h : DskP w vs vp d) {g : Nat} {t : TypeId} {a b : Int} {A P : Option Addr} {n c m k : Nat} (hg : Blk w g t #[.int .i64 a, .slice A n c, .slice P m k, .int .i64 b]) (j : Nat) (u : Value) :
    DskP (w.setCell ⟨g, j, none⟩ u) vs vp d := h.setBox (nostr4 hg) u
theorem Ints.setBox {w : World} {v : Value} {xs : List Int} (h : Ints w v xs) {g j : Nat} (u : Value) (hne : ∀ b off n c, v = .slice (some ⟨b, off, none⟩) n c → b ≠ g) : Ints (w.setCell ⟨g, j, none⟩ u) v xs := by
  obtain ⟨A, c, vs, rfl, h1, h2, h3, h4⟩ := h
  exact ⟨A, c, vs, rfl, h1, h2, h3.setNe u (fun b off e _ => by subst e; exact hne b off _ _ rfl), h4⟩

/-- Block g is a variable that holds a disk. -/
structure Var (w : World) (g : Nat) (A : Option Addr) (c : Nat) (P : Option Addr) (cp : Nat) (d : Dk) : Prop where
  blk : Blk w g 26 #[.int .i64 d.size, .slice A d.secs.length c, .slice P d.pend.length cp, .int .i64 d.left]
  dk : DskP w (.slice A d.secs.length c) (.slice P d.pend.length cp) d
section
variable {w w' : World} {g g' : Nat} {A A' : Option Addr} {c c' : Nat} {P P' : Option Addr} {cp cp' : Nat} {d d' : Dk}
theorem Var.keep (h : Var w g A c P cp d) (hb : Below w.heap.size w w') : Var w' g A c P cp d := ⟨h.blk.keep hb, h.dk.keep (Keeps.of_below hb)⟩
theorem Var.new (h : DskP w (.slice A d.secs.length c) (.slice P d.pend.length cp) d) :
    Var (w.alloc (.cells #[.int .i64 d.size, .slice A d.secs.length c, .slice P d.pend.length cp, .int .i64 d.left] 26)) w.heap.size A c P cp d := ⟨Blk.new _ _ _, h.keep (Keeps.alloc _ _)⟩
theorem Var.alloc (h : Var w g A c P cp d) (o : Obj) : Var (w.alloc o) g A c P cp d := ⟨h.blk.alloc o, h.dk.keep (Keeps.alloc _ _)⟩
theorem Var.facts (h : Var w g A c P cp d) :
    w.cell? ⟨g, 0, none⟩ = some (.int .i64 d.size) ∧ w.cell? ⟨g, 1, none⟩ = some (.slice A d.secs.length c) ∧ w.cell? ⟨g, 2, none⟩ = some (.slice P d.pend.length cp) ∧ w.cell? ⟨g, 3, none⟩ = some (.int .i64 d.left) ∧
      w.frozen? ⟨g, 0, none⟩ = false ∧ w.frozen? ⟨g, 1, none⟩ = false ∧ w.frozen? ⟨g, 2, none⟩ = false ∧ w.frozen? ⟨g, 3, none⟩ = false :=
  ⟨h.blk.cell (j := 0) rfl, h.blk.cell (j := 1) rfl, h.blk.cell (j := 2) rfl, h.blk.cell (j := 3) rfl, h.blk.frozen 0, h.blk.frozen 1, h.blk.frozen 2, h.blk.frozen 3⟩
/-- The world where a variable has been overwritten. -/
def put4 (w : World) (g : Nat) (A : Option Addr) (c : Nat) (P : Option Addr) (cp : Nat) (d : Dk) : World :=
  (((w.setCell ⟨g, 0, none⟩ (.int .i64 d.size)).setCell ⟨g, 1, none⟩ (.slice A d.secs.length c)).setCell ⟨g, 2, none⟩ (.slice P d.pend.length cp)).setCell ⟨g, 3, none⟩ (.int .i64 d.left)
theorem Var.assign (h : Var w g A c P cp d) (h' : DskP w (.slice A' d'.secs.length c') (.slice P' d'.pend.length cp') d') : Var (put4 w g A' c' P' cp' d') g A' c' P' cp' d' :=
  ⟨(((h.blk.set 0 _).set 1 _).set 2 _).set 3 _, h'.set4 h.blk⟩
theorem Var.other (h : Var w g A c P cp d) (k : Var w g' A' c' P' cp' d') (hne : g ≠ g') {A2 P2 : Option Addr} {c2 cp2 : Nat} {d2 : Dk} : Var (put4 w g' A2 c2 P2 cp2 d2) g A c P cp d :=
  ⟨(((h.blk.far (p := ⟨g', 0, none⟩) hne _).far (p := ⟨g', 1, none⟩) hne _).far (p := ⟨g', 2, none⟩) hne _).far (p := ⟨g', 3, none⟩) hne _, h.dk.set4 k.blk⟩
theorem put4_below {B : Nat} {a : World} (h : Below B a w) (hg : B ≤ g) : Below B a (put4 w g A c P cp d) := 
  (((h.setCell (p := ⟨g, 0, none⟩) hg _).setCell (p := ⟨g, 1, none⟩) hg _).setCell (p := ⟨g, 2, none⟩) hg _).setCell (p := ⟨g, 3, none⟩) hg _
theorem Var.left (h : Var w g A c P cp d) (l : Int) (h0 : -9223372036854775808 ≤ l) (h1 : l ≤ 9223372036854775807) : Var (w.setCell ⟨g, 3, none⟩ (.int .i64 l)) g A c P cp { d with left := l } :=
  ⟨h.blk.set 3 _, by have := h.dk.set3 h.blk 3 (.int .i64 l); exact ⟨this.sec, this.pen, this.z0, this.z1, h0, h1⟩⟩
theorem Var.far3 (h : Var w g A c P cp d) (k : Var w g' A' c' P' cp' d') (hne : g ≠ g') (j : Nat) (u : Value) : Var (w.setCell ⟨g', j, none⟩ u) g A c P cp d :=
  ⟨h.blk.far (p := ⟨g', j, none⟩) hne _, h.dk.set3 k.blk j u⟩
end
theorem DskP.form {w : World} {vs vp : Value} {d : Dk} (h : DskP w vs vp d) : ∃ A c P cp, vs = .slice A d.secs.length c ∧ vp = .slice P d.pend.length cp ∧ d.secs.length ≤ c ∧ d.pend.length ≤ cp ∧ c ≤ 9223372036854775807 ∧ cp ≤ 9223372036854775807 := by
  obtain ⟨A, c, rfl, h1, h2⟩ := h.sec.form
  obtain ⟨P, cp, rfl, h3, h4⟩ := h.pen.form
  exact ⟨A, c, P, cp, rfl, rfl, h1, h3, h2, h4⟩
end Go.Proofs.Ytpihapkclnhklaa
