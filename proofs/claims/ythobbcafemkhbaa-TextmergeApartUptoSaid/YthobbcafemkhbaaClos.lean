/- The state behind linediff.Diff's function literal: the hunks under way. -/
import Derived.Test.YthobbcafemkhbaaMid
namespace Go.Proofs.Ythobbcafemkhbaa
open Go.RowKit

section
variable {w w' w'' : World} {B : Nat}

/-- What lay below B is as it was; tables of int32 are as they were. -/
structure Fr (B : Nat) (w w' : World) : Prop where
  below : Below B w w'
  tab : ∀ g cs, Blk w g 21 cs → Blk w' g 21 cs
theorem Fr.refl (B : Nat) (w : World) : Fr B w w := ⟨Below.refl _ _, fun _ _ h => h⟩
theorem Fr.trans (h : Fr B w w') (k : Fr B w' w'') : Fr B w w'' := ⟨h.below.trans k.below, fun g cs x => k.tab g cs (h.tab g cs x)⟩
theorem Fr.alloc (h : Fr B w w') (hB : B ≤ w'.heap.size) (o : Obj) : Fr B w (w'.alloc o) := ⟨h.below.alloc hB o, fun g cs x => (h.tab g cs x).alloc o⟩
theorem Fr.drewN (h : Fr B w w') (n : Nat) : Fr B w (w'.drewN n) := ⟨below_drewN' h.below n, h.tab⟩
theorem Fr.drew (h : Fr B w w') : Fr B w w'.drew := ⟨h.below.drew, h.tab⟩
theorem Fr.set (h : Fr B w w') {g o : Nat} {t : TypeId} {cs : Array Value} (hg : Blk w' g t cs) (ht : t ≠ 21) (hB : B ≤ g) (v : Value) : Fr B w (w'.setCell ⟨g, o, none⟩ v) :=
  ⟨h.below.setCell hB v, fun g' cs' x => by
    have h1 := h.tab g' cs' x
    exact h1.far (p := ⟨g, o, none⟩) (fun e => hg.ne_type h1 ht e.symm) v⟩
theorem Fr.grown (h : Fr B w w') {e : TypeId} {size n : Nat} {v : Value} {xs : List Value} (ho : w'.ownsRow B e size v n xs) (ht : e ≠ 21) (hg : w'.grownBy w'' v.ownBlock) (hB : B ≤ w'.heap.size) : Fr B w w'' :=
  ⟨h.below.grown hg hB (fun k hk => (ho.lt k hk).1), fun g cs x => by
    have h1 := h.tab g cs x
    exact h1.grown hg (fun e => own_ne_type ho h1 ht e.symm)⟩

/-- The blocks that the function literal writes. -/
def Wm (bo ba bl gl : Nat) (vo vn : Value) : Nat → Prop := fun b => b = bo ∨ b = ba ∨ b = bl ∨ b = gl ∨ vo.ownBlock = some b ∨ vn.ownBlock = some b

/-- A hunk is open: the last of the row. -/
structure ClO (w : World) (B bo ba bl gl cap : Nat) (m : Nat) (done : List Hk) (n : Int) (vo vn : Value) (o e : List ByteArray) (cells : List Value) (cs : Array Value) : Prop where
  h1 : Blk w bo 4 #[.bool true]
  h2 : Blk w ba 3 #[.int .i64 m]
  h3 : Blk w bl 89 #[.slice (some ⟨gl, 0, none⟩) (done.length + 1) cap]
  h4 : Blk w gl 92 cs
  b1 : B ≤ bo
  b2 : B ≤ ba
  b3 : B ≤ bl
  b4 : B ≤ gl
  sz : cs.size = cap * 3
  le : done.length + 1 ≤ cap
  lm : cap ≤ maxLen
  tk : cs.toList.take (done.length * 3 + 3) = cells ++ [.int .i64 n, vo, vn]
  cl : cells.length = done.length * 3
  ho : Ow w B 9 1 Str1 vo o
  hn : Ow w B 9 1 Str1 vn e
  ne : ∀ b, vo.ownBlock = some b → vn.ownBlock ≠ some b
  st : Stab w (Wm bo ba bl gl vo vn) fun w' => Elems 3 (HkR w') done cells

/-- No hunk is open. -/
structure ClN (w : World) (B bo ba bl : Nat) (m : Nat) (done : List Hk) (vl : Value) (cells : List Value) : Prop where
  h1 : Blk w bo 4 #[.bool false]
  h2 : Blk w ba 3 #[.int .i64 m]
  h3 : Blk w bl 89 #[vl]
  b1 : B ≤ bo
  b2 : B ≤ ba
  b3 : B ≤ bl
  ow : w.ownsRow B 92 3 vl done.length cells
  st : Stab w (fun b => b = bo ∨ b = ba ∨ b = bl ∨ vl.ownBlock = some b) fun w' => Elems 3 (HkR w') done cells

variable {bo ba bl gl cap m : Nat} {done : List Hk} {n : Int} {vo vn : Value} {o e : List ByteArray} {cells : List Value} {cs : Array Value}

theorem three {l : List Value} {k : Nat} {cells : List Value} {a b c : Value} (h : l.take (k + 3) = cells ++ [a, b, c]) (hc : cells.length = k) : l[k]? = some a ∧ l[k + 1]? = some b ∧ l[k + 2]? = some c := by
  have h0 : ∀ j, j < 3 → l[k + j]? = [a, b, c][j]? := fun j hj => by
    have : (l.take (k + 3))[k + j]? = l[k + j]? := by rw [List.getElem?_take, if_pos (by omega)]
    rw [← this, h, List.getElem?_append_right (by omega)]
    congr 1; omega
  exact ⟨h0 0 (by omega), h0 1 (by omega), h0 2 (by omega)⟩
theorem three_set {l : List Value} {k : Nat} {cells : List Value} {a b c : Value} (h : l.take (k + 3) = cells ++ [a, b, c]) (hc : cells.length = k) (x : Value) :
    (l.set (k + 1) x).take (k + 3) = cells ++ [a, x, c] ∧ (l.set (k + 2) x).take (k + 3) = cells ++ [a, b, x] := by
  subst hc
  rw [List.take_set, List.take_set, h, List.set_append_right _ _ (by omega), List.set_append_right _ _ (by omega)]
  simp

theorem ClO.cells3 (h : ClO w B bo ba bl gl cap m done n vo vn o e cells cs) : w.cell? ⟨gl, done.length * 3, none⟩ = some (.int .i64 n) ∧ w.cell? ⟨gl, done.length * 3 + 1, none⟩ = some vo ∧ w.cell? ⟨gl, done.length * 3 + 2, none⟩ = some vn := by
  obtain ⟨a, b, c⟩ := three h.tk h.cl
  exact ⟨h.h4.cell (by simpa using a), h.h4.cell (by simpa using b), h.h4.cell (by simpa using c)⟩
theorem ClO.facts (h : ClO w B bo ba bl gl cap m done n vo vn o e cells cs) : w.cell? ⟨bo, 0, none⟩ = some (.bool true) ∧ w.cell? ⟨ba, 0, none⟩ = some (.int .i64 m) ∧ w.cell? ⟨bl, 0, none⟩ = some (.slice (some ⟨gl, 0, none⟩) (done.length + 1) cap) ∧
    w.frozen? ⟨bo, 0, none⟩ = false ∧ w.frozen? ⟨ba, 0, none⟩ = false ∧ w.frozen? ⟨bl, 0, none⟩ = false ∧ w.frozen? ⟨gl, done.length * 3 + 1, none⟩ = false ∧ w.frozen? ⟨gl, done.length * 3 + 2, none⟩ = false :=
  ⟨h.h1.cell rfl, h.h2.cell rfl, h.h3.cell rfl, h.h1.frozen _, h.h2.frozen _, h.h3.frozen _, h.h4.frozen _, h.h4.frozen _⟩
theorem ClN.facts {vl : Value} (h : ClN w B bo ba bl m done vl cells) : w.cell? ⟨bo, 0, none⟩ = some (.bool false) ∧ w.cell? ⟨ba, 0, none⟩ = some (.int .i64 m) ∧ w.cell? ⟨bl, 0, none⟩ = some vl ∧
    w.frozen? ⟨bo, 0, none⟩ = false ∧ w.frozen? ⟨ba, 0, none⟩ = false ∧ w.frozen? ⟨bl, 0, none⟩ = false :=
  ⟨h.h1.cell rfl, h.h2.cell rfl, h.h3.cell rfl, h.h1.frozen _, h.h2.frozen _, h.h3.frozen _⟩

theorem ClO.nes (h : ClO w B bo ba bl gl cap m done n vo vn o e cells cs) : (bo ≠ ba ∧ bo ≠ bl ∧ bo ≠ gl ∧ ba ≠ bl ∧ ba ≠ gl ∧ bl ≠ gl) ∧
    (vo.ownBlock ≠ some bo ∧ vo.ownBlock ≠ some ba ∧ vo.ownBlock ≠ some bl ∧ vo.ownBlock ≠ some gl) ∧ (vn.ownBlock ≠ some bo ∧ vn.ownBlock ≠ some ba ∧ vn.ownBlock ≠ some bl ∧ vn.ownBlock ≠ some gl) := by
  obtain ⟨vs, a1, _⟩ := h.ho
  obtain ⟨vs', a2, _⟩ := h.hn
  exact ⟨⟨h.h1.ne_type h.h2 (by decide), h.h1.ne_type h.h3 (by decide), h.h1.ne_type h.h4 (by decide), h.h2.ne_type h.h3 (by decide), h.h2.ne_type h.h4 (by decide), h.h3.ne_type h.h4 (by decide)⟩,
    ⟨own_ne_type a1 h.h1 (by decide), own_ne_type a1 h.h2 (by decide), own_ne_type a1 h.h3 (by decide), own_ne_type a1 h.h4 (by decide)⟩,
    ⟨own_ne_type a2 h.h1 (by decide), own_ne_type a2 h.h2 (by decide), own_ne_type a2 h.h3 (by decide), own_ne_type a2 h.h4 (by decide)⟩⟩

/-- 'at' has been moved on. -/
theorem ClO.at_ (h : ClO w B bo ba bl gl cap m done n vo vn o e cells cs) (m' : Nat) : ClO (w.setCell ⟨ba, 0, none⟩ (.int .i64 m')) B bo ba bl gl cap m' done n vo vn o e cells cs := by
  obtain ⟨⟨n1, n2, n3, n4, n5, n6⟩, ⟨p1, p2, p3, p4⟩, ⟨q1, q2, q3, q4⟩⟩ := h.nes
  have hA := Agree.set1 w ba 0 (.int .i64 m')
  exact ⟨h.h1.far (p := ⟨ba, 0, none⟩) n1 _, h.h2.set 0 _, h.h3.far (p := ⟨ba, 0, none⟩) n4.symm _, h.h4.far (p := ⟨ba, 0, none⟩) n5.symm _, h.b1, h.b2, h.b3, h.b4, h.sz, h.le, h.lm, h.tk, h.cl,
    h.ho.stab (M := fun b => b = ba) (fun g hg e => p2 (e ▸ hg)) _ hA, h.hn.stab (M := fun b => b = ba) (fun g hg e => q2 (e ▸ hg)) _ hA, h.ne, h.st.go (hA.mono fun b _ hb => .inr (.inl hb))⟩

/-- Lines have been appended to the old ones. -/
theorem ClO.old (h : ClO w B bo ba bl gl cap m done n vo vn o e cells cs) {v' : Value} {xs : List ByteArray} {ocells : List Value} (hel : Elems 1 Str1 o ocells) {k : Nat} (hk : k = xs.length)
    (hown : w'.ownsRow B 9 1 v' (o.length + k) (ocells ++ xs.map .string)) (hg : w.grownBy w' vo.ownBlock) (hv : v'.ownBlock = vo.ownBlock ∨ v'.ownBlock = some w.heap.size) :
    ClO (w'.setCell ⟨gl, done.length * 3 + 1, none⟩ v') B bo ba bl gl cap m done n v' vn (o ++ xs) e cells (cs.setIfInBounds (done.length * 3 + 1) v') := by
  obtain ⟨⟨n1, n2, n3, n4, n5, n6⟩, ⟨p1, p2, p3, p4⟩, ⟨q1, q2, q3, q4⟩⟩ := h.nes
  have e1 := h.h1.grown hg p1.symm
  have e2 := h.h2.grown hg p2.symm
  have e3 := h.h3.grown hg p3.symm
  have e4 := h.h4.grown hg p4.symm
  have hA := Agree.set1 w' gl (done.length * 3 + 1) v'
  have hG : Agree (fun b => vo.ownBlock = some b) w w' := Agree.of_grown hg fun g hg => hg
  have hAll : Agree (fun b => b = gl ∨ vo.ownBlock = some b) w (w'.setCell ⟨gl, done.length * 3 + 1, none⟩ v') := (hG.mono fun b _ hb => .inr hb).trans (hA.mono fun b _ hb => .inl hb)
  have hnew := own_ne_type hown e4 (by decide)
  have hn2 := (h.hn.stab (M := fun b => b = gl ∨ vo.ownBlock = some b) (by
    rintro g hg (rfl | h1)
    · exact q4 hg
    · exact h.ne g h1 hg)) _ hAll
  have hnb : ∀ b, vn.ownBlock = some b → b < w.heap.size := fun b hb => by
    obtain ⟨vs, a, _⟩ := h.hn
    exact (a.lt b hb).2
  have hv' : ∀ b, b < w.heap.size → v'.ownBlock = some b → vo.ownBlock = some b := fun b hb hvb => by
    rcases hv with h1 | h1
    · rw [← h1]; exact hvb
    · rw [h1] at hvb; simp at hvb; omega
  refine ⟨e1.far (p := ⟨gl, _, none⟩) n3 _, e2.far (p := ⟨gl, _, none⟩) n5 _, e3.far (p := ⟨gl, _, none⟩) n6 _, e4.set _ _, h.b1, h.b2, h.b3, h.b4, by rw [Array.size_setIfInBounds]; exact h.sz, h.le, h.lm, ?_, h.cl, ?_, hn2, ?_, ?_⟩
  · rw [Array.toList_setIfInBounds]; exact (three_set h.tk h.cl v').1
  · refine ⟨ocells ++ xs.map .string, ?_, hel.append ?_⟩
    · have := own_stab hown (M := fun b => b = gl) (fun g hg e => hnew (e ▸ hg)) _ hA
      rw [List.length_append, ← hk]; exact this
    · clear hk hown
      induction xs with
      | nil => rfl
      | cons x xs ih => exact ⟨[.string x], _, rfl, rfl, rfl, ih⟩
  · exact fun b h1 h3 => h.ne b (hv' b (hnb b h3) h1) h3
  · refine h.st.shift (hAll.mono ?_) ?_
    · rintro b _ (h1 | h1)
      · exact .inr (.inr (.inr (.inl h1)))
      · exact .inr (.inr (.inr (.inr (.inl h1))))
    · rintro b hb (h1 | h1 | h1 | h1 | h1 | h1)
      · exact .inl h1
      · exact .inr (.inl h1)
      · exact .inr (.inr (.inl h1))
      · exact .inr (.inr (.inr (.inl h1)))
      · exact .inr (.inr (.inr (.inr (.inl (hv' b hb h1)))))
      · exact .inr (.inr (.inr (.inr (.inr h1))))

/-- Lines have been appended to the new ones. -/
theorem ClO.new (h : ClO w B bo ba bl gl cap m done n vo vn o e cells cs) {v' : Value} {xs : List ByteArray} {ocells : List Value} (hel : Elems 1 Str1 e ocells) {k : Nat} (hk : k = xs.length)
    (hown : w'.ownsRow B 9 1 v' (e.length + k) (ocells ++ xs.map .string)) (hg : w.grownBy w' vn.ownBlock) (hv : v'.ownBlock = vn.ownBlock ∨ v'.ownBlock = some w.heap.size) :
    ClO (w'.setCell ⟨gl, done.length * 3 + 2, none⟩ v') B bo ba bl gl cap m done n vo v' o (e ++ xs) cells (cs.setIfInBounds (done.length * 3 + 2) v') := by
  obtain ⟨⟨n1, n2, n3, n4, n5, n6⟩, ⟨p1, p2, p3, p4⟩, ⟨q1, q2, q3, q4⟩⟩ := h.nes
  have e1 := h.h1.grown hg q1.symm
  have e2 := h.h2.grown hg q2.symm
  have e3 := h.h3.grown hg q3.symm
  have e4 := h.h4.grown hg q4.symm
  have hA := Agree.set1 w' gl (done.length * 3 + 2) v'
  have hG : Agree (fun b => vn.ownBlock = some b) w w' := Agree.of_grown hg fun g hg => hg
  have hAll : Agree (fun b => b = gl ∨ vn.ownBlock = some b) w (w'.setCell ⟨gl, done.length * 3 + 2, none⟩ v') := (hG.mono fun b _ hb => .inr hb).trans (hA.mono fun b _ hb => .inl hb)
  have hnew := own_ne_type hown e4 (by decide)
  have hn2 := (h.ho.stab (M := fun b => b = gl ∨ vn.ownBlock = some b) (by
    rintro g hg (rfl | h1)
    · exact p4 hg
    · exact h.ne g hg h1)) _ hAll
  have hnb : ∀ b, vo.ownBlock = some b → b < w.heap.size := fun b hb => by
    obtain ⟨vs, a, _⟩ := h.ho
    exact (a.lt b hb).2
  have hv' : ∀ b, b < w.heap.size → v'.ownBlock = some b → vn.ownBlock = some b := fun b hb hvb => by
    rcases hv with h1 | h1
    · rw [← h1]; exact hvb
    · rw [h1] at hvb; simp at hvb; omega
  refine ⟨e1.far (p := ⟨gl, _, none⟩) n3 _, e2.far (p := ⟨gl, _, none⟩) n5 _, e3.far (p := ⟨gl, _, none⟩) n6 _, e4.set _ _, h.b1, h.b2, h.b3, h.b4, by rw [Array.size_setIfInBounds]; exact h.sz, h.le, h.lm, ?_, h.cl, hn2, ?_, ?_, ?_⟩
  · rw [Array.toList_setIfInBounds]; exact (three_set h.tk h.cl v').2
  · refine ⟨ocells ++ xs.map .string, ?_, hel.append ?_⟩
    · have := own_stab hown (M := fun b => b = gl) (fun g hg e => hnew (e ▸ hg)) _ hA
      rw [List.length_append, ← hk]; exact this
    · clear hk hown
      induction xs with
      | nil => rfl
      | cons x xs ih => exact ⟨[.string x], _, rfl, rfl, rfl, ih⟩
  · exact fun b h1 h3 => h.ne b h1 (hv' b (hnb b h1) h3)
  · refine h.st.shift (hAll.mono ?_) ?_
    · rintro b _ (h1 | h1)
      · exact .inr (.inr (.inr (.inl h1)))
      · exact .inr (.inr (.inr (.inr (.inr h1))))
    · rintro b hb (h1 | h1 | h1 | h1 | h1 | h1)
      · exact .inl h1
      · exact .inr (.inl h1)
      · exact .inr (.inr (.inl h1))
      · exact .inr (.inr (.inr (.inl h1)))
      · exact .inr (.inr (.inr (.inr (.inl h1))))
      · exact .inr (.inr (.inr (.inr (.inr (hv' b hb h1)))))

/-- The open hunk is shut; 'at' is moved on. -/
theorem ClO.shut (h : ClO w B bo ba bl gl cap m done n vo vn o e cells cs) (hn0 : -9223372036854775808 ≤ n) (hn1 : n ≤ 9223372036854775807) (m' : Nat) :
    ClN ((w.setCell ⟨bo, 0, none⟩ (.bool false)).setCell ⟨ba, 0, none⟩ (.int .i64 m')) B bo ba bl m' (done ++ [(n, o, e)]) (.slice (some ⟨gl, 0, none⟩) (done.length + 1) cap) (cells ++ [.int .i64 n, vo, vn]) := by
  obtain ⟨⟨n1, n2, n3, n4, n5, n6⟩, ⟨p1, p2, p3, p4⟩, ⟨q1, q2, q3, q4⟩⟩ := h.nes
  have hA : Agree (fun b => b = bo ∨ b = ba) w ((w.setCell ⟨bo, 0, none⟩ (.bool false)).setCell ⟨ba, 0, none⟩ (.int .i64 m')) :=
    ((Agree.set1 w bo 0 (.bool false)).mono fun b _ h => .inl h).trans ((Agree.set1 _ ba 0 (.int .i64 m')).mono fun b _ h => .inr h)
  refine ⟨(h.h1.set 0 _).far (p := ⟨ba, 0, none⟩) n1 _, (h.h2.far (p := ⟨bo, 0, none⟩) n1.symm _).set 0 _, (h.h3.far (p := ⟨bo, 0, none⟩) n2.symm _).far (p := ⟨ba, 0, none⟩) n4.symm _, h.b1, h.b2, h.b3, ?_, ?_⟩
  · have h4 := (h.h4.far (p := ⟨bo, 0, none⟩) n3.symm (.bool false)).far (p := ⟨ba, 0, none⟩) n5.symm (.int .i64 m')
    have := h4.own h.b4 h.sz h.lm h.le
    rw [Nat.add_mul, Nat.one_mul, h.tk] at this
    simpa using this
  · have s1 := h.ho.stab (M := fun b => b = bo ∨ b = ba ∨ b = bl ∨ b = gl) (by
      rintro g hg (rfl | rfl | rfl | rfl)
      · exact p1 hg
      · exact p2 hg
      · exact p3 hg
      · exact p4 hg)
    have s2 := h.hn.stab (M := fun b => b = bo ∨ b = ba ∨ b = bl ∨ b = gl) (by
      rintro g hg (rfl | rfl | rfl | rfl)
      · exact q1 hg
      · exact q2 hg
      · exact q3 hg
      · exact q4 hg)
    have s3 := h.st.mono (M' := fun b => b = bo ∨ b = ba ∨ b = bl ∨ b = gl) (by
      rintro b _ (h1 | h1 | h1 | h1)
      · exact .inl h1
      · exact .inr (.inl h1)
      · exact .inr (.inr (.inl h1))
      · exact .inr (.inr (.inr (.inl h1))))
    have s4 : Stab w (fun b => b = bo ∨ b = ba ∨ b = bl ∨ b = gl) fun w' => Elems 3 (HkR w') (done ++ [(n, o, e)]) (cells ++ [.int .i64 n, vo, vn]) :=
      ((s1.both s2).both s3).imp fun w2 ⟨⟨a1, a2⟩, a3⟩ => a3.append (Elems.one ⟨vo, vn, rfl, a1.sl, a2.sl, hn0, hn1⟩ rfl)
    refine s4.shift (hA.mono ?_) ?_
    · rintro b _ (h1 | h1)
      · exact .inl h1
      · exact .inr (.inl h1)
    · rintro b _ (h1 | h1 | h1 | h1)
      · exact .inl h1
      · exact .inr (.inl h1)
      · exact .inr (.inr (.inl h1))
      · refine .inr (.inr (.inr ?_))
        simp [Value.ownBlock] at h1
        exact h1.symm

variable {vl : Value}
theorem ClN.nes (h : ClN w B bo ba bl m done vl cells) : (bo ≠ ba ∧ bo ≠ bl ∧ ba ≠ bl) ∧ (vl.ownBlock ≠ some bo ∧ vl.ownBlock ≠ some ba ∧ vl.ownBlock ≠ some bl) :=
  ⟨⟨h.h1.ne_type h.h2 (by decide), h.h1.ne_type h.h3 (by decide), h.h2.ne_type h.h3 (by decide)⟩, ⟨own_ne_type h.ow h.h1 (by decide), own_ne_type h.ow h.h2 (by decide), own_ne_type h.ow h.h3 (by decide)⟩⟩
/-- No hunk is open, a line is kept. -/
theorem ClN.keep (h : ClN w B bo ba bl m done vl cells) (m' : Nat) : ClN ((w.setCell ⟨bo, 0, none⟩ (.bool false)).setCell ⟨ba, 0, none⟩ (.int .i64 m')) B bo ba bl m' done vl cells := by
  obtain ⟨⟨n1, n2, n3⟩, ⟨p1, p2, p3⟩⟩ := h.nes
  have hA : Agree (fun b => b = bo ∨ b = ba) w ((w.setCell ⟨bo, 0, none⟩ (.bool false)).setCell ⟨ba, 0, none⟩ (.int .i64 m')) :=
    ((Agree.set1 w bo 0 (.bool false)).mono fun b _ h => .inl h).trans ((Agree.set1 _ ba 0 (.int .i64 m')).mono fun b _ h => .inr h)
  refine ⟨(h.h1.set 0 _).far (p := ⟨ba, 0, none⟩) n1 _, (h.h2.far (p := ⟨bo, 0, none⟩) n1.symm _).set 0 _, (h.h3.far (p := ⟨bo, 0, none⟩) n2.symm _).far (p := ⟨ba, 0, none⟩) n3.symm _, h.b1, h.b2, h.b3, own_stab h.ow ?_ _ hA, h.st.go (hA.mono ?_)⟩
  · rintro g hg (rfl | rfl)
    · exact p1 hg
    · exact p2 hg
  · rintro b _ (h1 | h1)
    · exact .inl h1
    · exact .inr (.inl h1)
/-- A hunk is opened. -/
theorem ClN.open_ (h : ClN w B bo ba bl m done vl cells) {v' : Value} {ob : Obj} (hown : w'.ownsRow B 92 3 v' (done.length + 1) (cells ++ [.int .i64 m, .slice none 0 0, .slice none 0 0]))
    (hg : (w.alloc ob).grownBy w' vl.ownBlock) (hv : v'.ownBlock = vl.ownBlock ∨ v'.ownBlock = some (w.alloc ob).heap.size) :
    ∃ gl cap cs, v' = .slice (some ⟨gl, 0, none⟩) (done.length + 1) cap ∧ ClO ((w'.setCell ⟨bl, 0, none⟩ v').setCell ⟨bo, 0, none⟩ (.bool true)) B bo ba bl gl cap m done m (.slice none 0 0) (.slice none 0 0) [] [] cells cs := by
  obtain ⟨⟨n1, n2, n3⟩, ⟨p1, p2, p3⟩⟩ := h.nes
  have e1 := (h.h1.alloc ob).grown hg p1.symm
  have e2 := (h.h2.alloc ob).grown hg p2.symm
  have e3 := (h.h3.alloc ob).grown hg p3.symm
  have cl : cells.length = done.length * 3 := h.ow.1
  rcases hown.2 with ⟨_, h0⟩ | ⟨gl, cap, cs, rfl, g1, g2, g3, g4, g5, g6⟩
  · omega
  have e4 : Blk w' gl 92 cs := g2
  have k1 : gl ≠ bo := e4.ne_type e1 (by decide)
  have k2 : gl ≠ bl := e4.ne_type e3 (by decide)
  have hA : Agree (fun b => b = bo ∨ b = bl ∨ vl.ownBlock = some b) w ((w'.setCell ⟨bl, 0, none⟩ (.slice (some ⟨gl, 0, none⟩) (done.length + 1) cap)).setCell ⟨bo, 0, none⟩ (.bool true)) :=
    (Agree.alloc w ob).trans ((Agree.of_grown hg fun g hg => .inr (.inr hg)).trans (((Agree.set1 w' bl 0 _).mono fun b _ h => .inr (.inl h)).trans ((Agree.set1 _ bo 0 (.bool true)).mono fun b _ h => .inl h)))
  refine ⟨gl, cap, cs, rfl, (e1.far (p := ⟨bl, 0, none⟩) n2 _).set 0 _, (e2.far (p := ⟨bl, 0, none⟩) n3 _).far (p := ⟨bo, 0, none⟩) n1.symm _, (e3.set 0 _).far (p := ⟨bo, 0, none⟩) n2.symm _, (e4.far (p := ⟨bl, 0, none⟩) k2 _).far (p := ⟨bo, 0, none⟩) k1 _,
    h.b1, h.b2, h.b3, g1, g5, g3, g4, ?_, cl, Ow.nil _ _ _ _ _, Ow.nil _ _ _ _ _, by simp [Value.ownBlock], h.st.shift (hA.mono ?_) ?_⟩
  · rw [← g6, Nat.add_mul, Nat.one_mul]
  · rintro b _ (h1 | h1 | h1)
    · exact .inl h1
    · exact .inr (.inr (.inl h1))
    · exact .inr (.inr (.inr h1))
  · rintro b hb (h1 | h1 | h1 | h1 | h1 | h1)
    · exact .inl h1
    · exact .inr (.inl h1)
    · exact .inr (.inr (.inl h1))
    · refine .inr (.inr (.inr ?_))
      subst h1
      rcases hv with h2 | h2
      · rw [← h2]; rfl
      · simp [Value.ownBlock] at h2
        omega
    · simp [Value.ownBlock] at h1
    · simp [Value.ownBlock] at h1
theorem ClN.fin (h : ClN w B bo ba bl m done vl cells) : Ow w B 92 3 (HkR w) vl done := ⟨cells, h.ow, h.st.now⟩
theorem ClO.fin (h : ClO w B bo ba bl gl cap m done n vo vn o e cells cs) (hn0 : -9223372036854775808 ≤ n) (hn1 : n ≤ 9223372036854775807) :
    Ow w B 92 3 (HkR w) (.slice (some ⟨gl, 0, none⟩) (done.length + 1) cap) (done ++ [(n, o, e)]) := by
  have := h.h4.own h.b4 h.sz h.lm h.le
  rw [Nat.add_mul, Nat.one_mul, h.tk] at this
  exact ⟨_, by simpa using this, h.st.now.append (Elems.one ⟨vo, vn, rfl, h.ho.sl, h.hn.sl, hn0, hn1⟩ rfl)⟩
end
end Go.Proofs.Ythobbcafemkhbaa
