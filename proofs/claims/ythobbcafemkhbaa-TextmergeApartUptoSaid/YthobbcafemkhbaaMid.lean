/- cordwoodref18.middle: the hunks of two lists without a common beginning and end. -/
import Derived.Test.YthobbcafemkhbaaRtable
import Derived.Deep.RegionLaw
import Derived.Deep.DeepMust
namespace Go.Proofs.Ythobbcafemkhbaa
open Go.RowKit

theorem Try.info_str : (Try.prog.info? 9).map (fun i => (i.zero, i.size, i.bytes)) = some (some (.string ByteArray.empty), 1, 16) := by kernel_rfl
theorem Try.info_hunk : (Try.prog.info? 92).map (fun i => (i.zero, i.size, i.bytes)) = some (some (.agg #[.int .i64 0, .slice none 0 0, .slice none 0 0]), 3, 56) := by kernel_rfl

/-- The blocks that the making of hunks writes. -/
def Wr (bh : Nat) (vout vo vn : Value) : Nat → Prop := fun b => b = bh ∨ vout.ownBlock = some b ∨ vo.ownBlock = some b ∨ vn.ownBlock = some b

/-- The hunks that are made so far, and the one under way: in block bh. -/
structure MidSt (w : World) (B bh : Nat) (vout : Value) (done : List Hk) (n : Int) (vo vn : Value) (o e : List ByteArray) : Prop where
  hb : Blk w bh 92 #[.int .i64 n, vo, vn]
  hB : B ≤ bh
  ho : Ow w B 9 1 Str1 vo o
  hn : Ow w B 9 1 Str1 vn e
  out : ∃ cells, w.ownsRow B 92 3 vout done.length cells ∧ Stab w (Wr bh vout vo vn) fun w' => Elems 3 (HkR w') done cells
  ne1 : vo.ownBlock ≠ some bh
  ne2 : vn.ownBlock ≠ some bh
  ne3 : vout.ownBlock ≠ some bh
  ne4 : ∀ b, vo.ownBlock = some b → vn.ownBlock ≠ some b
  ne5 : ∀ b, vo.ownBlock = some b → vout.ownBlock ≠ some b
  ne6 : ∀ b, vn.ownBlock = some b → vout.ownBlock ≠ some b

section
variable {w w' : World} {B bh : Nat} {vout vo vn : Value} {done : List Hk} {n : Int} {o e : List ByteArray}

theorem MidSt.drewN (h : MidSt w B bh vout done n vo vn o e) (k : Nat) : MidSt (w.drewN k) B bh vout done n vo vn o e :=
  ⟨h.hb, h.hB, h.ho, h.hn, (by obtain ⟨cells, h1, h2⟩ := h.out; exact ⟨cells, h1, fun w' k => h2 w' ⟨k.size, k.block⟩⟩), h.ne1, h.ne2, h.ne3, h.ne4, h.ne5, h.ne6⟩
theorem MidSt.facts (h : MidSt w B bh vout done n vo vn o e) : w.cell? ⟨bh, 0, none⟩ = some (.int .i64 n) ∧ w.cell? ⟨bh, 1, none⟩ = some vo ∧ w.cell? ⟨bh, 2, none⟩ = some vn ∧ w.frozen? ⟨bh, 0, none⟩ = false ∧ w.frozen? ⟨bh, 1, none⟩ = false ∧ w.frozen? ⟨bh, 2, none⟩ = false :=
  ⟨h.hb.cell rfl, h.hb.cell rfl, h.hb.cell rfl, h.hb.frozen 0, h.hb.frozen 1, h.hb.frozen 2⟩
theorem blk3 {a b c : Value} (h : Blk w bh 92 #[a, b, c]) : w.cell? ⟨bh, 0, none⟩ = some a ∧ w.cell? ⟨bh, 1, none⟩ = some b ∧ w.cell? ⟨bh, 2, none⟩ = some c ∧ w.frozen? ⟨bh, 0, none⟩ = false ∧ w.frozen? ⟨bh, 1, none⟩ = false ∧ w.frozen? ⟨bh, 2, none⟩ = false :=
  ⟨h.cell rfl, h.cell rfl, h.cell rfl, h.frozen 0, h.frozen 1, h.frozen 2⟩
theorem MidSt.lt (h : MidSt w B bh vout done n vo vn o e) : bh < w.heap.size ∧ (∀ b, vout.ownBlock = some b → b < w.heap.size) ∧ (∀ b, vo.ownBlock = some b → b < w.heap.size) ∧ (∀ b, vn.ownBlock = some b → b < w.heap.size) := by
  obtain ⟨cells, h1, _⟩ := h.out
  obtain ⟨vs, h2, _⟩ := h.ho
  obtain ⟨vs', h3, _⟩ := h.hn
  exact ⟨h.hb.lt, fun b hb => (h1.lt b hb).2, fun b hb => (h2.lt b hb).2, fun b hb => (h3.lt b hb).2⟩

/-- An element has been appended to the old lines. -/
theorem MidSt.old (h : MidSt w B bh vout done n vo vn o e) {v' : Value} {x : ByteArray} (hA : Agree (fun b => b = bh ∨ vo.ownBlock = some b) w w')
    (hb : Blk w' bh 92 #[.int .i64 n, v', vn]) (ho : Ow w' B 9 1 Str1 v' (o ++ [x])) (hv : v'.ownBlock = vo.ownBlock ∨ ∀ b, v'.ownBlock = some b → w.heap.size ≤ b) :
    MidSt w' B bh vout done n v' vn (o ++ [x]) e := by
  obtain ⟨l1, l2, l3, l4⟩ := h.lt
  have hv' : ∀ b, b < w.heap.size → v'.ownBlock = some b → vo.ownBlock = some b := fun b hb hvb => by
    rcases hv with h1 | h1
    · rw [← h1]; exact hvb
    · have := h1 b hvb; omega
  obtain ⟨cells, h1, h2⟩ := h.out
  refine ⟨hb, h.hB, ho, (h.hn.stab (M := fun b => b = bh ∨ vo.ownBlock = some b) ?_) w' hA, ⟨cells, (own_stab h1 (M := fun b => b = bh ∨ vo.ownBlock = some b) ?_) w' hA, h2.shift (hA.mono ?_) ?_⟩, ?_, h.ne2, h.ne3, ?_, ?_, h.ne6⟩
  · rintro g hg (rfl | h1)
    · exact h.ne2 hg
    · exact h.ne4 g h1 hg
  · rintro g hg (rfl | h1)
    · exact h.ne3 hg
    · exact h.ne5 g h1 hg
  · rintro b _ (h1 | h1)
    · exact .inl h1
    · exact .inr (.inr (.inl h1))
  · rintro b hb (h1 | h1 | h1 | h1)
    · exact .inl h1
    · exact .inr (.inl h1)
    · exact .inr (.inr (.inl (hv' b hb h1)))
    · exact .inr (.inr (.inr h1))
  · exact fun h1 => h.ne1 (hv' _ l1 h1)
  · exact fun b h1 h3 => h.ne4 b (hv' b (l4 b h3) h1) h3
  · exact fun b h1 h3 => h.ne5 b (hv' b (l2 b h3) h1) h3

/-- An element has been appended to the new lines. -/
theorem MidSt.new (h : MidSt w B bh vout done n vo vn o e) {v' : Value} {x : ByteArray} (hA : Agree (fun b => b = bh ∨ vn.ownBlock = some b) w w')
    (hb : Blk w' bh 92 #[.int .i64 n, vo, v']) (ho : Ow w' B 9 1 Str1 v' (e ++ [x])) (hv : v'.ownBlock = vn.ownBlock ∨ ∀ b, v'.ownBlock = some b → w.heap.size ≤ b) :
    MidSt w' B bh vout done n vo v' o (e ++ [x]) := by
  obtain ⟨l1, l2, l3, l4⟩ := h.lt
  have hv' : ∀ b, b < w.heap.size → v'.ownBlock = some b → vn.ownBlock = some b := fun b hb hvb => by
    rcases hv with h1 | h1
    · rw [← h1]; exact hvb
    · have := h1 b hvb; omega
  obtain ⟨cells, h1, h2⟩ := h.out
  refine ⟨hb, h.hB, (h.ho.stab (M := fun b => b = bh ∨ vn.ownBlock = some b) ?_) w' hA, ho, ⟨cells, (own_stab h1 (M := fun b => b = bh ∨ vn.ownBlock = some b) ?_) w' hA, h2.shift (hA.mono ?_) ?_⟩, h.ne1, ?_, h.ne3, ?_, h.ne5, ?_⟩
  · rintro g hg (rfl | h1)
    · exact h.ne1 hg
    · exact h.ne4 g hg h1
  · rintro g hg (rfl | h1)
    · exact h.ne3 hg
    · exact h.ne6 g h1 hg
  · rintro b _ (h1 | h1)
    · exact .inl h1
    · exact .inr (.inr (.inr h1))
  · rintro b hb (h1 | h1 | h1 | h1)
    · exact .inl h1
    · exact .inr (.inl h1)
    · exact .inr (.inr (.inl h1))
    · exact .inr (.inr (.inr (hv' b hb h1)))
  · exact fun h1 => h.ne2 (hv' _ l1 h1)
  · exact fun b h1 h3 => h.ne4 b h1 (hv' b (l3 b h1) h3)
  · exact fun b h1 h3 => h.ne6 b (hv' b (l2 b h3) h1) h3

/-- The hunk under way has been dropped, a new one begun. -/
theorem MidSt.reset (h : MidSt w B bh vout done n vo vn o e) {n' : Int} (hA : Agree (fun b => b = bh) w w') (hb : Blk w' bh 92 #[.int .i64 n', .slice none 0 0, .slice none 0 0]) :
    MidSt w' B bh vout done n' (.slice none 0 0) (.slice none 0 0) [] [] := by
  obtain ⟨cells, h1, h2⟩ := h.out
  refine ⟨hb, h.hB, Ow.nil _ _ _ _ _, Ow.nil _ _ _ _ _, ⟨cells, (own_stab h1 (M := fun b => b = bh) ?_) w' hA, h2.shift (hA.mono fun b _ h1 => .inl h1) ?_⟩, by simp [Value.ownBlock], by simp [Value.ownBlock], h.ne3, by simp [Value.ownBlock], by simp [Value.ownBlock], by simp [Value.ownBlock]⟩
  · rintro g hg rfl
    exact h.ne3 hg
  · rintro b _ (h1 | h1 | h1 | h1)
    · exact .inl h1
    · exact .inr (.inl h1)
    · simp [Value.ownBlock] at h1
    · simp [Value.ownBlock] at h1

/-- What is stable of the hunks, with the one under way. -/
theorem MidSt.stab (h : MidSt w B bh vout done n vo vn o e) (hn0 : -9223372036854775808 ≤ n) (hn1 : n ≤ 9223372036854775807) {cells : List Value} (hs : Stab w (Wr bh vout vo vn) fun w' => Elems 3 (HkR w') done cells) :
    Stab w (fun b => b = bh ∨ vout.ownBlock = some b) fun w' => Elems 3 (HkR w') (done ++ [(n, o, e)]) (cells ++ [.int .i64 n, vo, vn]) := by
  have s1 := h.ho.stab (M := fun b => b = bh ∨ vout.ownBlock = some b) (by
    rintro g hg (rfl | h1)
    · exact h.ne1 hg
    · exact h.ne5 g hg h1)
  have s2 := h.hn.stab (M := fun b => b = bh ∨ vout.ownBlock = some b) (by
    rintro g hg (rfl | h1)
    · exact h.ne2 hg
    · exact h.ne6 g hg h1)
  have s3 := hs.mono (M' := fun b => b = bh ∨ vout.ownBlock = some b) (by
    rintro b _ (h1 | h1)
    · exact .inl h1
    · exact .inr (.inl h1))
  exact ((s1.both s2).both s3).imp fun w2 ⟨⟨a1, a2⟩, a3⟩ => a3.append (Elems.one ⟨vo, vn, rfl, a1.sl, a2.sl, hn0, hn1⟩ rfl)

/-- The hunk under way has been appended to the others, a new one begun. -/
theorem MidSt.push (h : MidSt w B bh vout done n vo vn o e) {v' : Value} {n' : Int} {cells : List Value} (hs : Stab w (Wr bh vout vo vn) fun w' => Elems 3 (HkR w') done cells)
    (hn0 : -9223372036854775808 ≤ n) (hn1 : n ≤ 9223372036854775807) (hA : Agree (fun b => b = bh ∨ vout.ownBlock = some b) w w') (hb : Blk w' bh 92 #[.int .i64 n', .slice none 0 0, .slice none 0 0])
    (ho : w'.ownsRow B 92 3 v' (done.length + 1) (cells ++ [.int .i64 n, vo, vn])) (hv : v'.ownBlock = vout.ownBlock ∨ ∀ b, v'.ownBlock = some b → w.heap.size ≤ b) :
    MidSt w' B bh v' (done ++ [(n, o, e)]) n' (.slice none 0 0) (.slice none 0 0) [] [] := by
  obtain ⟨l1, l2, l3, l4⟩ := h.lt
  have hv' : ∀ b, b < w.heap.size → v'.ownBlock = some b → vout.ownBlock = some b := fun b hb hvb => by
    rcases hv with h1 | h1
    · rw [← h1]; exact hvb
    · have := h1 b hvb; omega
  refine ⟨hb, h.hB, Ow.nil _ _ _ _ _, Ow.nil _ _ _ _ _, ⟨_, by simpa using ho, (h.stab hn0 hn1 hs).shift hA ?_⟩, by simp [Value.ownBlock], by simp [Value.ownBlock], fun h1 => h.ne3 (hv' _ l1 h1), by simp [Value.ownBlock], by simp [Value.ownBlock], by simp [Value.ownBlock]⟩
  rintro b hb (h1 | h1 | h1 | h1)
  · exact .inl h1
  · exact .inr (hv' b hb h1)
  · simp [Value.ownBlock] at h1
  · simp [Value.ownBlock] at h1

/-- .. and no new one begun: the hunks read. -/
theorem MidSt.last (h : MidSt w B bh vout done n vo vn o e) {v' : Value} {cells : List Value} (hs : Stab w (Wr bh vout vo vn) fun w' => Elems 3 (HkR w') done cells)
    (hn0 : -9223372036854775808 ≤ n) (hn1 : n ≤ 9223372036854775807) (hA : Agree (fun b => b = bh ∨ vout.ownBlock = some b) w w')
    (ho : w'.ownsRow B 92 3 v' (done.length + 1) (cells ++ [.int .i64 n, vo, vn])) : Ow w' B 92 3 (HkR w') v' (done ++ [(n, o, e)]) :=
  ⟨_, by simpa using ho, (h.stab hn0 hn1 hs) w' hA⟩
theorem set3 (w : World) {a b c : Value} (h : Blk w bh 92 #[a, b, c]) (x y z : Value) :
    Blk (((w.setCell ⟨bh, 0, none⟩ x).setCell ⟨bh, 1, none⟩ y).setCell ⟨bh, 2, none⟩ z) bh 92 #[x, y, z] ∧ Agree (fun b => b = bh) w (((w.setCell ⟨bh, 0, none⟩ x).setCell ⟨bh, 1, none⟩ y).setCell ⟨bh, 2, none⟩ z) :=
  ⟨((h.set 0 x).set 1 y).set 2 z, ((Agree.setCell (M := fun b => b = bh) w (p := ⟨bh, 0, none⟩) rfl x).trans (Agree.setCell (M := fun b => b = bh) _ (p := ⟨bh, 1, none⟩) rfl y)).trans (Agree.setCell (M := fun b => b = bh) _ (p := ⟨bh, 2, none⟩) rfl z)⟩
theorem set3_below {B' : Nat} {w0 : World} (h : Below B' w0 w) (hb : B' ≤ bh) (x y z : Value) : Below B' w0 (((w.setCell ⟨bh, 0, none⟩ x).setCell ⟨bh, 1, none⟩ y).setCell ⟨bh, 2, none⟩ z) :=
  ((h.setCell (p := ⟨bh, 0, none⟩) hb x).setCell (p := ⟨bh, 1, none⟩) hb y).setCell (p := ⟨bh, 2, none⟩) hb z
theorem MidSt.push2 (h : MidSt w B bh vout done n vo vn o e) {v' : Value} (n' : Int) {cells : List Value} (hs : Stab w (Wr bh vout vo vn) fun w' => Elems 3 (HkR w') done cells)
    (hn0 : -9223372036854775808 ≤ n) (hn1 : n ≤ 9223372036854775807) {ob : Obj} (ho : w'.ownsRow B 92 3 v' (done.length + 1) (cells ++ [.int .i64 n, vo, vn]))
    (hg : (w.alloc ob).grownBy w' vout.ownBlock) (hv : v'.ownBlock = vout.ownBlock ∨ v'.ownBlock = some (w.alloc ob).heap.size) :
    MidSt (((w'.setCell ⟨bh, 0, none⟩ (.int .i64 n')).setCell ⟨bh, 1, none⟩ (.slice none 0 0)).setCell ⟨bh, 2, none⟩ (.slice none 0 0)) B bh v' (done ++ [(n, o, e)]) n' (.slice none 0 0) (.slice none 0 0) [] [] := by
  obtain ⟨l1, l2, l3, l4⟩ := h.lt
  have hb2 : Blk w' bh 92 #[.int .i64 n, vo, vn] := (h.hb.alloc _).grown hg (fun e => h.ne3 e.symm)
  obtain ⟨s1, s2⟩ := set3 w' hb2 (.int .i64 n') (.slice none 0 0) (.slice none 0 0)
  have hnb : ∀ g, v'.ownBlock = some g → ¬ g = bh := by
    rintro g hg rfl
    rcases hv with h1 | h1
    · exact h.ne3 (h1 ▸ hg)
    · rw [h1] at hg
      simp at hg
      omega
  refine h.push hs hn0 hn1 ?_ s1 (own_stab ho hnb _ s2) ?_
  · refine (Agree.alloc w ob).trans ((Agree.of_grown hg fun g hg => .inr hg).trans (s2.mono fun _ _ h => .inl h))
  · rcases hv with h1 | h1
    · exact .inl h1
    · right
      intro b hb
      rw [h1] at hb
      simp at hb
      omega
theorem MidSt.last2 (h : MidSt w B bh vout done n vo vn o e) {v' : Value} {cells : List Value} (hs : Stab w (Wr bh vout vo vn) fun w' => Elems 3 (HkR w') done cells)
    (hn0 : -9223372036854775808 ≤ n) (hn1 : n ≤ 9223372036854775807) {ob : Obj} (ho : w'.ownsRow B 92 3 v' (done.length + 1) (cells ++ [.int .i64 n, vo, vn]))
    (hg : (w.alloc ob).grownBy w' vout.ownBlock) : Ow w' B 92 3 (HkR w') v' (done ++ [(n, o, e)]) :=
  h.last hs hn0 hn1 ((Agree.alloc w ob).trans (Agree.of_grown hg fun _ hg => .inr hg)) ho
theorem MidSt.grown_below (h : MidSt w B bh vout done n vo vn o e) {w0 : World} (hb : Below w0.heap.size w0 w) (hB : w0.heap.size ≤ B) {ob : Obj} (hg : (w.alloc ob).grownBy w' vout.ownBlock) : Below w0.heap.size w0 w' := by
  obtain ⟨cells, h1, _⟩ := h.out
  refine (hb.alloc hb.size ob).grown hg (by have := hb.size; simp; omega) fun k hk => ?_
  have := (h1.lt k hk).1
  omega
theorem MidSt.reset2 (h : MidSt w B bh vout done n vo vn o e) (n' : Int) :
    MidSt (((w.setCell ⟨bh, 0, none⟩ (.int .i64 n')).setCell ⟨bh, 1, none⟩ (.slice none 0 0)).setCell ⟨bh, 2, none⟩ (.slice none 0 0)) B bh vout done n' (.slice none 0 0) (.slice none 0 0) [] [] := by
  obtain ⟨s1, s2⟩ := set3 w h.hb (.int .i64 n') (.slice none 0 0) (.slice none 0 0)
  exact h.reset s2 s1
theorem MidSt.old2 (h : MidSt w B bh vout done n vo vn o e) {v' : Value} {x : ByteArray} {cells : List Value} {ob : Obj} (hel : Elems 1 Str1 o cells) (ho : w'.ownsRow B 9 1 v' (o.length + 1) (cells ++ [.string x]))
    (hg : (w.alloc ob).drew.grownBy w' vo.ownBlock) (hv : v'.ownBlock = vo.ownBlock ∨ v'.ownBlock = some (w.alloc ob).drew.heap.size) :
    MidSt (w'.setCell ⟨bh, 1, none⟩ v') B bh vout done n v' vn (o ++ [x]) e ∧ ∀ w0 : World, Below w0.heap.size w0 w → w0.heap.size ≤ B → Below w0.heap.size w0 (w'.setCell ⟨bh, 1, none⟩ v') := by
  obtain ⟨l1, l2, l3, l4⟩ := h.lt
  have hb2 : Blk w' bh 92 #[.int .i64 n, vo, vn] := (h.hb.alloc _).drew.grown hg (fun e => h.ne1 e.symm)
  have hnb : ∀ g, v'.ownBlock = some g → ¬ g = bh := by
    rintro g hg rfl
    rcases hv with h1 | h1
    · exact h.ne1 (h1 ▸ hg)
    · rw [h1] at hg
      simp at hg
      omega
  refine ⟨h.old ?_ (hb2.set 1 v') ⟨_, by simpa using own_stab ho hnb _ (Agree.set1 w' bh 1 v'), hel.append (Elems.one rfl rfl)⟩ ?_, fun w0 hb hB => ?_⟩
  · exact ((Agree.alloc w ob).trans (Agree.drewN _ 1)).trans ((Agree.of_grown hg fun g hg => .inr hg).trans (Agree.setCell w' (p := ⟨bh, 1, none⟩) (.inl rfl) v'))
  · rcases hv with h1 | h1
    · exact .inl h1
    · right
      intro b hb
      rw [h1] at hb
      simp at hb
      omega
  · obtain ⟨vs, h1, _⟩ := h.ho
    refine ((hb.alloc hb.size ob).drew.grown hg (by have := hb.size; simp; omega) fun k hk => ?_).setCell (p := ⟨bh, 1, none⟩) (by have := h.hB; simp; omega) _
    have := (h1.lt k hk).1
    omega
theorem MidSt.new2 (h : MidSt w B bh vout done n vo vn o e) {v' : Value} {x : ByteArray} {cells : List Value} {ob : Obj} (hel : Elems 1 Str1 e cells) (ho : w'.ownsRow B 9 1 v' (e.length + 1) (cells ++ [.string x]))
    (hg : (w.alloc ob).drew.grownBy w' vn.ownBlock) (hv : v'.ownBlock = vn.ownBlock ∨ v'.ownBlock = some (w.alloc ob).drew.heap.size) :
    MidSt (w'.setCell ⟨bh, 2, none⟩ v') B bh vout done n vo v' o (e ++ [x]) ∧ ∀ w0 : World, Below w0.heap.size w0 w → w0.heap.size ≤ B → Below w0.heap.size w0 (w'.setCell ⟨bh, 2, none⟩ v') := by
  obtain ⟨l1, l2, l3, l4⟩ := h.lt
  have hb2 : Blk w' bh 92 #[.int .i64 n, vo, vn] := (h.hb.alloc _).drew.grown hg (fun e => h.ne2 e.symm)
  have hnb : ∀ g, v'.ownBlock = some g → ¬ g = bh := by
    rintro g hg rfl
    rcases hv with h1 | h1
    · exact h.ne2 (h1 ▸ hg)
    · rw [h1] at hg
      simp at hg
      omega
  refine ⟨h.new ?_ (hb2.set 2 v') ⟨_, by simpa using own_stab ho hnb _ (Agree.set1 w' bh 2 v'), hel.append (Elems.one rfl rfl)⟩ ?_, fun w0 hb hB => ?_⟩
  · exact ((Agree.alloc w ob).trans (Agree.drewN _ 1)).trans ((Agree.of_grown hg fun g hg => .inr hg).trans (Agree.setCell w' (p := ⟨bh, 2, none⟩) (.inl rfl) v'))
  · rcases hv with h1 | h1
    · exact .inl h1
    · right
      intro b hb
      rw [h1] at hb
      simp at hb
      omega
  · obtain ⟨vs, h1, _⟩ := h.hn
    refine ((hb.alloc hb.size ob).drew.grown hg (by have := hb.size; simp; omega) fun k hk => ?_).setCell (p := ⟨bh, 2, none⟩) (by have := h.hB; simp; omega) _
    have := (h1.lt k hk).1
    omega
theorem MidSt.fin (h : MidSt w B bh vout done n vo vn o e) : Ow w B 92 3 (HkR w) vout done := by
  obtain ⟨cells, h1, h2⟩ := h.out
  exact ⟨cells, h1, h2.now⟩
end

set_option maxRecDepth 100000 in
set_option maxHeartbeats 2000000 in
theorem middle_any (w : World) (va vb : Value) (xs ys : List ByteArray) (at_ : Nat) (ha : Strs w va xs) (hb : Strs w vb ys) (hx : xs.length ≤ 1000) (hy : ys.length ≤ 1000) (hat : at_ ≤ 4611686018427387904) :
    Calls Try.prog 73 #[va, vb, .int .i64 at_] w fun e w' => ∃ v, e = .returned v ∧ Ow w' w.heap.size 92 3 (HkR w') v (hkF at_ none (script xs ys)) ∧ Below w.heap.size w w' := by
  obtain ⟨A, c, rfl, hc, hm⟩ := ha.form
  obtain ⟨B, d, rfl, hc', hm'⟩ := hb.form
  obtain ⟨i0, hi, hz0, hz1, hz2⟩ := info_parts Try.info_str
  obtain ⟨i1, hi1, hy0, hy1, hy2⟩ := info_parts Try.info_hunk
  by_cases he : xs.length + ys.length = 0
  · have h1 : xs = [] := List.eq_nil_of_length_eq_zero (by omega)
    have h2 : ys = [] := List.eq_nil_of_length_eq_zero (by omega)
    subst h1 h2
    go_enter Try.func73, Try.ntmps73
    go_wp2
    go_ret
    exact ⟨_, rfl, ⟨[], (Blk.new _ _ _).own (Nat.le_refl _) (cap := 0) (by simp) (by simp) (by simp), rfl⟩, (Below.refl _ _).alloc (Nat.le_refl _) _⟩
  · have hne : (((xs.length : Int) + ys.length) == 0) = false := by simp; omega
    obtain ⟨N, hN⟩ : ∃ N, N = xs.length * ys.length := ⟨_, rfl⟩
    have hN1 : N ≤ 1000000 := by rw [hN]; exact Nat.mul_le_mul hx hy
    have hNi : (xs.length : Int) * (ys.length : Int) = (N : Int) := by rw [hN]; simp
    clear hN he
    have ct := rtable_any w _ _ xs ys ha hb hx hy
    have CT := Lib.hid ct
    clear ct
    go_enter Try.func73, Try.ntmps73
    go_wp2_with (go_at_call 81; refine CT.out.mono ?_; rintro e w1 ⟨vt, rfl, htab, hbel⟩)
    obtain ⟨go, capt, rfl, htab⟩ := htab
    have HT := Lib.hid htab
    clear htab CT
    have hsz1 : w.heap.size ≤ w1.heap.size := hbel.size
    have hst : MidSt ((w1.alloc (.cells #[] 92)).alloc (.cells #[.int .i64 at_, .slice none 0 0, .slice none 0 0] 92)) w1.heap.size (w1.heap.size + 1) (.slice (some ⟨w1.heap.size, 0, none⟩) 0 0) [] at_ (.slice none 0 0) (.slice none 0 0) [] [] := by
      have h1 := Blk.new (w1.alloc (.cells #[] 92)) #[.int .i64 at_, .slice none 0 0, .slice none 0 0] 92
      have h2 : (w1.alloc (.cells #[] 92)).heap.size = w1.heap.size + 1 := by simp
      rw [h2] at h1
      refine ⟨h1, by omega, Ow.nil _ _ _ _ _, Ow.nil _ _ _ _ _, ⟨[], ((Blk.new w1 #[] 92).alloc _).own (Nat.le_refl _) (cap := 0) (by simp) (by simp) (by simp), fun _ _ => rfl⟩, ?_, ?_, ?_, ?_, ?_, ?_⟩ <;> simp [Value.ownBlock]
    have hbe : Below w1.heap.size w1 ((w1.alloc (.cells #[] 92)).alloc (.cells #[.int .i64 at_, .slice none 0 0, .slice none 0 0] 92)) :=
      ((Below.refl _ _).alloc (Nat.le_refl _) _).alloc (by simp) _
    have hbh : w1.heap.size ≤ w1.heap.size + 1 := by omega
    generalize w1.heap.size + 1 = bh at *
    go_loopw [8, 10, 11] (fun vout i k wr => ∃ (ii kk : Nat) (done : List Hk) (n : Int) (vo vn : Value) (o e : List ByteArray), ii ≤ xs.length ∧ kk ≤ ys.length ∧ i = .int .i64 ii ∧ k = .int .i64 kk ∧ MidSt wr w1.heap.size bh vout done n vo vn o e ∧
        Hid (hkF at_ none (script xs ys) = done ++ hkF (at_ + ii) (curOf n o e) (script (xs.drop ii) (ys.drop kk))) ∧ Hid (o = [] → e = [] → n = ((at_ + ii : Nat) : Int)) ∧ 0 ≤ n ∧ n ≤ at_ + ii ∧ o.length ≤ ii ∧ e.length ≤ kk ∧ done.length ≤ ii ∧ Below w1.heap.size w1 wr)
      (fun _ i k _ => xs.length + ys.length - ((intOf i).toNat + (intOf k).toNat))
    case atStart => exact ⟨0, 0, [], at_, _, _, [], [], by omega, by omega, rfl, rfl, hst, by rw [curOf_none]; rfl, fun _ _ => rfl, by omega, by omega, by simp, by simp, by simp, hbe⟩
    case round =>
      clear hst hbe
      obtain ⟨ii, kk, done, n, vo, vn, o, e, hii, hkk, rfl, rfl, hst, HH, HO, n0, n1, o1, e1, l1, hbe⟩ := hrel
      have hw := (Keeps.of_below hbel).trans (Keeps.of_below hbe)
      have ha' := ha.keep hw
      have hb' := hb.keep hw
      by_cases hlt : ii < xs.length
      · by_cases hlt' : kk < ys.length
        · obtain ⟨b, off, rfl, ha1⟩ := ha'.get hlt
          obtain ⟨b', off', rfl, hb1⟩ := hb'.get hlt'
          by_cases he : xs[ii] = ys[kk]
          · have hse := str_eq he
            have HS := Lib.hid (script_keep hlt hlt' he)
            clear he
            go_wp2
            go_quiet (fail)
            have hst := hst.drewN nq
            have hbe := below_drewN' hbe nq
            clear ha1 hb1 ha' hb' hw
            generalize wr.drewN nq = wq at *
            obtain ⟨c0, c1, c2, f0, f1, f2⟩ := hst.facts
            obtain ⟨Ao, co, rfl, ho1, ho2⟩ := hst.ho.sl.form
            obtain ⟨An, cn, rfl, hn1, hn2⟩ := hst.hn.sl.form
            by_cases hz : 0 < o.length + e.length
            · obtain ⟨cells, hown, hstab⟩ := hst.out
              go_wp2_with (at_builtin; go_must (refine wpList_append_any _ rfl _ _ _ rfl w1.heap.size 92 i1 _ 3 56 Try.underlying89 hi1 hy0 hy1 hy2 rfl (by omega) u8 done.length cells rfl (hown.alloc _) _ 1 1 [.int .i64 n, .slice Ao o.length co, .slice An e.length cn] rfl rfl (CellsAt.of_new _ _ _ _) (by simp [Value.oneCell']) (by omega) (by omega) (by have := hbe.size; simp; omega) ?_)
                           intro v' w2 hown2 hgr hat
                           have hb2 : Blk w2 bh _ _ := (hst.hb.alloc _).grown hgr (fun e => hst.ne3 e.symm)
                           obtain ⟨g0, g1, g2, k0, k1, k2⟩ := blk3 hb2)
              go_roundw
              case rel => exact ⟨ii + 1, kk + 1, done ++ [(n, o, e)], ((at_ + (ii + 1) : Nat) : Int), _, _, [], [], by omega, by omega, by go_num, by go_num, hst.push2 _ hstab (by omega) (by omega) hown2 hgr hat, hk_keep HH.out HS.out hz _, fun _ _ => rfl, by omega, by omega, by simp, by simp, by simp; omega, set3_below (hst.grown_below hbe (Nat.le_refl _) hgr) (by omega) _ _ _⟩
              case measure => simp [intOf]; omega
            · go_wp2_with fail
              go_roundw
              case rel => exact ⟨ii + 1, kk + 1, done, ((at_ + (ii + 1) : Nat) : Int), _, _, [], [], by omega, by omega, by go_num, by go_num, hst.reset2 _, hk_keep0 HH.out HS.out hz _, fun _ _ => rfl, by omega, by omega, by simp, by simp, by omega, set3_below hbe (by omega) _ _ _⟩
              case measure => simp [intOf]; omega
          · have hse := str_ne he
            obtain ⟨g0, t0, t0'⟩ := HT.out ii (by omega)
            obtain ⟨g1, t1, t1'⟩ := HT.out (ii + 1) (by omega)
            have u0 := (Keeps.of_below hbe) _ _ _ t0
            have u1 := (Keeps.of_below hbe) _ _ _ t1
            have u2 := (Keeps.of_below hbe) _ _ _ (t0' (kk + 1) (by omega))
            have u3 := (Keeps.of_below hbe) _ _ _ (t1' kk (by omega))
            have hkk1 : ((kk : Int) == ys.length) = false := by simp; omega
            clear t0 t0' t1 t1'
            have d1 := dist_drop_le xs ys (ii + 1) kk
            have d2 := dist_drop_le xs ys ii (kk + 1)
            by_cases hd : dist (xs.drop (ii + 1)) (ys.drop kk) ≤ dist (xs.drop ii) (ys.drop (kk + 1))
            · have HS := Lib.hid (script_rem hlt hlt' he hd)
              clear he
              generalize dist (xs.drop (ii + 1)) (ys.drop kk) = D1 at *
              generalize dist (xs.drop ii) (ys.drop (kk + 1)) = D2 at *
              go_wp2
              go_quiet (fail)
              rename Nat => m1
              go_wp2
              go_quiet (fail)
              rename Nat => m2
              have hst := (hst.drewN m1).drewN m2
              have hbe := below_drewN' (below_drewN' hbe m1) m2
              have ha2 : ((wr.drewN m1).drewN m2).cell? ⟨b, off + ii, none⟩ = some (.string xs[ii]) := ha1
              clear ha1 hb1 ha' hb' hw u0 u1 u2 u3
              generalize (wr.drewN m1).drewN m2 = wq at *
              obtain ⟨c0, c1, c2, f0, f1, f2⟩ := hst.facts
              obtain ⟨cells, hown, hel⟩ := hst.ho
              have hvo := hst.ne1
              have hlb := hst.lt.1
              go_wp2
              go_region_law ((refine step_append_any _ rfl _ _ _ rfl w1.heap.size 9 i0 _ 1 16 Try.underlying36 hi hz0 hz1 hz2 rfl (by omega) vo o.length cells rfl (World.ownsRow.drew (World.ownsRow.alloc hown _)) _ 1 1 [.string xs[ii]] rfl rfl (CellsAt.of_new _ _ _ _) (by simp [Value.oneCell']) (by omega) (by omega) (by have := hbe.size; simp; omega) ?_; intro v' w2 hown2 hgr hat; obtain ⟨A', c', rfl⟩ := own_form hown2; obtain ⟨p0, p1, p2, q0, q1, q2⟩ := blk3 ((hst.hb.alloc _).drew.grown hgr (fun e => hvo e.symm))))
              all_goals
                go_wp2
                go_roundw
                case rel =>
                  obtain ⟨z1, z2⟩ := hst.old2 hel hown2 hgr hat
                  exact ⟨ii + 1, kk, done, n, _, _, o ++ [xs[ii]], e, by omega, by omega, by go_num, rfl, z1, hk_rem HH.out HS.out HO.out, fun h => by simp at h, by omega, by omega, by simp; omega, by omega, by omega, z2 w1 hbe (Nat.le_refl _)⟩
                case measure => simp [intOf]; omega
            · have HS := Lib.hid (script_add hlt hlt' he hd)
              clear he
              generalize dist (xs.drop (ii + 1)) (ys.drop kk) = D1 at *
              generalize dist (xs.drop ii) (ys.drop (kk + 1)) = D2 at *
              go_wp2
              go_quiet (fail)
              rename Nat => m1
              go_wp2
              go_quiet (fail)
              rename Nat => m2
              have hst := (hst.drewN m1).drewN m2
              have hbe := below_drewN' (below_drewN' hbe m1) m2
              have hb2 : ((wr.drewN m1).drewN m2).cell? ⟨b', off' + kk, none⟩ = some (.string ys[kk]) := hb1
              clear ha1 hb1 ha' hb' hw u0 u1 u2 u3
              generalize (wr.drewN m1).drewN m2 = wq at *
              obtain ⟨c0, c1, c2, f0, f1, f2⟩ := hst.facts
              obtain ⟨cells, hown, hel⟩ := hst.hn
              have hvo := hst.ne2
              have hlb := hst.lt.1
              go_wp2
              go_region_law ((refine step_append_any _ rfl _ _ _ rfl w1.heap.size 9 i0 _ 1 16 Try.underlying36 hi hz0 hz1 hz2 rfl (by omega) vn e.length cells rfl (World.ownsRow.drew (World.ownsRow.alloc hown _)) _ 1 1 [.string ys[kk]] rfl rfl (CellsAt.of_new _ _ _ _) (by simp [Value.oneCell']) (by omega) (by omega) (by have := hbe.size; simp; omega) ?_; intro v' w2 hown2 hgr hat; obtain ⟨A', c', rfl⟩ := own_form hown2; obtain ⟨p0, p1, p2, q0, q1, q2⟩ := blk3 ((hst.hb.alloc _).drew.grown hgr (fun e => hvo e.symm))))
              all_goals
                go_wp2
                go_roundw
                case rel =>
                  obtain ⟨z1, z2⟩ := hst.new2 hel hown2 hgr hat
                  exact ⟨ii, kk + 1, done, n, _, _, o, e ++ [ys[kk]], by omega, by omega, rfl, by go_num, z1, hk_add HH.out HS.out HO.out, fun _ h => by simp at h, by omega, by omega, by omega, by simp; omega, by omega, z2 w1 hbe (Nat.le_refl _)⟩
                case measure => simp [intOf]; omega
        · obtain ⟨b, off, rfl, ha1⟩ := ha'.get hlt
          have hkk1 : ((kk : Int) == ys.length) = true := by simp; omega
          have hkk2 : decide (kk < ys.length) = false := by simp; omega
          have HS := Lib.hid (script_rem_end (p := xs) (q := ys) (k := kk) hlt (by omega))
          go_wp2
          go_quiet (fail)
          rename Nat => m1
          go_wp2
          go_quiet (fail)
          rename Nat => m2
          have hst := (hst.drewN m1).drewN m2
          have hbe := below_drewN' (below_drewN' hbe m1) m2
          have ha2 : ((wr.drewN m1).drewN m2).cell? ⟨b, off + ii, none⟩ = some (.string xs[ii]) := ha1
          clear ha1 ha' hb' hw
          generalize (wr.drewN m1).drewN m2 = wq at *
          obtain ⟨c0, c1, c2, f0, f1, f2⟩ := hst.facts
          obtain ⟨cells, hown, hel⟩ := hst.ho
          have hvo := hst.ne1
          have hlb := hst.lt.1
          go_wp2
          go_region_law ((refine step_append_any _ rfl _ _ _ rfl w1.heap.size 9 i0 _ 1 16 Try.underlying36 hi hz0 hz1 hz2 rfl (by omega) vo o.length cells rfl (World.ownsRow.drew (World.ownsRow.alloc hown _)) _ 1 1 [.string xs[ii]] rfl rfl (CellsAt.of_new _ _ _ _) (by simp [Value.oneCell']) (by omega) (by omega) (by have := hbe.size; simp; omega) ?_; intro v' w2 hown2 hgr hat; obtain ⟨A', c', rfl⟩ := own_form hown2; obtain ⟨p0, p1, p2, q0, q1, q2⟩ := blk3 ((hst.hb.alloc _).drew.grown hgr (fun e => hvo e.symm))))
          all_goals
            go_wp2
            go_roundw
            case rel =>
              obtain ⟨z1, z2⟩ := hst.old2 hel hown2 hgr hat
              exact ⟨ii + 1, kk, done, n, _, _, o ++ [xs[ii]], e, by omega, by omega, by go_num, rfl, z1, hk_rem HH.out HS.out HO.out, fun h => by simp at h, by omega, by omega, by simp; omega, by omega, by omega, z2 w1 hbe (Nat.le_refl _)⟩
            case measure => simp [intOf]; omega
      · have hii1 : decide (ii < xs.length) = false := by simp; omega
        by_cases hlt' : kk < ys.length
        · obtain ⟨b', off', rfl, hb1⟩ := hb'.get hlt'
          have HS := Lib.hid (script_add_end (p := xs) (q := ys) (i := ii) (by omega) hlt')
          go_wp2
          go_quiet (fail)
          rename Nat => m1
          go_wp2
          go_quiet (fail)
          rename Nat => m2
          have hst := (hst.drewN m1).drewN m2
          have hbe := below_drewN' (below_drewN' hbe m1) m2
          have hb2 : ((wr.drewN m1).drewN m2).cell? ⟨b', off' + kk, none⟩ = some (.string ys[kk]) := hb1
          clear hb1 ha' hb' hw
          generalize (wr.drewN m1).drewN m2 = wq at *
          obtain ⟨c0, c1, c2, f0, f1, f2⟩ := hst.facts
          obtain ⟨cells, hown, hel⟩ := hst.hn
          have hvo := hst.ne2
          have hlb := hst.lt.1
          go_wp2
          go_region_law ((refine step_append_any _ rfl _ _ _ rfl w1.heap.size 9 i0 _ 1 16 Try.underlying36 hi hz0 hz1 hz2 rfl (by omega) vn e.length cells rfl (World.ownsRow.drew (World.ownsRow.alloc hown _)) _ 1 1 [.string ys[kk]] rfl rfl (CellsAt.of_new _ _ _ _) (by simp [Value.oneCell']) (by omega) (by omega) (by have := hbe.size; simp; omega) ?_; intro v' w2 hown2 hgr hat; obtain ⟨A', c', rfl⟩ := own_form hown2; obtain ⟨p0, p1, p2, q0, q1, q2⟩ := blk3 ((hst.hb.alloc _).drew.grown hgr (fun e => hvo e.symm))))
          all_goals
            go_wp2
            go_roundw
            case rel =>
              obtain ⟨z1, z2⟩ := hst.new2 hel hown2 hgr hat
              exact ⟨ii, kk + 1, done, n, _, _, o, e ++ [ys[kk]], by omega, by omega, rfl, by go_num, z1, hk_add HH.out HS.out HO.out, fun _ h => by simp at h, by omega, by omega, by omega, by simp; omega, by omega, z2 w1 hbe (Nat.le_refl _)⟩
            case measure => simp [intOf]; omega
        · have HS := Lib.hid (script_end (p := xs) (q := ys) (i := ii) (k := kk) (by omega) (by omega))
          obtain ⟨c0, c1, c2, f0, f1, f2⟩ := hst.facts
          obtain ⟨Ao, co, rfl, ho1, ho2⟩ := hst.ho.sl.form
          obtain ⟨An, cn, rfl, hn1, hn2⟩ := hst.hn.sl.form
          by_cases hz : 0 < o.length + e.length
          · obtain ⟨cells, hown, hstab⟩ := hst.out
            go_wp2_with (at_builtin; go_must (refine wpList_append_any _ rfl _ _ _ rfl w1.heap.size 92 i1 _ 3 56 Try.underlying89 hi1 hy0 hy1 hy2 rfl (by omega) u8 done.length cells rfl (hown.alloc _) _ 1 1 [.int .i64 n, .slice Ao o.length co, .slice An e.length cn] rfl rfl (CellsAt.of_new _ _ _ _) (by simp [Value.oneCell']) (by omega) (by omega) (by have := hbe.size; simp; omega) ?_)
                         intro v' w2 hown2 hgr hat)
            go_ret
            refine ⟨_, rfl, ?_, hbel.trans ((hst.grown_below hbe (Nat.le_refl _) hgr).mono hsz1)⟩
            rw [hk_end HH.out HS.out hz]
            exact (hst.last2 hstab (by omega) (by omega) hown2 hgr).mono_base hsz1
          · go_wp2
            go_ret
            refine ⟨_, rfl, ?_, hbel.trans (hbe.mono hsz1)⟩
            rw [hk_end0 HH.out HS.out hz]
            exact hst.fin.mono_base hsz1
end Go.Proofs.Ythobbcafemkhbaa
