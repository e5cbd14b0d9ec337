/- textmerge.conflict. -/
import Derived.Test.YthobbcafemkhbaaTmUnmP
import Derived.Test.YthobbcafemkhbaaTmAdd
namespace Go.Proofs.Ythobbcafemkhbaa
open Go.RowKit
set_option linter.unusedVariables false

/-- Reading a conflict: its parts, and what follows. -/
def confF : Nat → Cur → List ByteArray → Option (Cur × List ByteArray)
  | _, _, [] => none
  | st, c, x :: xs =>
    if 0 ≤ mkN x then (if mkN x = (st : Int) ∧ endB x = true then (if st = 3 then some (c, xs) else confF (st + 1) c xs) else none)
    else confF st (addC st c x) xs
def contF (out : List Rg) (r : Option (Cur × List ByteArray)) : Option (List Rg) := match r with
  | some (c', rest) => stG endB 0 cur0 (out ++ [(true, c')]) rest
  | none => none
theorem stG_conf : ∀ (xs : List ByteArray) (st : Nat) (c : Cur) (out : List Rg), st ≠ 0 → stG endB st c out xs = contF out (confF st c xs)
  | [], st, c, out, h => by rw [stG, confF, if_neg h]; rfl
  | x :: xs, st, c, out, h => by
    rw [stG, confF]
    by_cases hm : 0 ≤ mkN x
    · rw [if_pos hm, if_pos hm]
      by_cases hk : mkN x = (st : Int) ∧ endB x = true
      · rw [if_pos hk, if_pos hk]
        by_cases h3 : st = 3
        · rw [if_pos h3, if_pos h3]; rfl
        · rw [if_neg h3, if_neg h3, stG_conf xs (st + 1) c out (by omega)]
      · rw [if_neg hk, if_neg hk]; rfl
    · rw [if_neg hm, if_neg hm, if_neg h, stG_conf xs st _ out h]
theorem mk_is {x : ByteArray} {k : Nat} (hk : k < mks.length) : x = mks[k] ↔ mkN x = (k : Int) ∧ endB x = true := by
  constructor
  · rintro rfl
    exact ⟨mks_num k hk, (endB_iff _).2 (mks_end _ (List.getElem_mem hk))⟩
  · rintro ⟨h1, h2⟩
    obtain ⟨j, hj, h3, h4⟩ := mk_lt (s := x) (by omega)
    have : j = k := by omega
    subst this
    rcases h4 with h4 | h4
    · exact h4
    · exact absurd (h4 ▸ (endB_iff x).1 h2) (mks_cut _ (List.getElem_mem hj)).1
theorem conf_end {x : ByteArray} {xs : List ByteArray} {c : Cur} (h : x = mk3) : confF 3 c (x :: xs) = some (c, xs) := by
  have h' := (mk_is (x := x) (k := 3) (by decide)).1 h
  unfold confF
  rw [if_pos (by have := h'.1; omega), if_pos h', if_pos rfl]
theorem conf_next {x : ByteArray} {xs : List ByteArray} {c : Cur} {p : Nat} (hp : p + 1 < 3) (hk : p + 1 < mks.length) (h : x = mks[p + 1]) : confF (p + 1) c (x :: xs) = confF (p + 1 + 1) c xs := by
  have h' := (mk_is hk).1 h
  rw [confF, if_pos (by have := h'.1; omega), if_pos h', if_neg (by omega)]
theorem conf_bad {x : ByteArray} {xs : List ByteArray} {c : Cur} {p : Nat} (hk : p + 1 < mks.length) (h : ¬ x = mks[p + 1]) (hm : mkB x = true) : confF (p + 1) c (x :: xs) = none := by
  rw [mkB_eq, decide_eq_true_iff] at hm
  rw [confF, if_pos hm, if_neg fun e => h ((mk_is hk).2 e)]
theorem conf_line {x : ByteArray} {xs : List ByteArray} {c : Cur} {p : Nat} (hm : mkB x = false) : confF (p + 1) c (x :: xs) = confF (p + 1) (addC (p + 1) c x) xs := by
  rw [mkB_eq, decide_eq_false_iff_not] at hm
  rw [confF, if_neg hm]

/-- Three rows of strings in blocks of their own. -/
structure Rows3 (w : World) (B : Nat) (v0 v1 v2 : Value) (c : Cur) : Prop where
  o0 : Ow w B 9 1 Str1 v0 c.2.1
  o1 : Ow w B 9 1 Str1 v1 c.1
  o2 : Ow w B 9 1 Str1 v2 c.2.2
  n01 : ∀ g, v0.ownBlock = some g → v1.ownBlock ≠ some g
  n02 : ∀ g, v0.ownBlock = some g → v2.ownBlock ≠ some g
  n12 : ∀ g, v1.ownBlock = some g → v2.ownBlock ≠ some g
theorem Ow.lt' {w : World} {B : Nat} {v : Value} {xs : List ByteArray} (h : Ow w B 9 1 Str1 v xs) {g : Nat} (hg : v.ownBlock = some g) : g < w.heap.size := by
  obtain ⟨vs, o1, _⟩ := h
  exact (o1.lt g hg).2
theorem Ow.grownN {w w' : World} {B : Nat} {v u : Value} {xs : List ByteArray} (h : Ow w B 9 1 Str1 v xs) (hg : w.grownBy w' u.ownBlock) (hn : ∀ g, v.ownBlock = some g → u.ownBlock ≠ some g) : Ow w' B 9 1 Str1 v xs := by
  obtain ⟨vs, o1, o2⟩ := h
  refine ⟨vs, o1.kept hg ?_, o2⟩
  cases hv : v.ownBlock with
  | none => exact .inl rfl
  | some g => exact .inr fun e => hn g hv e.symm
theorem Rows3.nil (w : World) (B : Nat) : Rows3 w B (.slice none 0 0) (.slice none 0 0) (.slice none 0 0) cur0 :=
  ⟨Ow.nil _ _ _ _ _, Ow.nil _ _ _ _ _, Ow.nil _ _ _ _ _, (fun g h => by simp [Value.ownBlock] at h), (fun g h => by simp [Value.ownBlock] at h), (fun g h => by simp [Value.ownBlock] at h)⟩
theorem Rows3.keep {w w' : World} {B : Nat} {v0 v1 v2 : Value} {c : Cur} (h : Rows3 w B v0 v1 v2 c) (k : Below w.heap.size w w') : Rows3 w' B v0 v1 v2 c :=
  ⟨h.o0.keep (grown_of_below k) fun _ _ h => h, h.o1.keep (grown_of_below k) fun _ _ h => h, h.o2.keep (grown_of_below k) fun _ _ h => h, h.n01, h.n02, h.n12⟩
theorem Rows3.box {w : World} {B g : Nat} {v0 v1 v2 : Value} {c : Cur} {t : TypeId} {cs : Array Value} (h : Rows3 w B v0 v1 v2 c) (hb : Blk w g t cs) (ht : t ≠ 9) (o : Nat) (u : Value) : Rows3 (w.setCell ⟨g, o, none⟩ u) B v0 v1 v2 c := by
  have key : ∀ {v : Value} {xs : List ByteArray}, Ow w B 9 1 Str1 v xs → Ow (w.setCell ⟨g, o, none⟩ u) B 9 1 Str1 v xs := fun ⟨vs, o1, o2⟩ =>
    ⟨vs, o1.kept (row := some g) ⟨rfl, rfl, rfl, by simp [World.setCell], fun k _ hk => Below.heap_setCell _ _ _ _ (fun e => hk (by simp [e]))⟩ (.inr (Lib.ownBlock_ne o1 hb ht)), o2⟩
  exact ⟨key h.o0, key h.o1, key h.o2, h.n01, h.n02, h.n12⟩
/-- A string is appended to one of the rows. -/
theorem Ow.push1 {w' : World} {B : Nat} {v' : Value} {xs : List ByteArray} {s : ByteArray} {vs : List Value} (he : Elems 1 Str1 xs vs) (h : w'.ownsRow B 9 1 v' (xs.length + 1) (vs ++ [.string s])) : Ow w' B 9 1 Str1 v' (xs ++ [s]) :=
  ⟨vs ++ [.string s], by simpa using h, he.append (Elems.one (show Str1 [.string s] s from rfl) rfl)⟩
theorem moved_ne {w : World} {v v' u : Value} (hm : v'.ownBlock = v.ownBlock ∨ v'.ownBlock = some w.heap.size) (hn : ∀ g, v.ownBlock = some g → u.ownBlock ≠ some g) (hu : ∀ g, u.ownBlock = some g → g < w.heap.size) : ∀ g, v'.ownBlock = some g → u.ownBlock ≠ some g := fun g hg hu' => by
  rcases hm with h | h
  · exact hn g (h ▸ hg) hu'
  · rw [h] at hg
    have := hu g hu'
    cases hg
    omega
theorem ne_symm' {v u : Value} (h : ∀ g, v.ownBlock = some g → u.ownBlock ≠ some g) : ∀ g, u.ownBlock = some g → v.ownBlock ≠ some g := fun g h1 h2 => h g h2 h1
section
variable {w w' : World} {B : Nat} {v0 v1 v2 v' : Value} {c : Cur} {s : ByteArray} {vs : List Value}
theorem Rows3.push0 (h : Rows3 w B v0 v1 v2 c) (he : Elems 1 Str1 c.2.1 vs) (hg : w.grownBy w' v0.ownBlock) (ho : w'.ownsRow B 9 1 v' (c.2.1.length + 1) (vs ++ [.string s])) (hm : v'.ownBlock = v0.ownBlock ∨ v'.ownBlock = some w.heap.size) :
    Rows3 w' B v' v1 v2 (addC 1 c s) :=
  ⟨Ow.push1 he ho, h.o1.grownN hg (ne_symm' h.n01), h.o2.grownN hg (ne_symm' h.n02), moved_ne hm h.n01 fun _ hg => h.o1.lt' hg, moved_ne hm h.n02 fun _ hg => h.o2.lt' hg, h.n12⟩
theorem Rows3.push1 (h : Rows3 w B v0 v1 v2 c) (he : Elems 1 Str1 c.1 vs) (hg : w.grownBy w' v1.ownBlock) (ho : w'.ownsRow B 9 1 v' (c.1.length + 1) (vs ++ [.string s])) (hm : v'.ownBlock = v1.ownBlock ∨ v'.ownBlock = some w.heap.size) :
    Rows3 w' B v0 v' v2 (addC 2 c s) :=
  ⟨h.o0.grownN hg h.n01, Ow.push1 he ho, h.o2.grownN hg (ne_symm' h.n12), ne_symm' (moved_ne hm (ne_symm' h.n01) fun _ hg => h.o0.lt' hg), h.n02, moved_ne hm h.n12 fun _ hg => h.o2.lt' hg⟩
theorem Rows3.push2 (h : Rows3 w B v0 v1 v2 c) (he : Elems 1 Str1 c.2.2 vs) (hg : w.grownBy w' v2.ownBlock) (ho : w'.ownsRow B 9 1 v' (c.2.2.length + 1) (vs ++ [.string s])) (hm : v'.ownBlock = v2.ownBlock ∨ v'.ownBlock = some w.heap.size) :
    Rows3 w' B v0 v1 v' (addC 3 c s) :=
  ⟨h.o0.grownN hg h.n02, h.o1.grownN hg h.n12, Ow.push1 he ho, h.n01, ne_symm' (moved_ne hm (ne_symm' h.n02) fun _ hg => h.o0.lt' hg), ne_symm' (moved_ne hm (ne_symm' h.n12) fun _ hg => h.o1.lt' hg)⟩
end
/-- What conflict leaves. -/
def CfPost (w : World) (l : List ByteArray) (e : Ending) (w' : World) : Prop :=
  (∃ c rest vb vl vr, confF 1 cur0 l = some (c, rest) ∧ rest.length ≤ l.length ∧ rest = l.drop (l.length - rest.length) ∧ e = .returned (.tuple #[.agg #[.bool true, vb, vl, vr], .int .i64 ((l.length - rest.length : Nat) : Int), .bool true]) ∧ Rows3 w' w.heap.size vl vb vr c ∧ Below w.heap.size w w') ∨
  (∃ (x0 : Bool) (A1 : Option Addr) (n1 c1 : Nat) (A2 : Option Addr) (n2 c2 : Nat) (A3 : Option Addr) (n3 c3 : Nat) (n : Int), confF 1 cur0 l = none ∧ e = .returned (.tuple #[.agg #[.bool x0, .slice A1 n1 c1, .slice A2 n2 c2, .slice A3 n3 c3], .int .i64 n, .bool false]) ∧ Below w.heap.size w w')

theorem CfPost.some {w w' : World} {l : List ByteArray} {c : Cur} {j : Nat} {vb vl vr : Value} (hR : confF 1 cur0 l = some (c, l.drop (j + 1))) (hj : j < l.length) (h3 : Rows3 w' w.heap.size vl vb vr c) (hb : Below w.heap.size w w') :
    CfPost w l (.returned (.tuple #[.agg #[.bool true, vb, vl, vr], .int .i64 ((j : Int) + 1), .bool true])) w' := by
  have e : (l.drop (j + 1)).length = l.length - (j + 1) := List.length_drop
  have e2 : l.length - (l.drop (j + 1)).length = j + 1 := by omega
  refine .inl ⟨c, _, vb, vl, vr, hR, by omega, ?_, ?_, h3, hb⟩
  · rw [e2]
  · rw [e2]; rfl
theorem CfPost.none {w w' : World} {l : List ByteArray} {x0 : Bool} {A1 A2 A3 : Option Addr} {n1 n2 n3 c1 c2 c3 : Nat} {n : Int} (hR : confF 1 cur0 l = .none) (hb : Below w.heap.size w w') :
    CfPost w l (.returned (.tuple #[.agg #[.bool x0, .slice A1 n1 c1, .slice A2 n2 c2, .slice A3 n3 c3], .int .i64 n, .bool false])) w' := .inr ⟨x0, A1, n1, c1, A2, n2, c2, A3, n3, c3, n, hR, rfl, hb⟩
/-- The state of the loop. -/
def CfRel (w : World) (l : List ByteArray) (t7 t8 t14 : Value) (wr : World) : Prop :=
  ∃ (p j : Nat) (c : Cur) (v0 v1 v2 : Value), t7 = .int .i64 p ∧ p < 3 ∧ t8 = .int .i64 j ∧ t14 = .int .i64 j ∧ j ≤ l.length ∧ Blk wr w.heap.size 58 #[.bool false, .slice .none 0 0, .slice .none 0 0, .slice .none 0 0] ∧
    Blk wr (w.heap.size + 1) 94 #[v0, v1, v2] ∧ Blk wr (w.heap.size + 1 + 1) 95 #[.string mk1, .string mk2, .string mk3] ∧ Rows3 wr w.heap.size v0 v1 v2 c ∧ (c.1.length ≤ j ∧ c.2.1.length ≤ j ∧ c.2.2.length ≤ j) ∧
    confF 1 cur0 l = confF (p + 1) c (l.drop j) ∧ Below w.heap.size w wr
theorem CfRel.start (w : World) (l : List ByteArray) :
    CfRel w l (.int .i64 0) (.int .i64 0) (.int .i64 0) (((w.alloc (.cells #[.bool false, .slice .none 0 0, .slice .none 0 0, .slice .none 0 0] 58)).alloc (.cells #[.slice .none 0 0, .slice .none 0 0, .slice .none 0 0] 94)).alloc
      (.cells #[.string ⟨#[124, 124, 124, 124, 124, 124, 124, 10]⟩, .string ⟨#[61, 61, 61, 61, 61, 61, 61, 10]⟩, .string ⟨#[62, 62, 62, 62, 62, 62, 62, 10]⟩] 95)) := by
  refine ⟨0, 0, cur0, _, _, _, rfl, by omega, rfl, rfl, by omega, ((Blk.new w _ _).alloc _).alloc _, ?_, ?_, Rows3.nil _ _, ⟨Nat.le_refl _, Nat.le_refl _, Nat.le_refl _⟩, rfl, (((Below.refl _ _).alloc (Nat.le_refl _) _).alloc (by simp) _).alloc (by simp; omega) _⟩
  · have := (Blk.new (w.alloc (.cells #[.bool false, .slice .none 0 0, .slice .none 0 0, .slice .none 0 0] 58)) #[.slice .none 0 0, .slice .none 0 0, .slice .none 0 0] 94).alloc
      (.cells #[.string ⟨#[124, 124, 124, 124, 124, 124, 124, 10]⟩, .string ⟨#[61, 61, 61, 61, 61, 61, 61, 10]⟩, .string ⟨#[62, 62, 62, 62, 62, 62, 62, 10]⟩] 95)
    rw [World.size_alloc] at this
    exact this
  · have := Blk.new ((w.alloc (.cells #[.bool false, .slice .none 0 0, .slice .none 0 0, .slice .none 0 0] 58)).alloc (.cells #[.slice .none 0 0, .slice .none 0 0, .slice .none 0 0] 94))
      #[.string ⟨#[124, 124, 124, 124, 124, 124, 124, 10]⟩, .string ⟨#[61, 61, 61, 61, 61, 61, 61, 10]⟩, .string ⟨#[62, 62, 62, 62, 62, 62, 62, 10]⟩] 95
    rw [World.size_alloc, World.size_alloc] at this
    exact this
/-- One of the three rows. -/
theorem Rows3.pick {w : World} {B : Nat} {v0 v1 v2 : Value} {c : Cur} (h : Rows3 w B v0 v1 v2 c) {j p : Nat} (hl : c.1.length ≤ j ∧ c.2.1.length ≤ j ∧ c.2.2.length ≤ j) (hp : p < 3) :
    ∃ vp xs, (#[v0, v1, v2] : Array Value)[p]? = some vp ∧ Ow w B 9 1 Str1 vp xs ∧ xs.length ≤ j ∧
      ∀ w' v' vs (s : ByteArray), Elems 1 Str1 xs vs → w.grownBy w' vp.ownBlock → w'.ownsRow B 9 1 v' (xs.length + 1) (vs ++ [.string s]) → (v'.ownBlock = vp.ownBlock ∨ v'.ownBlock = some w.heap.size) →
        ∃ u0 u1 u2, (#[v0, v1, v2] : Array Value).setIfInBounds p v' = #[u0, u1, u2] ∧ Rows3 w' B u0 u1 u2 (addC (p + 1) c s) ∧ ((addC (p + 1) c s).1.length ≤ j + 1 ∧ (addC (p + 1) c s).2.1.length ≤ j + 1 ∧ (addC (p + 1) c s).2.2.length ≤ j + 1) := by
  obtain ⟨l1, l2, l3⟩ := hl
  match p, hp with
  | 0, _ => exact ⟨v0, _, rfl, h.o0, l2, fun w' v' vs s he hg ho hm => ⟨_, _, _, rfl, h.push0 he hg ho hm, by show c.1.length ≤ j + 1; omega, by show (c.2.1 ++ [s]).length ≤ j + 1; simp; omega, by show c.2.2.length ≤ j + 1; omega⟩⟩
  | 1, _ => exact ⟨v1, _, rfl, h.o1, l1, fun w' v' vs s he hg ho hm => ⟨_, _, _, rfl, h.push1 he hg ho hm, by show (c.1 ++ [s]).length ≤ j + 1; simp; omega, by show c.2.1.length ≤ j + 1; omega, by show c.2.2.length ≤ j + 1; omega⟩⟩
  | 2, _ => exact ⟨v2, _, rfl, h.o2, l3, fun w' v' vs s he hg ho hm => ⟨_, _, _, rfl, h.push2 he hg ho hm, by show c.1.length ≤ j + 1; omega, by show c.2.1.length ≤ j + 1; omega, by show (c.2.2 ++ [s]).length ≤ j + 1; simp; omega⟩⟩
theorem mk_cell {p : Nat} (hp : p < 3) : ∃ h : p + 1 < mks.length, (#[.string mk1, .string mk2, .string mk3] : Array Value)[p]? = some (.string mks[p + 1]) := by
  match p, hp with
  | 0, _ => exact ⟨by decide, rfl⟩
  | 1, _ => exact ⟨by decide, rfl⟩
  | 2, _ => exact ⟨by decide, rfl⟩

set_option maxRecDepth 100000 in
set_option maxHeartbeats 4000000 in
theorem conflict_any (w : World) (v : Value) (l : List ByteArray) (h : Strs w v l) (hlen : l.length ≤ 100000) (hsz : ∀ s ∈ l, s.size ≤ 1000000000) :
    Calls Try.prog 45 #[v] w (CfPost w l) := by
  obtain ⟨i0, hi, hz0, hz1, hz2⟩ := info_parts Try.info_str
  obtain ⟨A, c, rfl, hc, hm⟩ := h.form
  have HSZ := Lib.hid hsz
  have HST := Lib.hid (CfRel.start w l)
  clear hsz
  go_enter Try.func45, Try.ntmps45
  go_wp2_with fail
  go_step3
  go_wp2_with fail
  go_step3
  go_wp2_with fail
  go_loopw [7, 8, 14] (fun t7 t8 t14 wr => CfRel w l t7 t8 t14 wr) (fun _ _ t _ => l.length - (intOf t).toNat)
  case atStart => exact HST.out
  case round =>
    clear HST
    obtain ⟨p, j, cc, v0, v1, v2, rfl, hp, rfl, rfl, hj, b2, bp, be, h3, hl3, hR, hb⟩ := hrel
    have HR := Lib.hid hR
    clear hR
    obtain ⟨A0, c0, rfl, _, _⟩ := Sl.form h3.o0.sl
    obtain ⟨A1, c1, rfl, _, _⟩ := Sl.form h3.o1.sl
    obtain ⟨A2, c2, rfl, _, _⟩ := Sl.form h3.o2.sl
    have y0 := b2.frozen 0
    have y1 := b2.frozen 1
    have y2 := b2.frozen 2
    have y3 := b2.frozen 3
    have x0 : wr.cell? ⟨w.heap.size, 0, none⟩ = some (.bool false) := b2.cell rfl
    have x1 : wr.cell? ⟨w.heap.size, 1, none⟩ = some (.slice .none 0 0) := b2.cell rfl
    have x2 : wr.cell? ⟨w.heap.size, 2, none⟩ = some (.slice .none 0 0) := b2.cell rfl
    have x3 : wr.cell? ⟨w.heap.size, 3, none⟩ = some (.slice .none 0 0) := b2.cell rfl
    have p0 : wr.cell? ⟨w.heap.size + 1, 0, none⟩ = some (.slice A0 cc.2.1.length c0) := bp.cell rfl
    have p1 : wr.cell? ⟨w.heap.size + 1, 1, none⟩ = some (.slice A1 cc.1.length c1) := bp.cell rfl
    have p2 : wr.cell? ⟨w.heap.size + 1, 2, none⟩ = some (.slice A2 cc.2.2.length c2) := bp.cell rfl
    by_cases hlt : j < l.length
    · obtain ⟨b, off, rfl, a1⟩ := (h.keep (Keeps.of_below hb)).get hlt
      have hss := HSZ.out l[j] (List.getElem_mem hlt)
      have hdr : l.drop j = l[j] :: l.drop (j + 1) := List.drop_eq_getElem_cons hlt
      rw [hdr] at HR
      clear hdr
      generalize l[j] = x at *
      obtain ⟨hk, em⟩ := mk_cell hp
      have hmc := be.cell em
      have HNX : Hid (p + 1 < 3 → x = mks[p + 1] → confF (p + 1) cc (x :: l.drop (j + 1)) = confF (p + 1 + 1) cc (l.drop (j + 1))) := fun h1 h2 => conf_next h1 hk h2
      have HBD : Hid (¬ x = mks[p + 1] → mkB x = true → confF (p + 1) cc (x :: l.drop (j + 1)) = .none) := fun h1 h2 => conf_bad hk h1 h2
      have HEN : Hid (p = 2 → x = mks[p + 1] → confF (p + 1) cc (x :: l.drop (j + 1)) = .some (cc, l.drop (j + 1))) := fun h1 h2 => by
        subst h1
        exact conf_end h2
      have HLN : Hid (mkB x = false → confF (p + 1) cc (x :: l.drop (j + 1)) = confF (p + 1) (addC (p + 1) cc x) (l.drop (j + 1))) := fun h1 => conf_line h1
      have CM := Lib.hid (fun w' => marker_any w' x (by omega))
      generalize mks[p + 1] = m at *
      clear em hk
      by_cases hx : x = m
      · have e1 := str_eq hx
        by_cases hp2 : p = 2
        · have e2 : ((p : Int) + 1 == 3) = true := by rw [beq_iff_eq]; omega
          have HE := Lib.hid (HR.out.trans (HEN.out hp2 hx))
          have hdx := (((hb.setCell (p := ⟨w.heap.size, 0, none⟩) (Nat.le_refl _) (.bool true)).setCell (p := ⟨w.heap.size, 1, none⟩) (Nat.le_refl _) (.slice A1 cc.1.length c1)).setCell (p := ⟨w.heap.size, 2, none⟩) (Nat.le_refl _) (.slice A0 cc.2.1.length c0)).setCell (p := ⟨w.heap.size, 3, none⟩) (Nat.le_refl _) (.slice A2 cc.2.2.length c2)
          have bx := (((b2.set 0 (.bool true)).set 1 (.slice A1 cc.1.length c1)).set 2 (.slice A0 cc.2.1.length c0)).set 3 (.slice A2 cc.2.2.length c2)
          have h3x := (((h3.box b2 (by decide) 0 (.bool true)).box (b2.set 0 (.bool true)) (by decide) 1 (.slice A1 cc.1.length c1)).box ((b2.set 0 (.bool true)).set 1 (.slice A1 cc.1.length c1)) (by decide) 2 (.slice A0 cc.2.1.length c0)).box (((b2.set 0 (.bool true)).set 1 (.slice A1 cc.1.length c1)).set 2 (.slice A0 cc.2.1.length c0)) (by decide) 3 (.slice A2 cc.2.2.length c2)
          clear HNX HBD HEN HLN HR CM hx hp2
          go_wp2_with fail
          rw [Exit.noGoto_ret]
          clear y0 y1 y2 y3 x0 x1 x2 x3 p0 p1 p2 hmc be bp b2 h3 hb h
          generalize (((wr.setCell ⟨w.heap.size, 0, none⟩ (.bool true)).setCell ⟨w.heap.size, 1, none⟩ (.slice A1 cc.1.length c1)).setCell ⟨w.heap.size, 2, none⟩ (.slice A0 cc.2.1.length c0)).setCell ⟨w.heap.size, 3, none⟩ (.slice A2 cc.2.2.length c2) = wx at *
          have k0 := bx.cell (j := 0) rfl
          have k1 := bx.cell (j := 1) rfl
          have k2 := bx.cell (j := 2) rfl
          have k3 := bx.cell (j := 3) rfl
          exact bodyPost_ret (v := .tuple #[.agg #[.bool true, .slice A1 cc.1.length c1, .slice A0 cc.2.1.length c0, .slice A2 cc.2.2.length c2], .int .i64 ((j : Int) + 1), .bool true]) (by simp [results, Try.results45, go_sem, k0, k1, k2, k3]) rfl (CfPost.some HE.out hlt h3x hdx)
        · have e2 : ((p : Int) + 1 == 3) = false := by rw [beq_eq_false_iff_ne]; omega
          have hR2 := HR.out.trans (HNX.out (by omega) hx)
          have HR2 := Lib.hid hR2
          clear HNX HBD HEN HLN HR CM hx hR2
          go_wp2_with fail
          go_roundw
          case rel => exact ⟨p + 1, j + 1, cc, _, _, _, by go_num, by omega, by go_num, by go_num, by omega, b2, bp, be, h3, ⟨by omega, by omega, by omega⟩, HR2.out, hb⟩
          case measure => simp [intOf]; omega
      · have e1 := str_ne hx
        have HBD2 := Lib.hid (HBD.out hx)
        have HLN2 := HLN
        clear HNX HBD HEN HLN hx
        cases hmb : mkB x
        · rw [hmb] at CM
          have HR2 := Lib.hid (HR.out.trans (HLN2.out hmb))
          clear HR HLN2 HBD2 hmb
          have oa : Below wr.heap.size wr (wr.alloc (.cells #[.string x] 9)) := (Below.refl _ _).alloc (Nat.le_refl _) _
          have bpa := bp.alloc (.cells #[.string x] 9)
          have b2a := b2.alloc (.cells #[.string x] 9)
          have bea := be.alloc (.cells #[.string x] 9)
          obtain ⟨vp, xs, s1, s2, s3, s4⟩ := (h3.keep oa).pick hl3 hp
          obtain ⟨Ap, cp, rfl, _, _⟩ := Sl.form s2.sl
          obtain ⟨vs, o1, o2⟩ := s2
          have S4 := Lib.hid s4
          have hpc := bp.cell s1
          have hbs := hb.size
          have O2 := Lib.hid o2
          have S1 := Lib.hid s1
          have hne := Lib.hid (Lib.ownBlock_ne o1 bpa (by decide))
          have hne2 := Lib.hid (Lib.ownBlock_ne o1 b2a (by decide))
          have hne3 := Lib.hid (Lib.ownBlock_ne o1 bea (by decide))
          clear s4 o2 s1
          go_wp2_with (first
            | (go_at_call 46; refine (CM.out _).mono ?_; rintro e w5 ⟨rfl, rfl⟩)
            | (at_builtin; go_must (refine wpList_append_any _ rfl (.tmp 23) (.tmp 25) _ rfl w.heap.size 9 i0 _ 1 16 Try.underlying36 hi hz0 hz1 hz2 rfl (by omega) (.slice Ap xs.length cp) xs.length vs rfl o1 _ 1 1 [.string x] rfl rfl (CellsAt.of_new _ #[.string x] 9 (0, 0)) (by simp [Value.oneCell']) (by omega) (by omega) (by simp; omega) ?_)
               intro v5 w5 ho5 hg5 ha5
               obtain ⟨B5, c5, rfl⟩ := own_form ho5
               have bp5 := bpa.grown hg5 (fun e => hne.out e.symm)
               have f5 := bp5.frozen p
               have q5 := bp5.cell S1.out))
          have b25 := b2a.grown hg5 (fun e => hne2.out e.symm)
          have be5 := bea.grown hg5 (fun e => hne3.out e.symm)
          obtain ⟨u0, u1, u2, e5, h35, hl5⟩ := S4.out w5 _ vs x O2.out hg5 ho5 ha5
          have bpx := bp5.set p (.slice B5 (xs.length + 1) c5)
          rw [e5] at bpx
          have b2x := b25.far (p := ⟨w.heap.size + 1, p, none⟩) (by simp) (.slice B5 (xs.length + 1) c5)
          have bex := be5.far (p := ⟨w.heap.size + 1, p, none⟩) (by simp) (.slice B5 (xs.length + 1) c5)
          have h3x := h35.box bp5 (by decide) p (.slice B5 (xs.length + 1) c5)
          have hbx := ((hb.alloc hbs (.cells #[.string x] 9)).grown hg5 (by simp; omega) (fun k hk => (o1.lt k hk).1)).setCell (p := ⟨w.heap.size + 1, p, none⟩) (by simp) (.slice B5 (xs.length + 1) c5)
          clear y0 y1 y2 y3 x0 x1 x2 x3 p0 p1 p2 hmc be bp b2 h3 hb bp5 b25 be5 h35 f5 q5 o1 ho5 hg5 ha5 bpa b2a bea hpc
          go_roundw
          case rel => exact ⟨p, j + 1, _, _, _, _, rfl, hp, by go_num, by go_num, by omega, b2x, bpx, bex, h3x, hl5, HR2.out, hbx⟩
          case measure => simp [intOf]; omega
        · rw [hmb] at CM
          have HE := Lib.hid (HR.out.trans (HBD2.out hmb))
          have bx := (((b2.set 0 (.bool false)).set 1 (.slice none 0 0)).set 2 (.slice none 0 0)).set 3 (.slice none 0 0)
          have hdx := (((hb.setCell (p := ⟨w.heap.size, 0, none⟩) (Nat.le_refl _) (.bool false)).setCell (p := ⟨w.heap.size, 1, none⟩) (Nat.le_refl _) (.slice none 0 0)).setCell (p := ⟨w.heap.size, 2, none⟩) (Nat.le_refl _) (.slice none 0 0)).setCell (p := ⟨w.heap.size, 3, none⟩) (Nat.le_refl _) (.slice none 0 0)
          clear HR HLN2 HBD2 hmb
          go_wp2_with (go_at_call 46; refine (CM.out _).mono ?_; rintro e w5 ⟨rfl, rfl⟩)
          rw [Exit.noGoto_ret]
          clear y0 y1 y2 y3 x0 x1 x2 x3 p0 p1 p2 hmc be bp b2 h3 hb h
          generalize (((wr.setCell ⟨w.heap.size, 0, none⟩ (.bool false)).setCell ⟨w.heap.size, 1, none⟩ (.slice none 0 0)).setCell ⟨w.heap.size, 2, none⟩ (.slice none 0 0)).setCell ⟨w.heap.size, 3, none⟩ (.slice none 0 0) = wx at *
          have k0 := bx.cell (j := 0) rfl
          have k1 := bx.cell (j := 1) rfl
          have k2 := bx.cell (j := 2) rfl
          have k3 := bx.cell (j := 3) rfl
          exact bodyPost_ret (v := .tuple #[.agg #[.bool false, .slice none 0 0, .slice none 0 0, .slice none 0 0], .int .i64 0, .bool false]) (by simp [results, Try.results45, go_sem, k0, k1, k2, k3]) rfl (CfPost.none HE.out hdx)
    · have HE : Hid (confF 1 cur0 l = .none) := by show _ = _; rw [HR.out, List.drop_of_length_le (by omega)]; rfl
      have e2 : ((p : Int) == 3) = false := by rw [beq_eq_false_iff_ne]; omega
      have hdx := (((hb.setCell (p := ⟨w.heap.size, 0, none⟩) (Nat.le_refl _) (.bool true)).setCell (p := ⟨w.heap.size, 1, none⟩) (Nat.le_refl _) (.slice A1 cc.1.length c1)).setCell (p := ⟨w.heap.size, 2, none⟩) (Nat.le_refl _) (.slice A0 cc.2.1.length c0)).setCell (p := ⟨w.heap.size, 3, none⟩) (Nat.le_refl _) (.slice A2 cc.2.2.length c2)
      have bx := (((b2.set 0 (.bool true)).set 1 (.slice A1 cc.1.length c1)).set 2 (.slice A0 cc.2.1.length c0)).set 3 (.slice A2 cc.2.2.length c2)
      clear HR
      go_wp2_with fail
      rw [Exit.noGoto_ret]
      clear y0 y1 y2 y3 x0 x1 x2 x3 p0 p1 p2 be bp b2 h3 hb h
      generalize (((wr.setCell ⟨w.heap.size, 0, none⟩ (.bool true)).setCell ⟨w.heap.size, 1, none⟩ (.slice A1 cc.1.length c1)).setCell ⟨w.heap.size, 2, none⟩ (.slice A0 cc.2.1.length c0)).setCell ⟨w.heap.size, 3, none⟩ (.slice A2 cc.2.2.length c2) = wx at *
      have k0 := bx.cell (j := 0) rfl
      have k1 := bx.cell (j := 1) rfl
      have k2 := bx.cell (j := 2) rfl
      have k3 := bx.cell (j := 3) rfl
      exact bodyPost_ret (v := .tuple #[.agg #[.bool true, .slice A1 cc.1.length c1, .slice A0 cc.2.1.length c0, .slice A2 cc.2.2.length c2], .int .i64 (j : Int), .bool false]) (by simp [results, Try.results45, go_sem, k0, k1, k2, k3]) rfl (CfPost.none HE.out hdx)
end Go.Proofs.Ythobbcafemkhbaa
