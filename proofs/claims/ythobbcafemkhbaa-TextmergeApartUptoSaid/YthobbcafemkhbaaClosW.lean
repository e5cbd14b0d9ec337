/- linediff.Diff's function literal: the walk. -/
import Derived.Test.YthobbcafemkhbaaClos
import Derived.Deep.CutBlock
namespace Go.Proofs.Ythobbcafemkhbaa
open Go.RowKit

/-- The state: the hunks that are shut, and the open one. -/
def ClSt (w : World) (B bo ba bl m : Nat) (done : List Hk) (cur : Option Hk) : Prop :=
  match cur with
  | none => ∃ vl cells, ClN w B bo ba bl m done vl cells
  | some (n, o, e) => (0 ≤ n ∧ n ≤ m) ∧ ∃ gl cap vo vn cells cs, ClO w B bo ba bl gl cap m done n vo vn o e cells cs

def ClPost (w : World) (B bo ba bl m : Nat) (done : List Hk) (cur : Option Hk) (e : Ending) (w' : World) : Prop :=
  e = .returned (.tuple #[]) ∧ ClSt w' B bo ba bl m done cur ∧ Fr B w w'

set_option maxHeartbeats 400000 in
theorem clos_keep (w : World) (B bo ba bl m : Nat) (done : List Hk) (cur : Option Hk) (hst : ClSt w B bo ba bl m done cur) (vk : Value) (x : ByteArray) (hk : Strs w vk [x]) (hm : m ≤ 4611686018427387904) :
    Calls Try.prog 80 #[vk, .slice none 0 0, .slice none 0 0, .pointer (some ⟨bo, 0, none⟩), .pointer (some ⟨ba, 0, none⟩), .pointer (some ⟨bl, 0, none⟩)] w
      (ClPost w B bo ba bl (m + 1) (done ++ cur.toList) none) := by
  obtain ⟨A, c, rfl, hc, hc'⟩ := hk.form
  rcases cur with _ | ⟨n, o, e⟩
  · obtain ⟨vl, cells, h⟩ := hst
    obtain ⟨c1, c2, c3, f1, f2, f3⟩ := h.facts
    have hne := h.nes.1.1
    go_enter Try.func80, Try.ntmps80
    go_wp2
    refine bodyPost_ret (results_none rfl _ _ _) rfl ⟨rfl, ⟨vl, cells, ?_⟩, ?_⟩
    · have := h.keep (m + 1)
      simpa using this
    · exact ((Fr.refl B w).set h.h1 (by decide) h.b1 _).set (h.h2.far (p := ⟨bo, 0, none⟩) hne.symm _) (by decide) h.b2 _
  · obtain ⟨⟨hn0, hn1⟩, gl, cap, vo, vn, cells, cs, h⟩ := hst
    obtain ⟨c1, c2, c3, f1, f2, f3, _⟩ := h.facts
    have hne := h.nes.1.1
    go_enter Try.func80, Try.ntmps80
    go_wp2
    refine bodyPost_ret (results_none rfl _ _ _) rfl ⟨rfl, ⟨.slice (some ⟨gl, 0, none⟩) (done.length + 1) cap, cells ++ [.int .i64 n, vo, vn], ?_⟩, ?_⟩
    · have := h.shut (by omega) (by omega) (m + 1)
      simpa using this
    · exact ((Fr.refl B w).set h.h1 (by decide) h.b1 _).set (h.h2.far (p := ⟨bo, 0, none⟩) hne.symm _) (by decide) h.b2 _

/-- Strs, in blocks below B. -/
def StrsB (w : World) (B : Nat) (v : Value) (xs : List ByteArray) : Prop := ∀ w', Below B w w' → Strs w' v xs
theorem StrsB.now {w : World} {B : Nat} {v : Value} {xs : List ByteArray} (h : StrsB w B v xs) : Strs w v xs := h w (Below.refl _ _)
theorem StrsB.below {w w' : World} {B : Nat} {v : Value} {xs : List ByteArray} (h : StrsB w B v xs) (k : Below B w w') : StrsB w' B v xs := fun _ h' => h _ (k.trans h')
theorem StrsB.fr {w w' : World} {B : Nat} {v : Value} {xs : List ByteArray} (h : StrsB w B v xs) (k : Fr B w w') : StrsB w' B v xs := h.below k.below
theorem StrsB.nil (w : World) (B : Nat) : StrsB w B (.slice none 0 0) [] := fun _ _ => Sl.nil _ _ _
theorem StrsB.of_strs {w : World} {v : Value} {xs : List ByteArray} (h : Strs w v xs) : StrsB w w.heap.size v xs := fun _ k => h.keep (Keeps.of_below k)
theorem StrsB.cellsAt {w : World} {B : Nat} {A : Option Addr} {n c : Nat} {xs : List ByteArray} (h : StrsB w B (.slice A n c) xs) : CellsAt w A (xs.map .string) := by
  obtain ⟨A', c', vs, e, h1, h2, h3, h4⟩ := h.now
  cases e
  have : vs = xs.map .string := by
    clear h1 h2 h3 h
    induction xs generalizing vs with
    | nil => exact h4
    | cons x xs ih =>
      obtain ⟨us, vs', e, _, r, ht⟩ := h4
      rw [e, show us = [.string x] from r, ih vs' ht]
      rfl
  rw [← this]; exact h3

set_option maxHeartbeats 1000000 in
theorem clos_open (W : World) (B bo ba bl m : Nat) (done : List Hk) (n : Int) (o e : List ByteArray) (hst : ClSt W B bo ba bl m done (some (n, o, e))) (vr va : Value) (rs as_ : List ByteArray) (hr : StrsB W B vr rs) (ha : StrsB W B va as_)
    (hm : m ≤ 1000000) (ho : o.length ≤ 1000000) (he : e.length ≤ 1000000) (hd : done.length ≤ 1000000) (hrl : rs.length ≤ 1000000) (hal : as_.length ≤ 1000000) :
    Calls Try.prog 80 #[.slice none 0 0, vr, va, .pointer (some ⟨bo, 0, none⟩), .pointer (some ⟨ba, 0, none⟩), .pointer (some ⟨bl, 0, none⟩)] W
      (ClPost W B bo ba bl (m + rs.length) done (some (n, o ++ rs, e ++ as_))) := by
  obtain ⟨Ar, cr, rfl, hr1, hr2⟩ := hr.now.form
  obtain ⟨Aa, ca, rfl, ha1, ha2⟩ := ha.now.form
  obtain ⟨i0, hi, hz0, hz1, hz2⟩ := info_parts Try.info_str
  obtain ⟨⟨hn0, hn1⟩, gl, cap, vo, vn, cells, cs, h⟩ := hst
  have hfr := Fr.refl B W
  have hrs := hr.cellsAt
  obtain ⟨c1, c2, c3, f1, f2, f3, f4, f5⟩ := h.facts
  obtain ⟨k0, k1, k2⟩ := h.cells3
  obtain ⟨oc, hoo, hoe⟩ := h.ho
  have hB : B ≤ W.heap.size := by have := h.b1; have := h.h1.lt; omega
  have hle := h.le
  go_enter Try.func80, Try.ntmps80
  go_wp2_with (at_builtin; go_must (refine wpList_append_any _ rfl (.tmp 33) (.tmp 34) _ rfl B 9 i0 _ 1 16 Try.underlying36 hi hz0 hz1 hz2 rfl (by omega) vo o.length oc rfl hoo Ar rs.length cr (rs.map .string) rfl (by simp) hrs (by simp [Value.oneCell']) (by omega) (by omega) hB ?_))
  intro v1 w1 hown1 hgr1 hat1
  obtain ⟨A1, d1, rfl⟩ := own_form hown1
  have hC1 := h.old hoe rfl hown1 hgr1 hat1
  have hf1 : Fr B W w1 := hfr.grown hoo (by decide) hgr1 hB
  have hb4 := h.h4.grown hgr1 h.nes.2.1.2.2.2.symm
  have g1 := hb4.frozen (done.length * 3 + 1)
  have g0 : w1.cell? ⟨gl, done.length * 3 + 1, none⟩ = some vo := by
    obtain ⟨_, q, _⟩ := three h.tk h.cl
    exact hb4.cell (by simpa using q)
  have hf2 := hf1.set (o := done.length * 3 + 1) hb4 (by decide) h.b4 (.slice A1 (o.length + rs.length) d1)
  clear c1 c2 c3 f1 f2 f3 f4 f5 k0 k1 k2 hoo hoe hrs hown1 hgr1 hat1 hf1 h hfr hle hB hb4
  go_upto_region 8 with (fail)
  generalize w1.setCell ⟨gl, done.length * 3 + 1, none⟩ (.slice A1 (o.length + rs.length) d1) = w2 at *
  clear g0 g1
  generalize cs.setIfInBounds (done.length * 3 + 1) (.slice A1 (o.length + rs.length) d1) = cs2 at *
  obtain ⟨c1, c2, c3, f1, f2, f3, f4, f5⟩ := hC1.facts
  obtain ⟨k0, k1, k2⟩ := hC1.cells3
  obtain ⟨oc, hoo, hoe⟩ := hC1.hn
  have has := (ha.fr hf2).cellsAt
  have hB : B ≤ w2.heap.size := by have := hC1.b1; have := hC1.h1.lt; omega
  have hle := hC1.le
  go_wp2_with (at_builtin; go_must (refine wpList_append_any _ rfl (.tmp 42) (.tmp 43) _ rfl B 9 i0 _ 1 16 Try.underlying36 hi hz0 hz1 hz2 rfl (by omega) vn e.length oc rfl hoo Aa as_.length ca (as_.map .string) rfl (by simp) has (by simp [Value.oneCell']) (by omega) (by omega) hB ?_))
  intro v1 w1 hown1 hgr1 hat1
  obtain ⟨A2, d2, rfl⟩ := own_form hown1
  have hC2 := hC1.new hoe rfl hown1 hgr1 hat1
  have hf1 : Fr B W w1 := hf2.grown hoo (by decide) hgr1 hB
  have hb4 := hC1.h4.grown hgr1 hC1.nes.2.2.2.2.2.symm
  have g1 := hb4.frozen (done.length * 3 + 2)
  have g0 : w1.cell? ⟨gl, done.length * 3 + 2, none⟩ = some vn := by
    obtain ⟨_, _, q⟩ := three hC1.tk hC1.cl
    exact hb4.cell (by simpa using q)
  have hf3 := hf1.set (o := done.length * 3 + 2) hb4 (by decide) hC1.b4 (.slice A2 (e.length + as_.length) d2)
  clear c1 c2 c3 f1 f2 f3 f4 f5 k0 k1 k2 hoo hoe has hown1 hgr1 hat1 hf1 hC1 hf2 hle hB hb4
  go_upto_region 9 with (fail)
  generalize w1.setCell ⟨gl, done.length * 3 + 2, none⟩ (.slice A2 (e.length + as_.length) d2) = w3 at *
  clear g0 g1
  generalize cs2.setIfInBounds (done.length * 3 + 2) (.slice A2 (e.length + as_.length) d2) = cs3 at *
  obtain ⟨c1, c2, c3, f1, f2, f3, f4, f5⟩ := hC2.facts
  go_wp2
  go_end0
  refine ⟨rfl, ⟨⟨hn0, by omega⟩, gl, cap, .slice A1 (o.length + rs.length) d1, .slice A2 (e.length + as_.length) d2, cells, cs3, ?_⟩, ?_⟩
  · have := hC2.at_ (m + rs.length)
    simpa using this
  · have := hf3.set (o := 0) hC2.h2 (by decide) hC2.b2 (.int .i64 ((m + rs.length : Nat) : Int))
    simpa using this

set_option maxHeartbeats 1000000 in
theorem clos_new (W : World) (B bo ba bl m : Nat) (done : List Hk) (hst : ClSt W B bo ba bl m done none) (vr va : Value) (rs as_ : List ByteArray) (hr : StrsB W B vr rs) (ha : StrsB W B va as_)
    (hm : m ≤ 1000000) (hd : done.length ≤ 1000000) (hrl : rs.length ≤ 1000000) (hal : as_.length ≤ 1000000) :
    Calls Try.prog 80 #[.slice none 0 0, vr, va, .pointer (some ⟨bo, 0, none⟩), .pointer (some ⟨ba, 0, none⟩), .pointer (some ⟨bl, 0, none⟩)] W
      (ClPost W B bo ba bl (m + rs.length) done (some ((m : Int), rs, as_))) := by
  obtain ⟨Ar, cr, rfl, hr1, hr2⟩ := hr.now.form
  obtain ⟨Aa, ca, rfl, ha1, ha2⟩ := ha.now.form
  obtain ⟨i0, hi, hz0, hz1, hz2⟩ := info_parts Try.info_str
  obtain ⟨i1, hi1, hy0, hy1, hy2⟩ := info_parts Try.info_hunk
  obtain ⟨vl, cells0, hN⟩ := hst
  obtain ⟨c1, c2, c3, f1, f2, f3⟩ := hN.facts
  have hB : B ≤ W.heap.size := by have := hN.b1; have := hN.h1.lt; omega
  have hsz := hN.h3.lt
  have how := hN.ow
  go_enter Try.func80, Try.ntmps80
  go_wp2_with (at_builtin; go_must (refine wpList_append_any _ rfl (.tmp 19) (.tmp 22) _ rfl B 92 i1 _ 3 56 Try.underlying89 hi1 hy0 hy1 hy2 rfl (by omega) vl done.length cells0 rfl (how.alloc _) _ 1 1 [.int .i64 m, .slice none 0 0, .slice none 0 0] rfl rfl (CellsAt.of_new _ _ _ _) (by simp [Value.oneCell']) (by omega) (by omega) (by simp; omega) ?_))
  intro v' w' hown hgr hat
  obtain ⟨gl, cap, cs, rfl, h⟩ := hN.open_ hown hgr (by simpa using hat)
  have e1 := (hN.h1.alloc (.cells #[.int .i64 m, .slice none 0 0, .slice none 0 0] 92)).grown hgr hN.nes.2.1.symm
  have e3 := (hN.h3.alloc (.cells #[.int .i64 m, .slice none 0 0, .slice none 0 0] 92)).grown hgr hN.nes.2.2.2.symm
  have p1 := e1.frozen 0
  have p3 := e3.frozen 0
  have q1 := e1.cell (j := 0) rfl
  have q3 := e3.cell (j := 0) rfl
  have hfr : Fr B W ((w'.setCell ⟨bl, 0, none⟩ (.slice (some ⟨gl, 0, none⟩) (done.length + 1) cap)).setCell ⟨bo, 0, none⟩ (.bool true)) :=
    ((((Fr.refl B W).alloc hB _).grown (how.alloc _) (by decide) hgr (by simp; omega)).set e3 (by decide) hN.b3 _).set (e1.far (p := ⟨bl, 0, none⟩) hN.nes.1.2.1 _) (by decide) hN.b1 _
  have hne := hN.nes.1.2.1
  clear c1 c2 c3 f1 f2 f3 how hown hgr hat hN e1 e3 hB hsz
  go_upto_region 6 with (fail)
  clear p1 p3 q1 q3 hne
  generalize (w'.setCell ⟨bl, 0, none⟩ (.slice (some ⟨gl, 0, none⟩) (done.length + 1) cap)).setCell ⟨bo, 0, none⟩ (.bool true) = w at *
  obtain ⟨vo, hvo⟩ : ∃ v : Value, v = .slice none 0 0 := ⟨_, rfl⟩
  have hrs := (hr.fr hfr).cellsAt
  obtain ⟨c1, c2, c3, f1, f2, f3, f4, f5⟩ := h.facts
  obtain ⟨k0, k1, k2⟩ := h.cells3
  obtain ⟨oc, hoo, hoe⟩ := h.ho
  have hB : B ≤ w.heap.size := by have := h.b1; have := h.h1.lt; omega
  have hle := h.le
  have hn0 : (0 : Int) ≤ m := by omega
  go_wp2_with (at_builtin; go_must (refine wpList_append_any _ rfl (.tmp 33) (.tmp 34) _ rfl B 9 i0 _ 1 16 Try.underlying36 hi hz0 hz1 hz2 rfl (by omega) (.slice none 0 0) 0 oc rfl hoo Ar rs.length cr (rs.map .string) rfl (by simp) hrs (by simp [Value.oneCell']) (by omega) (by omega) hB ?_))
  intro v1 w1 hown1 hgr1 hat1
  obtain ⟨A1, d1, rfl⟩ := own_form hown1
  have hC1 := h.old (xs := rs) hoe rfl (by simpa using hown1) hgr1 hat1
  have hf1 : Fr B W w1 := hfr.grown hoo (by decide) hgr1 hB
  have hb4 := h.h4.grown hgr1 h.nes.2.1.2.2.2.symm
  have g1 := hb4.frozen (done.length * 3 + 1)
  have g0 : w1.cell? ⟨gl, done.length * 3 + 1, none⟩ = some (.slice none 0 0) := by
    obtain ⟨_, q, _⟩ := three h.tk h.cl
    exact hb4.cell (by simpa using q)
  have hf2 := hf1.set (o := done.length * 3 + 1) hb4 (by decide) h.b4 (.slice A1 rs.length d1)
  clear c1 c2 c3 f1 f2 f3 f4 f5 k0 k1 k2 hoo hoe hrs hown1 hgr1 hat1 hf1 h hfr hle hB hb4
  go_upto_region 8 with (fail)
  generalize w1.setCell ⟨gl, done.length * 3 + 1, none⟩ (.slice A1 rs.length d1) = w2 at *
  clear g0 g1
  generalize cs.setIfInBounds (done.length * 3 + 1) (.slice A1 rs.length d1) = cs2 at *
  obtain ⟨c1, c2, c3, f1, f2, f3, f4, f5⟩ := hC1.facts
  obtain ⟨k0, k1, k2⟩ := hC1.cells3
  obtain ⟨oc, hoo, hoe⟩ := hC1.hn
  have has := (ha.fr hf2).cellsAt
  have hB : B ≤ w2.heap.size := by have := hC1.b1; have := hC1.h1.lt; omega
  have hle := hC1.le
  go_wp2_with (at_builtin; go_must (refine wpList_append_any _ rfl (.tmp 42) (.tmp 43) _ rfl B 9 i0 _ 1 16 Try.underlying36 hi hz0 hz1 hz2 rfl (by omega) (.slice none 0 0) 0 oc rfl hoo Aa as_.length ca (as_.map .string) rfl (by simp) has (by simp [Value.oneCell']) (by omega) (by omega) hB ?_))
  intro v1 w1 hown1 hgr1 hat1
  obtain ⟨A2, d2, rfl⟩ := own_form hown1
  have hC2 := hC1.new (xs := as_) hoe rfl (by simpa using hown1) hgr1 hat1
  have hf1 : Fr B W w1 := hf2.grown hoo (by decide) hgr1 hB
  have hb4 := hC1.h4.grown hgr1 hC1.nes.2.2.2.2.2.symm
  have g1 := hb4.frozen (done.length * 3 + 2)
  have g0 : w1.cell? ⟨gl, done.length * 3 + 2, none⟩ = some (.slice none 0 0) := by
    obtain ⟨_, _, q⟩ := three hC1.tk hC1.cl
    exact hb4.cell (by simpa using q)
  have hf3 := hf1.set (o := done.length * 3 + 2) hb4 (by decide) hC1.b4 (.slice A2 as_.length d2)
  clear c1 c2 c3 f1 f2 f3 f4 f5 k0 k1 k2 hoo hoe has hown1 hgr1 hat1 hf1 hC1 hf2 hle hB hb4
  go_upto_region 9 with (fail)
  generalize w1.setCell ⟨gl, done.length * 3 + 2, none⟩ (.slice A2 as_.length d2) = w3 at *
  clear g0 g1
  generalize cs2.setIfInBounds (done.length * 3 + 2) (.slice A2 as_.length d2) = cs3 at *
  obtain ⟨c1, c2, c3, f1, f2, f3, f4, f5⟩ := hC2.facts
  go_wp2
  go_end0
  refine ⟨rfl, ⟨⟨hn0, by omega⟩, gl, cap, .slice A1 rs.length d1, .slice A2 as_.length d2, cells0, cs3, ?_⟩, ?_⟩
  · have := hC2.at_ (m + rs.length)
    simpa using this
  · have := hf3.set (o := 0) hC2.h2 (by decide) hC2.b2 (.int .i64 ((m + rs.length : Nat) : Int))
    simpa using this
end Go.Proofs.Ythobbcafemkhbaa
