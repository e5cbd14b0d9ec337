/- journal: open. journal: Records. journal: Room. journal: write, write$1, run. journal: fill. -/
import Derived.Test.YtockmhhiomdlkaaJoA
import Derived.Test.YtockmhhiomdlkaaJnAll
import Derived.Test.YtockmhhiomdlkaaGen
import Derived.Test.YtockmhhiomdlkaaDkB
import Derived.Test.YtockmhhiomdlkaaCod
namespace Go.Proofs.Ytockmhhiomdlkaa
set_option linter.unusedVariables false
set_option linter.unusedSimpArgs false
open Go.RowKit
attribute [local go_sem] Oper.semAt_some

/-- An answer of open. -/
def OpnE (r : (Nat × List Txt × Nat) × Int) (W : World) (e : Ending) (w : World) : Prop :=
  ∃ v, e = .returned (.tuple #[.agg #[.int .i64 (r.1.1 : Int), v, .int .i64 (r.1.2.2 : Int)], .int .i64 r.2]) ∧ Txs w v r.1.2.1 ∧ Below W.heap.size W w
theorem OpnE.err {W w : World} {k : Int} (h : Below W.heap.size W w) : OpnE ((0, [], 0), k) W (.returned (.tuple #[.agg #[.int .i64 0, .slice none 0 0, .int .i64 0], .int .i64 k])) w := ⟨_, rfl, Txs.nil _, h⟩
/-- The two cells for the results. -/
structure Res2 (B : Nat) (b2 b3 : Nat) (W0 W : World) : Prop where
  r2 : Blk W b2 61 #[.int .i64 0, .slice none 0 0, .int .i64 0]
  r3 : Blk W b3 29 #[.int .i64 0]
  bel : Below B W0 W
theorem blk3 {w : World} {g : Nat} {t : TypeId} {a b c : Value} (h : Blk w g t #[a, b, c]) : w.cell? ⟨g, 0, none⟩ = some a ∧ w.cell? ⟨g, 1, none⟩ = some b ∧ w.cell? ⟨g, 2, none⟩ = some c ∧ w.frozen? ⟨g, 0, none⟩ = false ∧ w.frozen? ⟨g, 1, none⟩ = false ∧ w.frozen? ⟨g, 2, none⟩ = false :=
  ⟨h.cell (j := 0) rfl, h.cell (j := 1) rfl, h.cell (j := 2) rfl, h.frozen 0, h.frozen 1, h.frozen 2⟩

set_option maxRecDepth 100000 in
set_option maxHeartbeats 1000000 in
theorem open_bad (W : World) (vs vp : Value) (d : Dk) (h : DskP W vs vp d) (hk : chkJ d ≠ 0) :
    Calls Try.prog 33 #[.agg #[.int .i64 d.size, vs, vp, .int .i64 d.left]] W (OpnE (openD d) W) := by
  obtain ⟨A, c, P, cp, rfl, rfl, hc, hcp, hm, hmp⟩ := h.form
  rw [openD_bad hk]
  have K1 := ((Below.refl W.heap.size W).alloc (Nat.le_refl _) (.cells #[.int .i64 d.size, .slice A d.secs.length c, .slice P d.pend.length cp, .int .i64 d.left] 25)).alloc (by simp) (.cells #[.int .i64 0, .slice none 0 0, .int .i64 0] 61)
  have K2 := K1.alloc (by simp; omega) (.cells #[.int .i64 0] 29)
  have hb2 := (Blk.new (W.alloc (.cells #[.int .i64 d.size, .slice A d.secs.length c, .slice P d.pend.length cp, .int .i64 d.left] 25)) #[.int .i64 0, .slice none 0 0, .int .i64 0] 61).alloc (.cells #[.int .i64 0] 29)
  have hb3 := Blk.new ((W.alloc (.cells #[.int .i64 d.size, .slice A d.secs.length c, .slice P d.pend.length cp, .int .i64 d.left] 25)).alloc (.cells #[.int .i64 0, .slice none 0 0, .int .i64 0] 61)) #[.int .i64 0] 29
  rw [World.size_alloc] at hb2
  rw [World.size_alloc, World.size_alloc] at hb3
  have HD1 := h.keep (Keeps.of_below K2)
  have hbk := ((Blk.new W #[.int .i64 d.size, .slice A d.secs.length c, .slice P d.pend.length cp, .int .i64 d.left] 25).alloc (.cells #[.int .i64 0, .slice none 0 0, .int .i64 0] 61)).alloc (.cells #[.int .i64 0] 29)
  clear K1
  have hne : (chkJ d != 0) = true := by simpa using hk
  go_enter Try.func33, Try.ntmps33
  go_upto_region 1 with (fail)
  generalize ((W.alloc (.cells #[.int .i64 d.size, .slice A d.secs.length c, .slice P d.pend.length cp, .int .i64 d.left] 25)).alloc (.cells #[.int .i64 0, .slice none 0 0, .int .i64 0] 61)).alloc (.cells #[.int .i64 0] 29) = w1 at *
  have CH := Lib.hid (jcheck_any w1 _ _ d HD1)
  obtain ⟨q0, q1, q2, q3⟩ := box4 hbk (Below.refl _ _)
  generalize chkJ d = kk at *
  go_wp2_with fail
  refine CH.out.mono ?_
  rintro e w2 ⟨rfl, hb⟩
  have K3 := K2.trans (hb.mono K2.size)
  have x2 := hb2.keep hb
  have x3 := hb3.keep hb
  obtain ⟨a0, a1, a2, f0, f1, f2⟩ := blk3 x2
  have y0 := x3.cell (j := 0) rfl
  have y1 := x3.frozen 0
  have z2 := (((x2.set 0 (.int .i64 0)).set 1 (.slice none 0 0)).set 2 (.int .i64 0)).far (p := ⟨W.heap.size + 1 + 1, 0, none⟩) (by simp) (.int .i64 kk)
  have z3 := (((x3.far (p := ⟨W.heap.size + 1, 0, none⟩) (by simp) (.int .i64 0)).far (p := ⟨W.heap.size + 1, 1, none⟩) (by simp) (.slice none 0 0)).far (p := ⟨W.heap.size + 1, 2, none⟩) (by simp) (.int .i64 0)).set 0 (.int .i64 kk)
  have K4 := (((K3.setCell (p := ⟨W.heap.size + 1, 0, none⟩) (show W.heap.size ≤ W.heap.size + 1 by omega) (.int .i64 0)).setCell (p := ⟨W.heap.size + 1, 1, none⟩) (show W.heap.size ≤ W.heap.size + 1 by omega) (.slice none 0 0)).setCell (p := ⟨W.heap.size + 1, 2, none⟩) (show W.heap.size ≤ W.heap.size + 1 by omega) (.int .i64 0)).setCell (p := ⟨W.heap.size + 1 + 1, 0, none⟩) (show W.heap.size ≤ W.heap.size + 1 + 1 by omega) (.int .i64 kk)
  clear CH hb q0 q1 q2 q3 hbk hb2 hb3 K2 K3 HD1
  go_wp2
  clear a0 a1 a2 f0 f1 f2 y0 y1
  generalize (((w2.setCell ⟨W.heap.size + 1, 0, none⟩ (.int .i64 0)).setCell ⟨W.heap.size + 1, 1, none⟩ (.slice none 0 0)).setCell ⟨W.heap.size + 1, 2, none⟩ (.int .i64 0)).setCell ⟨W.heap.size + 1 + 1, 0, none⟩ (.int .i64 kk) = wx at *
  have k0 := z2.cell (j := 0) rfl
  have k1 := z2.cell (j := 1) rfl
  have k2 := z2.cell (j := 2) rfl
  have k3 := z3.cell (j := 0) rfl
  exact bodyPost_ret (v := .tuple #[.agg #[.int .i64 0, .slice none 0 0, .int .i64 0], .int .i64 kk]) (by simp [results, Try.results33, go_sem, k0, k1, k2, k3]) rfl (OpnE.err K4)
/-- The two result cells overwritten. -/
def put31 (w : World) (b2 b3 : Nat) (u0 u1 u2 k : Value) : World := (((w.setCell ⟨b2, 0, none⟩ u0).setCell ⟨b2, 1, none⟩ u1).setCell ⟨b2, 2, none⟩ u2).setCell ⟨b3, 0, none⟩ k
theorem put31_facts {w a : World} {b2 b3 B : Nat} {t2 t3 : TypeId} {v0 v1 v2 v3 : Value} (x2 : Blk w b2 t2 #[v0, v1, v2]) (x3 : Blk w b3 t3 #[v3]) (hne : b2 ≠ b3) (h2 : B ≤ b2) (h3 : B ≤ b3) (hb : Below B a w) (u0 u1 u2 k : Value) :
    Blk (put31 w b2 b3 u0 u1 u2 k) b2 t2 #[u0, u1, u2] ∧ Blk (put31 w b2 b3 u0 u1 u2 k) b3 t3 #[k] ∧ Below B a (put31 w b2 b3 u0 u1 u2 k) :=
  ⟨(((x2.set 0 u0).set 1 u1).set 2 u2).far (p := ⟨b3, 0, none⟩) hne k,
   (((x3.far (p := ⟨b2, 0, none⟩) (Ne.symm hne) u0).far (p := ⟨b2, 1, none⟩) (Ne.symm hne) u1).far (p := ⟨b2, 2, none⟩) (Ne.symm hne) u2).set 0 k,
   (((hb.setCell (p := ⟨b2, 0, none⟩) h2 u0).setCell (p := ⟨b2, 1, none⟩) h2 u1).setCell (p := ⟨b2, 2, none⟩) h2 u2).setCell (p := ⟨b3, 0, none⟩) h3 k⟩
theorem chkJ_zero {d : Dk} (h : chkJ d = 0) : Valid d ∧ 3 ≤ d.secs.length := by
  unfold chkJ at h
  by_cases h1 : chk d = 0
  · rw [if_neg (by simp [h1])] at h
    exact ⟨chk_zero.1 h1, by
      rcases Nat.lt_or_ge d.secs.length 3 with h2 | h2
      · rw [if_pos h2] at h; simp at h
      · exact h2⟩
  · rw [if_pos h1] at h
    exact absurd h h1

/-- What the loop over the frames keeps. -/
structure OpI (W0 : World) (B C b2 b3 b8 : Nat) (a0 : Nat) (pre : List (List Txt × Nat)) (W : World) : Prop where
  row : ∃ v, Blk W b8 61 #[.int .i64 (a0 : Int), v, .int .i64 ((lastE pre 0 : Nat) : Int)] ∧ W.ownsRow C 9 1 v (pre.flatMap (·.1)).length ((pre.flatMap (·.1)).flatMap txC)
  res : Res2 B b2 b3 W0 W
  hs : C ≤ W.heap.size
theorem blk_put {W : World} {g r : Nat} {t : TypeId} {cs : Array Value} {o o' : Obj} (hb : Blk W g t cs) (ho : W.heap[r]? = some o) (hc : o.isCells = false) : Blk (W.putObj r o') g t cs := (World.putObj_heap_other (by
  rintro rfl
  unfold Blk at hb
  rw [hb] at ho
  cases ho
  cases hc)).trans hb
theorem own_put {W : World} {r base n sz : Nat} {e : TypeId} {v : Value} {xs : List Value} {o o' : Obj} (h : W.ownsRow base e sz v n xs) (ho : W.heap[r]? = some o) (hc : o.isCells = false) : (W.putObj r o').ownsRow base e sz v n xs := by
  refine ⟨h.1, ?_⟩
  rcases h.2 with hn | ⟨g, cap, cur, rfl, hb, hg, rest⟩
  · exact .inl hn
  · exact .inr ⟨g, cap, cur, rfl, hb, blk_put (t := e) hg ho hc, rest⟩
theorem own_below {W W' : World} {base n sz : Nat} {e : TypeId} {v : Value} {xs : List Value} (h : W.ownsRow base e sz v n xs) (hb : Below W.heap.size W W') : W'.ownsRow base e sz v n xs := own_stab (M := fun _ => False) h (fun _ _ h => h) _ (Agree.of_below hb _)
theorem Res2.below {B b2 b3 : Nat} {W0 W W' : World} (h : Res2 B b2 b3 W0 W) (hB : B ≤ W.heap.size) (k : Below W.heap.size W W') : Res2 B b2 b3 W0 W' := ⟨h.r2.keep k, h.r3.keep k, h.bel.trans (k.mono hB)⟩
theorem below_put {B r : Nat} {a W : World} {o o' : Obj} (h : Below B a W) (hr : B ≤ r) (ho : W.heap[r]? = some o) : Below B a (W.putObj r o') :=
  h.grown (grownBy_putObj' W r o') (by have := (Array.getElem?_eq_some_iff.1 ho).1; omega) (fun k e => by cases e; exact hr)
theorem Res2.put {B b2 b3 : Nat} {W0 W : World} {r : Nat} {o o' : Obj} (h : Res2 B b2 b3 W0 W) (hr : B ≤ r) (ho : W.heap[r]? = some o) (hc : o.isCells = false) : Res2 B b2 b3 W0 (W.putObj r o') :=
  ⟨blk_put h.r2 ho hc, blk_put h.r3 ho hc, below_put h.bel hr ho⟩
section
variable {W0 W W' : World} {B C b2 b3 b8 a0 : Nat} {pre : List (List Txt × Nat)}
theorem OpI.below (h : OpI W0 B C b2 b3 b8 a0 pre W) (hB : B ≤ C) (k : Below W.heap.size W W') : OpI W0 B C b2 b3 b8 a0 pre W' := by
  obtain ⟨v, h1, h2⟩ := h.row
  exact ⟨⟨v, h1.keep k, own_below h2 k⟩, h.res.below (Nat.le_trans hB h.hs) k, Nat.le_trans h.hs k.size⟩
theorem OpI.put (h : OpI W0 B C b2 b3 b8 a0 pre W) {r : Nat} {o o' : Obj} (hr : B ≤ r) (ho : W.heap[r]? = some o) (hc : o.isCells = false) : OpI W0 B C b2 b3 b8 a0 pre (W.putObj r o') := by
  obtain ⟨v, h1, h2⟩ := h.row
  exact ⟨⟨v, blk_put h1 ho hc, own_put h2 ho hc⟩, h.res.put hr ho hc, by rw [World.putObj_size]; exact h.hs⟩
end
/-- After a frame that is none: the result cells. -/
structure OpX (W0 : World) (B b2 b3 : Nat) (W : World) : Prop where
  r2 : Blk W b2 61 #[.int .i64 0, .slice none 0 0, .int .i64 0]
  r3 : Blk W b3 29 #[.int .i64 13]
  bel : Below B W0 W
  hs : B ≤ W.heap.size
theorem txs_put {W : World} {v : Value} {l : List Txt} {r : Nat} {o o' : Obj} (h : Txs W v l) (ho : W.heap[r]? = some o) (hc : o.isCells = false) : Txs (W.putObj r o') v l := by
  obtain ⟨A, c, vs, rfl, h1, h2, h3, h4⟩ := h
  refine ⟨A, c, vs, rfl, h1, h2, ?_, h4⟩
  intro k u hu
  obtain ⟨b, off, e, hcell⟩ := h3 k u hu
  refine ⟨b, off, e, ?_⟩
  have hne : b ≠ r := by
    rintro rfl
    simp only [World.cell?, ho] at hcell
    cases o <;> simp_all [Obj.isCells]
  rw [← hcell]
  exact World.cell?_of_block (w := W) (World.putObj_heap_other hne)

theorem txs_map : ∀ l : List Txt, (l.map strB).map Value.string = l.flatMap txC
  | [] => rfl
  | x :: l => by
    have := txs_map l
    simp only [List.map_cons, List.flatMap_cons] at this ⊢
    rw [this]; rfl
theorem txs_cells {W : World} {A : Option Addr} {n c : Nat} {l : List Txt} (h : Txs W (.slice A n c) l) : CellsAt W A (l.flatMap txC) := by
  have := strs_cells' (show Strs W (.slice A n c) (l.map strB) from h)
  rwa [txs_map] at this
theorem txC_len (l : List Txt) : (l.flatMap txC).length = l.length := by
  induction l with
  | nil => rfl
  | cons x l ih => rw [List.flatMap_cons, List.length_append, ih, List.length_cons]; simp [txC]; omega
theorem flat_len : ∀ l : List (List Txt × Nat), (∀ x ∈ l, x.1.length ≤ 1000) → (l.flatMap (·.1)).length ≤ l.length * 1000
  | [], _ => by simp
  | x :: l, h => by
    have := flat_len l fun y hy => h y (by simp [hy])
    have := h x (by simp)
    rw [List.flatMap_cons, List.length_append, List.length_cons]
    omega

set_option maxRecDepth 100000 in
set_option maxHeartbeats 1000000 in
theorem open_good (W : World) (vs vp : Value) (d : Dk) (h : DskP W vs vp d) (hk : chkJ d = 0) :
    Calls Try.prog 33 #[.agg #[.int .i64 d.size, vs, vp, .int .i64 d.left]] W (OpnE (openD d) W) := by
  obtain ⟨i1, hi1, hy0, hy1, hy2⟩ := info_parts Try.info_tx
  obtain ⟨A, c, P, cp, rfl, rfl, hc, hcp, hm, hmp⟩ := h.form
  obtain ⟨hval, hn3⟩ := chkJ_zero hk
  have V := Lib.hid hval
  have v1 := hval.s1
  have v2 := hval.s2
  have v4 := hval.n2
  have K1 := ((Below.refl W.heap.size W).alloc (Nat.le_refl _) (.cells #[.int .i64 d.size, .slice A d.secs.length c, .slice P d.pend.length cp, .int .i64 d.left] 25)).alloc (by simp) (.cells #[.int .i64 0, .slice none 0 0, .int .i64 0] 61)
  have K2 := K1.alloc (by simp; omega) (.cells #[.int .i64 0] 29)
  have hb2 := (Blk.new (W.alloc (.cells #[.int .i64 d.size, .slice A d.secs.length c, .slice P d.pend.length cp, .int .i64 d.left] 25)) #[.int .i64 0, .slice none 0 0, .int .i64 0] 61).alloc (.cells #[.int .i64 0] 29)
  have hb3 := Blk.new ((W.alloc (.cells #[.int .i64 d.size, .slice A d.secs.length c, .slice P d.pend.length cp, .int .i64 d.left] 25)).alloc (.cells #[.int .i64 0, .slice none 0 0, .int .i64 0] 61)) #[.int .i64 0] 29
  rw [World.size_alloc] at hb2
  rw [World.size_alloc, World.size_alloc] at hb3
  have HD1 := h.keep (Keeps.of_below K2)
  have hbk := ((Blk.new W #[.int .i64 d.size, .slice A d.secs.length c, .slice P d.pend.length cp, .int .i64 d.left] 25).alloc (.cells #[.int .i64 0, .slice none 0 0, .int .i64 0] 61)).alloc (.cells #[.int .i64 0] 29)
  clear K1 hval
  have HK := Lib.hid hk
  refine (callsIn_wide (n := 3)).1 ?_
  refine callsIn_of_wp_marks Try.func33 rfl trivial ?_ rfl
  simp only [Try.ntmps33, List.size_toArray, List.length_cons, List.length_nil, Nat.reduceAdd, Nat.reduceSub, Array.replicate_succ, Array.replicate_zero, List.push_toArray, List.append_toArray, List.nil_append, List.cons_append]
  gi_upto_region 1 with (fail)
  generalize ((W.alloc (.cells #[.int .i64 d.size, .slice A d.secs.length c, .slice P d.pend.length cp, .int .i64 d.left] 25)).alloc (.cells #[.int .i64 0, .slice none 0 0, .int .i64 0] 61)).alloc (.cells #[.int .i64 0] 29) = w1 at *
  have CH := jcheck_any w1 _ _ d HD1
  rw [hk] at CH
  have CH' := Lib.hid CH
  clear CH hk
  obtain ⟨q0, q1, q2, q3⟩ := box4 hbk (Below.refl _ _)
  gi_wp2_with fail
  refine ⟨trivial, ?_⟩
  refine (callsIn_wide.2 CH'.out).mono ?_
  rintro e w2 ⟨rfl, hb⟩
  have K3 := K2.trans (hb.mono K2.size)
  have x2 := hb2.keep hb
  have x3 := hb3.keep hb
  have xk := hbk.keep hb
  have HD2 := HD1.keep (Keeps.of_below hb)
  clear CH' hb q0 q1 q2 q3 hbk hb2 hb3 K2 HD1
  obtain ⟨q0, q1, q2, q3⟩ := box4 xk (Below.refl _ _)
  have CL := Lib.hid (clone_any w2 A c d.secs HD2.sec (by omega) (by omega))
  have R := Lib.hid (Res2.mk x2 x3 K3)
  have XK := Lib.hid xk
  have hs2 := K3.size
  have hs3 := x3.lt
  clear x2 x3 K3 xk
  gi_wp2_with fail
  refine ⟨trivial, ?_⟩
  refine (callsIn_wide.2 CL.out).mono ?_
  rintro e w3 ⟨vl, rfl, hown, hb⟩
  obtain ⟨g, cap, rfl, hg0, hg1, hg2, hg3⟩ := own_row hown (by omega)
  have hown0 : w3.ownsRow w2.heap.size 9 1 (.slice (some ⟨g, 0, none⟩) d.secs.length cap) d.secs.length (((d.pend.take 0).foldl putW d.secs).map .string) := hown
  have R3 := Lib.hid (Res2.mk (R.out.r2.keep hb) (R.out.r3.keep hb) (R.out.bel.trans (hb.mono hs2)))
  have XK3 := Lib.hid (XK.out.keep hb)
  clear hown CL hb R XK HD2 q0 q1 q2 q3 hg1
  obtain ⟨q0, q1, q2, q3⟩ := box4 XK3.out (Below.refl _ _)
  gi_wp2
  gi_loopw [25] (fun t wr => ∃ k : Nat, k ≤ d.pend.length ∧ t = .int .i64 k ∧ wr.ownsRow w2.heap.size 9 1 (.slice (some ⟨g, 0, none⟩) d.secs.length cap) d.secs.length (((d.pend.take k).foldl putW d.secs).map .string) ∧ Blk wr W.heap.size 25 #[.int .i64 d.size, .slice A d.secs.length c, .slice P d.pend.length cp, .int .i64 d.left] ∧
    Hid (Res2 W.heap.size (W.heap.size + 1) (W.heap.size + 1 + 1) W wr)) (fun t _ => d.pend.length - (intOf t).toNat)
  case atStart => exact ⟨0, by omega, rfl, hown0, XK3.out, R3⟩
  case round =>
    clear hown0 R3 XK3 q0 q1 q2 q3
    obtain ⟨k, hk, rfl, hown, hxk, R⟩ := hrel
    have hpk := h.pen.keep (Keeps.of_below R.out.bel)
    have hbl := hxk.lt
    have hgl := (hown.lt g rfl).2
    have hbs := R.out.bel.size
    have hb3l := R.out.r3.lt
    obtain ⟨q0, q1, q2, q3⟩ := box4 hxk (Below.refl _ _)
    by_cases hlt : k < d.pend.length
    · obtain ⟨b, off, rfl, a1, a2, a3, a4⟩ := hpk.get hlt
      obtain ⟨e1, e2, e3⟩ := V.out.ws _ (List.getElem_mem hlt)
      obtain ⟨m, hm1⟩ := Int.eq_ofNat_of_zero_le e1
      generalize hs1 : d.pend[k].2 = s at *
      have HS := Lib.hid (cur_succ d.secs hlt hm1 hs1)
      have hml : m < d.secs.length := by omega
      rw [hm1] at a1
      have hlen : ((d.pend.take k).foldl putW d.secs).length = d.secs.length := foldl_putW_length _ _
      generalize (d.pend.take k).foldl putW d.secs = L at *
      have hmL : m < L.length := by omega
      have HL := Lib.hid hlen
      clear hlen hm1 hs1 e1 e2 e3 a3 a4 hpk
      have hbw := Blk.new wr #[.int .i64 (m : Int), .string s] 78
      have hxk3 := hxk.alloc (.cells #[.int .i64 (m : Int), .string s] 78)
      have R3 := Lib.hid (Res2.mk (R.out.r2.alloc (.cells #[.int .i64 (m : Int), .string s] 78)) (R.out.r3.alloc (.cells #[.int .i64 (m : Int), .string s] 78)) (R.out.bel.alloc hbs (.cells #[.int .i64 (m : Int), .string s] 78)))
      have hown3 := World.ownsRow.alloc hown (.cells #[.int .i64 (m : Int), .string s] 78)
      gi_upto_region 8 with (fail)
      generalize wr.alloc (.cells #[.int .i64 (m : Int), .string s] 78) = w4 at *
      generalize wr.heap.size = gw at *
      obtain ⟨o1, o2⟩ := own_at hown3 (i := m) (u := .string (L[m]'hmL)) (by simp)
      clear q0 q1 q2 q3 a1 a2 hown hxk R
      have p0 := hbw.cell (j := 0) rfl
      have p1 := hbw.cell (j := 1) rfl
      have HB := R3.out.bel.setCell (p := ⟨g, m, none⟩) (show W.heap.size ≤ g by omega) (.string s)
      have R4 := Lib.hid (Res2.mk (R3.out.r2.far (p := ⟨g, m, none⟩) (by simp; omega) (.string s)) (R3.out.r3.far (p := ⟨g, m, none⟩) (by simp; omega) (.string s)) HB)
      have HX4 := Lib.hid (hxk3.far (p := ⟨g, m, none⟩) (by simp; omega) (.string s))
      have HO4 := Lib.hid (own_set hown3 (i := m) (.string s))
      clear hown3 hxk3 R3 HB hbw
      gi_wp2
      go_roundw
      case rel => exact ⟨k + 1, by omega, by go_num, by rw [HS.out, List.map_set]; exact HO4.out, HX4.out, R4⟩
      case measure => simp [intOf]; omega
    · have hk' : d.pend.take k = d.pend := List.take_of_length_le (by omega)
      have hOS : wr.ownsRow w2.heap.size 9 1 (.slice (some ⟨g, 0, none⟩) d.secs.length cap) d.secs.length ((cur d).map .string) := by
        unfold cur
        rw [← hk']
        exact hown
      have hge : ¬ (k : Int) < (d.pend.length : Int) := by omega
      have HO := Lib.hid hOS
      have HXK := Lib.hid hxk
      have hsz := cur_length d
      have hcs := V.out
      -- the first byte
      obtain ⟨b0, hb0⟩ : ∃ x, x = (cur d)[0]'(by omega) := ⟨_, rfl⟩
      have hbz : (b0.size : Int) = d.size := by
        have hv := valid_cur V.out 0 (by omega)
        rw [hb0]
        exact hv.ss _ (List.getElem_mem _)
      have o1 : wr.cell? ⟨g, 0, none⟩ = some (.string b0) := (own_at hOS (i := 0) (u := .string b0) (by rw [hb0]; simp)).1
      have hb1 : 0 < b0.size := by omega
      have hact : actN d = b0[0].toNat := by
        unfold actN byte0
        rw [List.getD_eq_getElem?_getD, List.getElem?_eq_getElem (by omega : 0 < (cur d).length), Option.getD_some, ← hb0]
        have := head_at b0 hb1
        unfold bts
        rw [List.headD_eq_head?_getD, this]; rfl
      have hbd := b0[0].toNat_lt
      have hbx := Blk.new wr #[.int .i64 (b0[0].toNat : Int), .slice none 0 0, .int .i64 0] 61
      have R3 := Lib.hid (Res2.mk (R.out.r2.alloc (.cells #[.int .i64 (b0[0].toNat : Int), .slice none 0 0, .int .i64 0] 61)) (R.out.r3.alloc (.cells #[.int .i64 (b0[0].toNat : Int), .slice none 0 0, .int .i64 0] 61)) (R.out.bel.alloc hbs (.cells #[.int .i64 (b0[0].toNat : Int), .slice none 0 0, .int .i64 0] 61)))
      have hOS3 : OwS (wr.alloc (.cells #[.int .i64 (b0[0].toNat : Int), .slice none 0 0, .int .i64 0] 61)) w2.heap.size (.slice (some ⟨g, 0, none⟩) d.secs.length cap) (cur d) := by
        unfold OwS
        rw [cur_length]
        exact World.ownsRow.alloc hOS _
      have hxk3 := hxk.alloc (.cells #[.int .i64 (b0[0].toNat : Int), .slice none 0 0, .int .i64 0] 61)
      have hgz : W.heap.size + 2 < wr.heap.size := by omega
      have HACT := Lib.hid hact
      clear hk' hown hOS hxk hpk hlt hb0 hact HXK HO R
      gi_upto_region 11 with (fail)
      generalize wr.alloc (.cells #[.int .i64 (b0[0].toNat : Int), .slice none 0 0, .int .i64 0] 61) = w5 at *
      have HB0 : Hid (b0[0].toNat = actN d) := HACT.out.symm
      generalize b0[0].toNat = a0 at *
      generalize hb8 : wr.heap.size = b8 at *
      clear o1 q0 q1 q2 q3
      obtain ⟨cc0, cc1, cc2, cf0, cf1, cf2⟩ := blk3 hbx
      by_cases ha : a0 = 1 ∨ a0 = 2
      · have HE := Lib.hid (openD_some HK.out (by rw [← HB0.out]; exact ha))
        have ha2 : 1 ≤ a0 ∧ a0 ≤ 2 := by omega
        have HD5 := h.keep (Keeps.of_below R3.out.bel)
        have CF := Lib.hid (first_any w5 _ _ d HD5 v4 a0 ha2)
        obtain ⟨q0, q1, q2, q3⟩ := box4 hxk3 (Below.refl _ _)
        obtain ⟨g1, g2, g3, g4, g5, g6⟩ := first_w (n := d.secs.length) v4 ha2
        obtain ⟨h1, h2⟩ := half_bd hn3
        obtain ⟨h3, h4, _, _⟩ := first_bd hn3 ha
        clear g1 g2 g3
        have HZ0 : Hid (Below wr.heap.size w5 w5) := Below.refl _ _
        generalize hF : firstS d.secs.length a0 = F at *
        generalize hH : halfN d.secs.length = H at *
        have hsum : IntKind.i64.wrap ((F : Int) + (H : Int)) = ((F + H : Nat) : Int) := by rw [i64w (by omega) (by omega)]; omega
        have S1 : Hid (∀ (w : World) (xs : List ByteArray), Strs w (.slice (some ⟨g, 0, none⟩) d.secs.length cap) xs → xs.length = d.secs.length → Strs w (.slice (some ⟨g, F, none⟩) H (cap - F)) ((xs.drop F).take H)) := by
          intro w xs hx hl
          have := Sl.sliced hx (i := F) (j := F + H) (by omega) (by omega)
          have e : sliced (some ⟨g, 0, none⟩) F (F + H) cap 1 = .slice (some ⟨g, F, none⟩) H (cap - F) := by
            have e1 : cap ≠ 0 := by omega
            have e2 : cap ≠ F := by omega
            have e3 : F ≠ 0 := by omega
            simp [sliced, Addr.add, e1, e2, e3]
          rw [e, Nat.add_sub_cancel_left] at this
          exact this
        have HSZ : Hid (Siz d.size.toNat (cur d)) := by
          have hv := valid_cur V.out 0 (by omega)
          show ∀ s ∈ _, _
          intro s hs
          have hv2 : (s.size : Int) = d.size := hv.ss s hs
          omega
        have HAL : Hid ((areaOf (cur d) F H).length = H * d.size.toNat) := by
          show _ = _
          unfold areaOf
          rw [fb_len ((HSZ.out.drop F).take H), List.length_take, List.length_drop, hsz, Nat.min_eq_left (by omega)]
        have hHs : H * d.size.toNat ≤ 1000 * 512 := Nat.mul_le_mul g4 (by omega)
        rcases ha with ha | ha
        · have n1 : ((a0 : Int) != 1) = false := by rw [ha]; rfl
          clear ha
          gi_wp2_with fail
          refine ⟨trivial, ?_⟩
          refine (callsIn_wide.2 CF.out).mono ?_
          rintro e w6 ⟨rfl, hb6⟩
          have HD6 := HD5.keep (Keeps.of_below hb6)
          have X6 := hxk3.keep hb6
          have ch := half_any w6 _ _ d HD6
          rw [hH] at ch
          have CH := Lib.hid ch
          clear q0 q1 q2 q3 ch
          obtain ⟨q0, q1, q2, q3⟩ := box4 X6 (Below.refl _ _)
          clear cc0 cc1 cc2 cf0 cf1 cf2
          gi_wp2_with fail
          refine ⟨trivial, ?_⟩
          refine (callsIn_wide.2 CH.out).mono ?_
          rintro e w7 ⟨rfl, hb7⟩
          have hb57 := hb6.trans (hb7.mono hb6.size)
          have S7 := S1.out w7 (cur d) (by have := (hOS3.keep hb57).strs; exact this) hsz
          have X7 := X6.keep hb7
          have hxl : (((cur d).drop F).take H).length = H := by rw [List.length_take, List.length_drop, hsz]; omega
          have hfl : (((cur d).drop F).take H).flatMap bts = areaOf (cur d) F H := rfl
          have hal := HAL.out
          have cj := joinS_any w7 (some ⟨g, F, none⟩) (cap - F) (((cur d).drop F).take H) (by rw [hxl]; exact S7) (by omega) (by rw [hfl, hal]; omega)
          rw [hxl, hfl] at cj
          have CJ := Lib.hid cj
          have HB57 := Lib.hid hb57
          clear q0 q1 q2 q3 cj CH CF S7 X6 hb6 hb7 HD6 hb57 hxl hfl
          gi_wp2_with fail
          refine ⟨trivial, ?_⟩
          refine (callsIn_wide.2 CJ.out).mono ?_
          rintro e w8 ⟨rfl, hb8'⟩
          have X8 := X7.keep hb8'
          have HB58 := Lib.hid (HB57.out.trans (hb8'.mono HB57.out.size))
          have hzA := strB_size (areaOf (cur d) F H)
          rw [hal] at hzA
          have HbA : Hid (bts (strB (areaOf (cur d) F H)) = areaOf (cur d) F H) := bts_strB _
          have HARD : Hid (areaD d = areaX (areaOf (cur d) F H) d.size.toNat H) := by
            show _ = _
            unfold areaD
            rw [← HB0.out, hF, hH]
          clear CJ HB57 X7 hb8' hal
          obtain ⟨q0, q1, q2, q3⟩ := box4 X8 (Below.refl _ _)
          generalize strB (areaOf (cur d) F H) = AR at *
          have CFr := Lib.hid (frames_any AR d.size w8)
          gi_wp2_with fail
          refine ⟨trivial, ?_⟩
          refine (callsIn_wide.2 CFr.out).mono ?_
          rintro e w9 ⟨rfl, rfl⟩
          clear CFr q0 q1 q2 q3
          gi_wp2_with fail
          generalize hw9 : (w8.alloc (.cells #[.string AR] 9)).alloc (.cells #[.int .i64 d.size] 3) = w9 at *
          have hs9 : w9.heap.size = w8.heap.size + 2 := by rw [← hw9]; simp
          have xa : Blk w9 w8.heap.size 9 #[.string AR] := by rw [← hw9]; exact (Blk.new w8 _ _).alloc _
          have xz : Blk w9 (w8.heap.size + 1) 3 #[.int .i64 d.size] := by
            rw [← hw9]
            have := Blk.new (w8.alloc (.cells #[.string AR] 9)) #[.int .i64 d.size] 3
            rwa [World.size_alloc] at this
          have hB9 : Below w5.heap.size w5 w9 := by rw [← hw9]; exact (HB58.out.alloc HB58.out.size _).alloc (by have := HB58.out.size; simp; omega) _
          have hb8l := hbx.lt
          have hi0 : OpI W W.heap.size w9.heap.size (W.heap.size + 1) (W.heap.size + 1 + 1) b8 a0 [] w9 :=
            ⟨⟨.slice none 0 0, hbx.keep hB9, World.ownsRow_nil _ _ _ _⟩, R3.out.below (by omega) hB9, Nat.le_refl _⟩
          have hs59 := hB9.size
          have hs58 := HB58.out.size
          rw [show (d.size : Int) = ((d.size.toNat : Nat) : Int) by omega] at xz
          have hbd' : ∀ x ∈ (areaX (bts AR) d.size.toNat H).1, x.1.length ≤ 1000 := fun x hx => ((frX_bd (by omega) (by rw [HbA.out]; exact HAL.out) (H + 1) 0 (by omega)).2 x hx).1
          have hcn : (areaX (bts AR) d.size.toNat H).1.length ≤ 1000 := by
            have := (frX_bd (a := bts AR) (sz := d.size.toNat) (H := H) (by omega) (by rw [HbA.out]; exact HAL.out) (H + 1) 0 (by omega)).1
            exact Nat.le_trans this (by omega)
          rw [← HbA.out] at HARD
          generalize hX : areaX (bts AR) d.size.toNat H = X at *
          refine wp_range_stop (α := List Txt × Nat) (β := YldB) (gf := 83) (lb := #[.pointer (some ⟨w8.heap.size, 0, none⟩), .pointer (some ⟨w8.heap.size + 1, 0, none⟩)]) rfl (enters_of Try.func83 (by kernel_rfl) rfl)
            rfl mkY YldE YldZ (fun x b W r o o' ⟨e1, e2, hT⟩ ho hc => ⟨e1, e2, txs_put hT ho hc⟩)
            (fun b => b = b8 ∨ b = W.heap.size + 1 ∨ b = W.heap.size + 1 + 1) X.1 X.2 (OpI W W.heap.size w9.heap.size (W.heap.size + 1) (W.heap.size + 1 + 1) b8 a0) (OpX W W.heap.size (W.heap.size + 1) (W.heap.size + 1 + 1))
            (fun pre W1 W2 hb hi => hi.below (by omega) hb) (fun pre W1 r o o' hr hi ho hc => hi.put (by omega) ho hc)
            (fun W1 W2 hb hi => ⟨hi.r2.keep hb, hi.r3.keep hb, hi.bel.trans (hb.mono hi.hs), Nat.le_trans hi.hs hb.size⟩) (fun W1 r o o' hr hi ho hc => ⟨blk_put hi.r2 ho hc, blk_put hi.r3 ho hc, below_put hi.bel (by omega) ho, by rw [World.putObj_size]; exact hi.hs⟩)
            hi0 ?hit ?a1 ?assign ?body ?bad ?done ?stop
          case hit =>
            intro l J Jx hJb hXb hY hZ W1 hBW hJ0
            subst hX
            exact frames1_in 2 l (by omega) _ w9.heap.size w8.heap.size (w8.heap.size + 1) AR d.size.toNat H (by omega) (by omega) (by omega) hzA (show ¬ (_ ∨ _ ∨ _) by omega) (show ¬ (_ ∨ _ ∨ _) by omega) (by omega) (by omega) J Jx hJb hXb hY hZ W1 (xa.below hBW (by omega)) (xz.below hBW (by omega)) hJ0
          case assign =>
            intro l b W1 K hK
            unfold mkY
            gi_wp2
            exact hK
          case body =>
            rintro l pre x ⟨bA, bn, bc, bz⟩ W1 hsW hi hpre ⟨e1, e2, hT⟩
            simp only at e1 e2 hT
            subst e1
            subst e2
            obtain ⟨vr, hbx1, hrow⟩ := hi.row
            obtain ⟨vA, vc, rfl⟩ := own_form hrow
            obtain ⟨A2, c2, e0, hc2, _⟩ := hT.form
            cases e0
            have hsub := hpre.sublist.subset
            have hll := hpre.length_le
            rw [List.length_append, List.length_singleton] at hll
            have hf1 := flat_len pre fun y hy => hbd' y (hsub (by simp [hy]))
            have hx1 := hbd' x (hsub (by simp))
            have hcl := txs_cells hT
            have hneg : ¬ ((x.2 : Nat) : Int) < 0 := by omega
            have hb8l1 := hbx1.lt
            obtain ⟨t0, t1, t2, tf0, tf1, tf2⟩ := blk3 hbx1
            have HI := Lib.hid hi
            have hhs := hi.hs
            have hxl := txC_len x.1
            have hone : ∀ u ∈ x.1.flatMap txC, u.oneCell' = true := by
              intro u hu
              obtain ⟨y, _, hy⟩ := List.mem_flatMap.1 hu
              rw [List.mem_singleton.1 hy]; rfl
            simp only [mkY]
            generalize hLL : pre.flatMap (·.1) = L at *
            have HLL := Lib.hid hLL
            clear hi hT hsub hLL
            gi_wp2_with (gi_at_builtin; go_must (refine wpListIn_append_any _ rfl (.tmp 73) (.tmp 74) _ rfl w9.heap.size 9 i1 _ 1 16 Try.underlying22 hi1 hy0 hy1 hy2 rfl (by omega) (.slice vA L.length vc) L.length _ rfl hrow bA x.1.length bc (x.1.flatMap txC) rfl (by rw [hxl, Nat.mul_one]) hcl hone (by omega) (by omega) (by omega) ?_); intro v4 w4 hown4 hgr4 hat4; obtain ⟨A4, c4, rfl⟩ := own_form hown4; have hb84 := hbx1.grown hgr4 (fun e => own_ne_type hrow hbx1 (by decide) e.symm); obtain ⟨s0, s1, s2, sf0, sf1, sf2⟩ := blk3 hb84)
            have hb85 := (hb84.set 1 (.slice A4 (L.length + x.1.length) c4)).set 2 (.int .i64 ((x.2 : Nat) : Int))
            have hne8 : b8 ≠ W.heap.size + 1 ∧ b8 ≠ W.heap.size + 1 + 1 := by omega
            have hrl : ∀ gg, Value.ownBlock (.slice vA L.length vc) = some gg → w9.heap.size ≤ gg := fun gg e => (hrow.lt gg e).1
            have hKO : KeepsOthers W1 w4 := KeepsOthers.of_grownBy hgr4 fun j o hj hjo => by
              rcases hrow.2 with ⟨e1, _⟩ | ⟨gq, cap', cur', e1, _, hgq, _⟩
              · rw [e1] at hj; simp [Value.ownBlock] at hj
              · rw [e1] at hj
                have : gq = j := by simpa [Value.ownBlock] using hj
                subst this
                rw [hgq] at hjo
                cases hjo; rfl
            have hKN : KeepN (fun b => b = b8 ∨ b = W.heap.size + 1 ∨ b = W.heap.size + 1 + 1) w9.heap.size W1 w4 := ⟨hgr4.size, fun i o hi _ ho => (hgr4.block i (Array.getElem?_eq_some_iff.1 ho).1 (fun e => by have := hrl i e.symm; omega)).trans ho⟩
            rw [← hs9]
            have hr2 := HI.out.res.r2.grown hgr4 (fun e => own_ne_type hrow HI.out.res.r2 (by decide) e.symm)
            have hr3 := HI.out.res.r3.grown hgr4 (fun e => own_ne_type hrow HI.out.res.r3 (by decide) e.symm)
            have hbl4 : Below W.heap.size W w4 := HI.out.res.bel.grown hgr4 (by omega) (fun kq e => by have := hrl kq e; omega)
            have hnb := own_ne_type hown4 hb84 (by decide)
            have hown5 := own_stab (M := fun gg => gg = b8) hown4 (fun gg e1 e2 => hnb (by rw [e1, e2])) _ ((Agree.set1 w4 b8 1 (.slice A4 (L.length + x.1.length) c4)).trans (Agree.set1 _ b8 2 (.int .i64 ((x.2 : Nat) : Int))))
            refine ⟨(hKO.trans (KeepsOthers.setCell _ _ _)).trans (KeepsOthers.setCell _ _ _), (hKN.trans (KeepN.set (.inl rfl))).trans (KeepN.set (.inl rfl)), ⟨⟨.slice A4 (L.length + x.1.length) c4, ?_, ?_⟩, ⟨?_, ?_, ?_⟩, ?_⟩⟩
            · rw [lastE_snoc]; exact hb85
            · rw [List.flatMap_append, HLL.out, List.flatMap_cons, List.flatMap_nil, List.append_nil, List.length_append, List.flatMap_append]
              exact hown5
            · exact (hr2.far (p := ⟨b8, 1, none⟩) (by simp only; omega) _).far (p := ⟨b8, 2, none⟩) (by simp only; omega) _
            · exact (hr3.far (p := ⟨b8, 1, none⟩) (by simp only; omega) _).far (p := ⟨b8, 2, none⟩) (by simp only; omega) _
            · exact (hbl4.setCell (p := ⟨b8, 1, none⟩) (by simp only; omega) _).setCell (p := ⟨b8, 2, none⟩) (by simp only; omega) _
            · have := hgr4.size; simp [World.setCell]; omega
          case bad =>
            rintro l bb W1 hsW hi hst hz
            cases hz
            obtain ⟨t0, t1, t2, tf0, tf1, tf2⟩ := blk3 hi.res.r2
            have y0 := hi.res.r3.cell (j := 0) rfl
            have y1 := hi.res.r3.frozen 0
            obtain ⟨z2, z3, zb⟩ := put31_facts hi.res.r2 hi.res.r3 (by simp) (by omega) (by omega) hi.res.bel (.int .i64 0) (.slice none 0 0) (.int .i64 0) (.int .i64 13)
            have hhs := hi.hs
            have HI := Lib.hid hi
            have hl2 := hi.res.r2.lt
            have hl3 := hi.res.r3.lt
            clear hi
            simp only [mkY]
            gi_wp2
            try rw [← hs9]
            refine ⟨(((KeepsOthers.setCell _ _ _).trans (KeepsOthers.setCell _ _ _)).trans (KeepsOthers.setCell _ _ _)).trans (KeepsOthers.setCell _ _ _), (((KeepN.set (.inr (.inl rfl))).trans (KeepN.set (.inr (.inl rfl)))).trans (KeepN.set (.inr (.inl rfl)))).trans (KeepN.set (.inr (.inr rfl))), ⟨z2, z3, zb, ?_⟩⟩
            simp [World.setCell]; omega
          case done =>
            rintro D W1 hD hst hi hK
            obtain ⟨vr, hbx1, hrow⟩ := hi.row
            obtain ⟨vA, vc, rfl⟩ := own_form hrow
            have htx := Lib.hid (txs_own hrow)
            obtain ⟨t0, t1, t2, tf0, tf1, tf2⟩ := blk3 hi.res.r2
            obtain ⟨s0, s1, s2, sf0, sf1, sf2⟩ := blk3 hbx1
            have y0 := hi.res.r3.cell (j := 0) rfl
            have y1 := hi.res.r3.frozen 0
            have HI := Lib.hid hi
            have HRow := Lib.hid hrow
            have HKD := Lib.hid hK
            clear hi hrow hK
            generalize hLL : X.1.flatMap (·.1) = L at *
            have HLL := Lib.hid hLL
            clear hLL
            have HEE : Hid (openD d = ((a0, L, lastE X.1 0), 0)) := by
              show _ = _
              rw [HE.out, HARD.out, if_neg (by rw [hst]; simp), HLL.out, HB0.out]
            have HP := Lib.hid (put31_facts HI.out.res.r2 HI.out.res.r3 (by simp) (by omega) (by omega) HI.out.res.bel (.int .i64 (a0 : Int)) (.slice vA L.length vc) (.int .i64 ((lastE X.1 0 : Nat) : Int)) (.int .i64 0))
            have hb2l := HI.out.res.r2.lt
            generalize lastE X.1 0 = le at *
            gi_wp2
            change bodyPostM _ _ _ _ _ _ _ (put31 W1 (W.heap.size + 1) (W.heap.size + 1 + 1) (.int .i64 (a0 : Int)) (.slice vA L.length vc) (.int .i64 (le : Int)) (.int .i64 0))
            have hkd : (put31 W1 (W.heap.size + 1) (W.heap.size + 1 + 1) (.int .i64 (a0 : Int)) (.slice vA L.length vc) (.int .i64 (le : Int)) (.int .i64 0)).heap[D]? = some (.deferred (some [])) := by
              unfold put31
              rw [Below.heap_setCell _ ⟨W.heap.size + 1 + 1, 0, none⟩ _ D (by simp only; omega), Below.heap_setCell _ ⟨W.heap.size + 1, 2, none⟩ _ D (by simp only; omega), Below.heap_setCell _ ⟨W.heap.size + 1, 1, none⟩ _ D (by simp only; omega), Below.heap_setCell _ ⟨W.heap.size + 1, 0, none⟩ _ D (by simp only; omega)]
              exact HKD.out
            have hrow' : (put31 W1 (W.heap.size + 1) (W.heap.size + 1 + 1) (.int .i64 (a0 : Int)) (.slice vA L.length vc) (.int .i64 (le : Int)) (.int .i64 0)).ownsRow w9.heap.size 9 1 (.slice vA L.length vc) L.length (L.flatMap txC) := by
              have hA : Agree (fun gg => gg = W.heap.size + 1 ∨ gg = W.heap.size + 1 + 1) W1 (put31 W1 (W.heap.size + 1) (W.heap.size + 1 + 1) (.int .i64 (a0 : Int)) (.slice vA L.length vc) (.int .i64 (le : Int)) (.int .i64 0)) := by
                unfold put31
                exact (((Agree.setCell (p := ⟨W.heap.size + 1, 0, none⟩) _ (.inl rfl) _).trans (Agree.setCell (p := ⟨W.heap.size + 1, 1, none⟩) _ (.inl rfl) _)).trans (Agree.setCell (p := ⟨W.heap.size + 1, 2, none⟩) _ (.inl rfl) _)).trans (Agree.setCell (p := ⟨W.heap.size + 1 + 1, 0, none⟩) _ (.inr rfl) _)
              exact own_stab HRow.out (fun gg e1 e2 => by have := (HRow.out.lt gg e1).1; omega) _ hA
            obtain ⟨z2, z3, zb⟩ := HP.out
            clear t0 t1 t2 tf0 tf1 tf2 s0 s1 s2 sf0 sf1 sf2 y0 y1 HP
            generalize put31 W1 (W.heap.size + 1) (W.heap.size + 1 + 1) (.int .i64 (a0 : Int)) (.slice vA L.length vc) (.int .i64 (le : Int)) (.int .i64 0) = wx at *
            have z2 := blk_put (o' := .deferred none) z2 hkd rfl
            have z3 := blk_put (o' := .deferred none) z3 hkd rfl
            have zb := below_put (o' := .deferred none) zb (show W.heap.size ≤ D by omega) hkd
            have zr := txs_own (own_put (o' := .deferred none) hrow' hkd rfl)
            have k0 := z2.cell (j := 0) rfl
            have k1 := z2.cell (j := 1) rfl
            have k2 := z2.cell (j := 2) rfl
            have k3 := z3.cell (j := 0) rfl
            have htk := run_takeDeferred (P := Try.prog) hkd
            generalize wx.putObj D (.deferred none) = wy at *
            refine ⟨by simp, .inl ⟨_, _, rfl, htk, ?_⟩⟩
            exact ⟨.tuple #[.agg #[.int .i64 (a0 : Int), .slice vA L.length vc, .int .i64 (le : Int)], .int .i64 0], by simp [results, Try.results33, go_sem, k0, k1, k2, k3], by rw [HEE.out]; exact ⟨_, rfl, zr, zb⟩⟩
          case stop =>
            rintro D W1 hD hst hx hK
            refine wpIn_ret ?_
            have z2 := blk_put (o' := .deferred none) hx.r2 hK rfl
            have z3 := blk_put (o' := .deferred none) hx.r3 hK rfl
            have zb := below_put (o' := .deferred none) hx.bel (show W.heap.size ≤ D by omega) hK
            have k0 := z2.cell (j := 0) rfl
            have k1 := z2.cell (j := 1) rfl
            have k2 := z2.cell (j := 2) rfl
            have k3 := z3.cell (j := 0) rfl
            have HEE : openD d = ((0, [], 0), 13) := by rw [HE.out, HARD.out, if_pos hst]
            have htk := run_takeDeferred (P := Try.prog) hK
            generalize W1.putObj D (.deferred none) = wx at *
            refine ⟨by simp, .inl ⟨_, _, rfl, htk, ?_⟩⟩
            exact ⟨.tuple #[.agg #[.int .i64 0, .slice none 0 0, .int .i64 0], .int .i64 13], by simp [results, Try.results33, go_sem, k0, k1, k2, k3], by rw [HEE]; exact OpnE.err zb⟩
        · have n1 : ((a0 : Int) != 1) = true := by rw [ha]; rfl
          have n2 : ((a0 : Int) != 2) = false := by rw [ha]; rfl
          clear ha
          gi_wp2_with fail
          refine ⟨trivial, ?_⟩
          refine (callsIn_wide.2 CF.out).mono ?_
          rintro e w6 ⟨rfl, hb6⟩
          have HD6 := HD5.keep (Keeps.of_below hb6)
          have X6 := hxk3.keep hb6
          have ch := half_any w6 _ _ d HD6
          rw [hH] at ch
          have CH := Lib.hid ch
          clear q0 q1 q2 q3 ch
          obtain ⟨q0, q1, q2, q3⟩ := box4 X6 (Below.refl _ _)
          clear cc0 cc1 cc2 cf0 cf1 cf2
          gi_wp2_with fail
          refine ⟨trivial, ?_⟩
          refine (callsIn_wide.2 CH.out).mono ?_
          rintro e w7 ⟨rfl, hb7⟩
          have hb57 := hb6.trans (hb7.mono hb6.size)
          have S7 := S1.out w7 (cur d) (by have := (hOS3.keep hb57).strs; exact this) hsz
          have X7 := X6.keep hb7
          have hxl : (((cur d).drop F).take H).length = H := by rw [List.length_take, List.length_drop, hsz]; omega
          have hfl : (((cur d).drop F).take H).flatMap bts = areaOf (cur d) F H := rfl
          have hal := HAL.out
          have cj := joinS_any w7 (some ⟨g, F, none⟩) (cap - F) (((cur d).drop F).take H) (by rw [hxl]; exact S7) (by omega) (by rw [hfl, hal]; omega)
          rw [hxl, hfl] at cj
          have CJ := Lib.hid cj
          have HB57 := Lib.hid hb57
          clear q0 q1 q2 q3 cj CH CF S7 X6 hb6 hb7 HD6 hb57 hxl hfl
          gi_wp2_with fail
          refine ⟨trivial, ?_⟩
          refine (callsIn_wide.2 CJ.out).mono ?_
          rintro e w8 ⟨rfl, hb8'⟩
          have X8 := X7.keep hb8'
          have HB58 := Lib.hid (HB57.out.trans (hb8'.mono HB57.out.size))
          have hzA := strB_size (areaOf (cur d) F H)
          rw [hal] at hzA
          have HbA : Hid (bts (strB (areaOf (cur d) F H)) = areaOf (cur d) F H) := bts_strB _
          have HARD : Hid (areaD d = areaX (areaOf (cur d) F H) d.size.toNat H) := by
            show _ = _
            unfold areaD
            rw [← HB0.out, hF, hH]
          clear CJ HB57 X7 hb8' hal
          obtain ⟨q0, q1, q2, q3⟩ := box4 X8 (Below.refl _ _)
          generalize strB (areaOf (cur d) F H) = AR at *
          have CFr := Lib.hid (frames_any AR d.size w8)
          gi_wp2_with fail
          refine ⟨trivial, ?_⟩
          refine (callsIn_wide.2 CFr.out).mono ?_
          rintro e w9 ⟨rfl, rfl⟩
          clear CFr q0 q1 q2 q3
          gi_wp2_with fail
          generalize hw9 : (w8.alloc (.cells #[.string AR] 9)).alloc (.cells #[.int .i64 d.size] 3) = w9 at *
          have hs9 : w9.heap.size = w8.heap.size + 2 := by rw [← hw9]; simp
          have xa : Blk w9 w8.heap.size 9 #[.string AR] := by rw [← hw9]; exact (Blk.new w8 _ _).alloc _
          have xz : Blk w9 (w8.heap.size + 1) 3 #[.int .i64 d.size] := by
            rw [← hw9]
            have := Blk.new (w8.alloc (.cells #[.string AR] 9)) #[.int .i64 d.size] 3
            rwa [World.size_alloc] at this
          have hB9 : Below w5.heap.size w5 w9 := by rw [← hw9]; exact (HB58.out.alloc HB58.out.size _).alloc (by have := HB58.out.size; simp; omega) _
          have hb8l := hbx.lt
          have hi0 : OpI W W.heap.size w9.heap.size (W.heap.size + 1) (W.heap.size + 1 + 1) b8 a0 [] w9 :=
            ⟨⟨.slice none 0 0, hbx.keep hB9, World.ownsRow_nil _ _ _ _⟩, R3.out.below (by omega) hB9, Nat.le_refl _⟩
          have hs59 := hB9.size
          have hs58 := HB58.out.size
          rw [show (d.size : Int) = ((d.size.toNat : Nat) : Int) by omega] at xz
          have hbd' : ∀ x ∈ (areaX (bts AR) d.size.toNat H).1, x.1.length ≤ 1000 := fun x hx => ((frX_bd (by omega) (by rw [HbA.out]; exact HAL.out) (H + 1) 0 (by omega)).2 x hx).1
          have hcn : (areaX (bts AR) d.size.toNat H).1.length ≤ 1000 := by
            have := (frX_bd (a := bts AR) (sz := d.size.toNat) (H := H) (by omega) (by rw [HbA.out]; exact HAL.out) (H + 1) 0 (by omega)).1
            exact Nat.le_trans this (by omega)
          rw [← HbA.out] at HARD
          generalize hX : areaX (bts AR) d.size.toNat H = X at *
          refine wp_range_stop (α := List Txt × Nat) (β := YldB) (gf := 83) (lb := #[.pointer (some ⟨w8.heap.size, 0, none⟩), .pointer (some ⟨w8.heap.size + 1, 0, none⟩)]) rfl (enters_of Try.func83 (by kernel_rfl) rfl)
            rfl mkY YldE YldZ (fun x b W r o o' ⟨e1, e2, hT⟩ ho hc => ⟨e1, e2, txs_put hT ho hc⟩)
            (fun b => b = b8 ∨ b = W.heap.size + 1 ∨ b = W.heap.size + 1 + 1) X.1 X.2 (OpI W W.heap.size w9.heap.size (W.heap.size + 1) (W.heap.size + 1 + 1) b8 a0) (OpX W W.heap.size (W.heap.size + 1) (W.heap.size + 1 + 1))
            (fun pre W1 W2 hb hi => hi.below (by omega) hb) (fun pre W1 r o o' hr hi ho hc => hi.put (by omega) ho hc)
            (fun W1 W2 hb hi => ⟨hi.r2.keep hb, hi.r3.keep hb, hi.bel.trans (hb.mono hi.hs), Nat.le_trans hi.hs hb.size⟩) (fun W1 r o o' hr hi ho hc => ⟨blk_put hi.r2 ho hc, blk_put hi.r3 ho hc, below_put hi.bel (by omega) ho, by rw [World.putObj_size]; exact hi.hs⟩)
            hi0 ?hitq ?a1q ?assignq ?bodyq ?badq ?doneq ?stopq
          case hitq =>
            intro l J Jx hJb hXb hY hZ W1 hBW hJ0
            subst hX
            exact frames1_in 2 l (by omega) _ w9.heap.size w8.heap.size (w8.heap.size + 1) AR d.size.toNat H (by omega) (by omega) (by omega) hzA (show ¬ (_ ∨ _ ∨ _) by omega) (show ¬ (_ ∨ _ ∨ _) by omega) (by omega) (by omega) J Jx hJb hXb hY hZ W1 (xa.below hBW (by omega)) (xz.below hBW (by omega)) hJ0
          case assignq =>
            intro l b W1 K hK
            unfold mkY
            gi_wp2
            exact hK
          case bodyq =>
            rintro l pre x ⟨bA, bn, bc, bz⟩ W1 hsW hi hpre ⟨e1, e2, hT⟩
            simp only at e1 e2 hT
            subst e1
            subst e2
            obtain ⟨vr, hbx1, hrow⟩ := hi.row
            obtain ⟨vA, vc, rfl⟩ := own_form hrow
            obtain ⟨A2, c2, e0, hc2, _⟩ := hT.form
            cases e0
            have hsub := hpre.sublist.subset
            have hll := hpre.length_le
            rw [List.length_append, List.length_singleton] at hll
            have hf1 := flat_len pre fun y hy => hbd' y (hsub (by simp [hy]))
            have hx1 := hbd' x (hsub (by simp))
            have hcl := txs_cells hT
            have hneg : ¬ ((x.2 : Nat) : Int) < 0 := by omega
            have hb8l1 := hbx1.lt
            obtain ⟨t0, t1, t2, tf0, tf1, tf2⟩ := blk3 hbx1
            have HI := Lib.hid hi
            have hhs := hi.hs
            have hxl := txC_len x.1
            have hone : ∀ u ∈ x.1.flatMap txC, u.oneCell' = true := by
              intro u hu
              obtain ⟨y, _, hy⟩ := List.mem_flatMap.1 hu
              rw [List.mem_singleton.1 hy]; rfl
            simp only [mkY]
            generalize hLL : pre.flatMap (·.1) = L at *
            have HLL := Lib.hid hLL
            clear hi hT hsub hLL
            gi_wp2_with (gi_at_builtin; go_must (refine wpListIn_append_any _ rfl (.tmp 73) (.tmp 74) _ rfl w9.heap.size 9 i1 _ 1 16 Try.underlying22 hi1 hy0 hy1 hy2 rfl (by omega) (.slice vA L.length vc) L.length _ rfl hrow bA x.1.length bc (x.1.flatMap txC) rfl (by rw [hxl, Nat.mul_one]) hcl hone (by omega) (by omega) (by omega) ?_); intro v4 w4 hown4 hgr4 hat4; obtain ⟨A4, c4, rfl⟩ := own_form hown4; have hb84 := hbx1.grown hgr4 (fun e => own_ne_type hrow hbx1 (by decide) e.symm); obtain ⟨s0, s1, s2, sf0, sf1, sf2⟩ := blk3 hb84)
            have hb85 := (hb84.set 1 (.slice A4 (L.length + x.1.length) c4)).set 2 (.int .i64 ((x.2 : Nat) : Int))
            have hne8 : b8 ≠ W.heap.size + 1 ∧ b8 ≠ W.heap.size + 1 + 1 := by omega
            have hrl : ∀ gg, Value.ownBlock (.slice vA L.length vc) = some gg → w9.heap.size ≤ gg := fun gg e => (hrow.lt gg e).1
            have hKO : KeepsOthers W1 w4 := KeepsOthers.of_grownBy hgr4 fun j o hj hjo => by
              rcases hrow.2 with ⟨e1, _⟩ | ⟨gq, cap', cur', e1, _, hgq, _⟩
              · rw [e1] at hj; simp [Value.ownBlock] at hj
              · rw [e1] at hj
                have : gq = j := by simpa [Value.ownBlock] using hj
                subst this
                rw [hgq] at hjo
                cases hjo; rfl
            have hKN : KeepN (fun b => b = b8 ∨ b = W.heap.size + 1 ∨ b = W.heap.size + 1 + 1) w9.heap.size W1 w4 := ⟨hgr4.size, fun i o hi _ ho => (hgr4.block i (Array.getElem?_eq_some_iff.1 ho).1 (fun e => by have := hrl i e.symm; omega)).trans ho⟩
            rw [← hs9]
            have hr2 := HI.out.res.r2.grown hgr4 (fun e => own_ne_type hrow HI.out.res.r2 (by decide) e.symm)
            have hr3 := HI.out.res.r3.grown hgr4 (fun e => own_ne_type hrow HI.out.res.r3 (by decide) e.symm)
            have hbl4 : Below W.heap.size W w4 := HI.out.res.bel.grown hgr4 (by omega) (fun kq e => by have := hrl kq e; omega)
            have hnb := own_ne_type hown4 hb84 (by decide)
            have hown5 := own_stab (M := fun gg => gg = b8) hown4 (fun gg e1 e2 => hnb (by rw [e1, e2])) _ ((Agree.set1 w4 b8 1 (.slice A4 (L.length + x.1.length) c4)).trans (Agree.set1 _ b8 2 (.int .i64 ((x.2 : Nat) : Int))))
            refine ⟨(hKO.trans (KeepsOthers.setCell _ _ _)).trans (KeepsOthers.setCell _ _ _), (hKN.trans (KeepN.set (.inl rfl))).trans (KeepN.set (.inl rfl)), ⟨⟨.slice A4 (L.length + x.1.length) c4, ?_, ?_⟩, ⟨?_, ?_, ?_⟩, ?_⟩⟩
            · rw [lastE_snoc]; exact hb85
            · rw [List.flatMap_append, HLL.out, List.flatMap_cons, List.flatMap_nil, List.append_nil, List.length_append, List.flatMap_append]
              exact hown5
            · exact (hr2.far (p := ⟨b8, 1, none⟩) (by simp only; omega) _).far (p := ⟨b8, 2, none⟩) (by simp only; omega) _
            · exact (hr3.far (p := ⟨b8, 1, none⟩) (by simp only; omega) _).far (p := ⟨b8, 2, none⟩) (by simp only; omega) _
            · exact (hbl4.setCell (p := ⟨b8, 1, none⟩) (by simp only; omega) _).setCell (p := ⟨b8, 2, none⟩) (by simp only; omega) _
            · have := hgr4.size; simp [World.setCell]; omega
          case badq =>
            rintro l bb W1 hsW hi hst hz
            cases hz
            obtain ⟨t0, t1, t2, tf0, tf1, tf2⟩ := blk3 hi.res.r2
            have y0 := hi.res.r3.cell (j := 0) rfl
            have y1 := hi.res.r3.frozen 0
            obtain ⟨z2, z3, zb⟩ := put31_facts hi.res.r2 hi.res.r3 (by simp) (by omega) (by omega) hi.res.bel (.int .i64 0) (.slice none 0 0) (.int .i64 0) (.int .i64 13)
            have hhs := hi.hs
            have HI := Lib.hid hi
            have hl2 := hi.res.r2.lt
            have hl3 := hi.res.r3.lt
            clear hi
            simp only [mkY]
            gi_wp2
            try rw [← hs9]
            refine ⟨(((KeepsOthers.setCell _ _ _).trans (KeepsOthers.setCell _ _ _)).trans (KeepsOthers.setCell _ _ _)).trans (KeepsOthers.setCell _ _ _), (((KeepN.set (.inr (.inl rfl))).trans (KeepN.set (.inr (.inl rfl)))).trans (KeepN.set (.inr (.inl rfl)))).trans (KeepN.set (.inr (.inr rfl))), ⟨z2, z3, zb, ?_⟩⟩
            simp [World.setCell]; omega
          case doneq =>
            rintro D W1 hD hst hi hK
            obtain ⟨vr, hbx1, hrow⟩ := hi.row
            obtain ⟨vA, vc, rfl⟩ := own_form hrow
            have htx := Lib.hid (txs_own hrow)
            obtain ⟨t0, t1, t2, tf0, tf1, tf2⟩ := blk3 hi.res.r2
            obtain ⟨s0, s1, s2, sf0, sf1, sf2⟩ := blk3 hbx1
            have y0 := hi.res.r3.cell (j := 0) rfl
            have y1 := hi.res.r3.frozen 0
            have HI := Lib.hid hi
            have HRow := Lib.hid hrow
            have HKD := Lib.hid hK
            clear hi hrow hK
            generalize hLL : X.1.flatMap (·.1) = L at *
            have HLL := Lib.hid hLL
            clear hLL
            have HEE : Hid (openD d = ((a0, L, lastE X.1 0), 0)) := by
              show _ = _
              rw [HE.out, HARD.out, if_neg (by rw [hst]; simp), HLL.out, HB0.out]
            have HP := Lib.hid (put31_facts HI.out.res.r2 HI.out.res.r3 (by simp) (by omega) (by omega) HI.out.res.bel (.int .i64 (a0 : Int)) (.slice vA L.length vc) (.int .i64 ((lastE X.1 0 : Nat) : Int)) (.int .i64 0))
            have hb2l := HI.out.res.r2.lt
            generalize lastE X.1 0 = le at *
            gi_wp2
            change bodyPostM _ _ _ _ _ _ _ (put31 W1 (W.heap.size + 1) (W.heap.size + 1 + 1) (.int .i64 (a0 : Int)) (.slice vA L.length vc) (.int .i64 (le : Int)) (.int .i64 0))
            have hkd : (put31 W1 (W.heap.size + 1) (W.heap.size + 1 + 1) (.int .i64 (a0 : Int)) (.slice vA L.length vc) (.int .i64 (le : Int)) (.int .i64 0)).heap[D]? = some (.deferred (some [])) := by
              unfold put31
              rw [Below.heap_setCell _ ⟨W.heap.size + 1 + 1, 0, none⟩ _ D (by simp only; omega), Below.heap_setCell _ ⟨W.heap.size + 1, 2, none⟩ _ D (by simp only; omega), Below.heap_setCell _ ⟨W.heap.size + 1, 1, none⟩ _ D (by simp only; omega), Below.heap_setCell _ ⟨W.heap.size + 1, 0, none⟩ _ D (by simp only; omega)]
              exact HKD.out
            have hrow' : (put31 W1 (W.heap.size + 1) (W.heap.size + 1 + 1) (.int .i64 (a0 : Int)) (.slice vA L.length vc) (.int .i64 (le : Int)) (.int .i64 0)).ownsRow w9.heap.size 9 1 (.slice vA L.length vc) L.length (L.flatMap txC) := by
              have hA : Agree (fun gg => gg = W.heap.size + 1 ∨ gg = W.heap.size + 1 + 1) W1 (put31 W1 (W.heap.size + 1) (W.heap.size + 1 + 1) (.int .i64 (a0 : Int)) (.slice vA L.length vc) (.int .i64 (le : Int)) (.int .i64 0)) := by
                unfold put31
                exact (((Agree.setCell (p := ⟨W.heap.size + 1, 0, none⟩) _ (.inl rfl) _).trans (Agree.setCell (p := ⟨W.heap.size + 1, 1, none⟩) _ (.inl rfl) _)).trans (Agree.setCell (p := ⟨W.heap.size + 1, 2, none⟩) _ (.inl rfl) _)).trans (Agree.setCell (p := ⟨W.heap.size + 1 + 1, 0, none⟩) _ (.inr rfl) _)
              exact own_stab HRow.out (fun gg e1 e2 => by have := (HRow.out.lt gg e1).1; omega) _ hA
            obtain ⟨z2, z3, zb⟩ := HP.out
            clear t0 t1 t2 tf0 tf1 tf2 s0 s1 s2 sf0 sf1 sf2 y0 y1 HP
            generalize put31 W1 (W.heap.size + 1) (W.heap.size + 1 + 1) (.int .i64 (a0 : Int)) (.slice vA L.length vc) (.int .i64 (le : Int)) (.int .i64 0) = wx at *
            have z2 := blk_put (o' := .deferred none) z2 hkd rfl
            have z3 := blk_put (o' := .deferred none) z3 hkd rfl
            have zb := below_put (o' := .deferred none) zb (show W.heap.size ≤ D by omega) hkd
            have zr := txs_own (own_put (o' := .deferred none) hrow' hkd rfl)
            have k0 := z2.cell (j := 0) rfl
            have k1 := z2.cell (j := 1) rfl
            have k2 := z2.cell (j := 2) rfl
            have k3 := z3.cell (j := 0) rfl
            have htk := run_takeDeferred (P := Try.prog) hkd
            generalize wx.putObj D (.deferred none) = wy at *
            refine ⟨by simp, .inl ⟨_, _, rfl, htk, ?_⟩⟩
            exact ⟨.tuple #[.agg #[.int .i64 (a0 : Int), .slice vA L.length vc, .int .i64 (le : Int)], .int .i64 0], by simp [results, Try.results33, go_sem, k0, k1, k2, k3], by rw [HEE.out]; exact ⟨_, rfl, zr, zb⟩⟩
          case stopq =>
            rintro D W1 hD hst hx hK
            refine wpIn_ret ?_
            have z2 := blk_put (o' := .deferred none) hx.r2 hK rfl
            have z3 := blk_put (o' := .deferred none) hx.r3 hK rfl
            have zb := below_put (o' := .deferred none) hx.bel (show W.heap.size ≤ D by omega) hK
            have k0 := z2.cell (j := 0) rfl
            have k1 := z2.cell (j := 1) rfl
            have k2 := z2.cell (j := 2) rfl
            have k3 := z3.cell (j := 0) rfl
            have HEE : openD d = ((0, [], 0), 13) := by rw [HE.out, HARD.out, if_pos hst]
            have htk := run_takeDeferred (P := Try.prog) hK
            generalize W1.putObj D (.deferred none) = wx at *
            refine ⟨by simp, .inl ⟨_, _, rfl, htk, ?_⟩⟩
            exact ⟨.tuple #[.agg #[.int .i64 0, .slice none 0 0, .int .i64 0], .int .i64 13], by simp [results, Try.results33, go_sem, k0, k1, k2, k3], by rw [HEE]; exact OpnE.err zb⟩
      · have n1 : ((a0 : Int) != 1) = true := by simp; omega
        have n2 : ((a0 : Int) != 2) = true := by simp; omega
        have HE := Lib.hid (openD_none HK.out (by rw [← HB0.out]; exact ha))
        obtain ⟨a0', a1, a2, f0, f1, f2⟩ := blk3 R3.out.r2
        have y0 := R3.out.r3.cell (j := 0) rfl
        have y1 := R3.out.r3.frozen 0
        obtain ⟨z2, z3, zb⟩ := put31_facts R3.out.r2 R3.out.r3 (by simp) (by omega) (by omega) R3.out.bel (.int .i64 0) (.slice none 0 0) (.int .i64 0) (.int .i64 13)
        clear R3 hOS3 hxk3 ha HB0 HACT
        gi_wp2
        change bodyPostM _ _ _ _ _ _ _ (put31 w5 (W.heap.size + 1) (W.heap.size + 1 + 1) (.int .i64 0) (.slice none 0 0) (.int .i64 0) (.int .i64 13))
        have k0 := z2.cell (j := 0) rfl
        have k1 := z2.cell (j := 1) rfl
        have k2 := z2.cell (j := 2) rfl
        have k3 := z3.cell (j := 0) rfl
        clear cc0 cc1 cc2 cf0 cf1 cf2 a0' a1 a2 f0 f1 f2 y0 y1
        generalize put31 w5 (W.heap.size + 1) (W.heap.size + 1 + 1) (.int .i64 0) (.slice none 0 0) (.int .i64 0) (.int .i64 13) = wx at *
        exact ⟨.tuple #[.agg #[.int .i64 0, .slice none 0 0, .int .i64 0], .int .i64 13], by simp [results, Try.results33, go_sem, k0, k1, k2, k3], by rw [HE.out]; exact OpnE.err zb⟩
theorem open_any (W : World) (vs vp : Value) (d : Dk) (h : DskP W vs vp d) :
    Calls Try.prog 33 #[.agg #[.int .i64 d.size, vs, vp, .int .i64 d.left]] W (OpnE (openD d) W) := by
  by_cases hk : chkJ d = 0
  · exact open_good W vs vp d h hk
  · exact open_bad W vs vp d h hk
end Go.Proofs.Ytockmhhiomdlkaa

namespace Go.Proofs.Ytockmhhiomdlkaa
set_option linter.unusedVariables false
set_option linter.unusedSimpArgs false
open Go.RowKit

def RecE (r : List Txt × Int) (W : World) (e : Ending) (w : World) : Prop := ∃ v, e = .returned (.tuple #[v, .int .i64 r.2]) ∧ Txs w v r.1 ∧ Below W.heap.size W w
set_option maxRecDepth 100000 in
set_option maxHeartbeats 1000000 in
theorem records_any (W : World) (vs vp : Value) (d : Dk) (h : DskP W vs vp d) :
    Calls Try.prog 17 #[.agg #[.int .i64 d.size, vs, vp, .int .i64 d.left]] W (RecE (recD d) W) := by
  obtain ⟨A, c, P, cp, rfl, rfl, hc, hcp, hm, hmp⟩ := h.form
  have K1 := (Below.refl W.heap.size W).alloc (Nat.le_refl _) (.cells #[.int .i64 d.size, .slice A d.secs.length c, .slice P d.pend.length cp, .int .i64 d.left] 25)
  have HD1 := h.keep (Keeps.of_below K1)
  have CO := Lib.hid (open_any _ _ _ d HD1)
  have HK := Lib.hid K1
  have HR : Hid (recD d = ((openD d).1.2.1, (openD d).2)) := rfl
  generalize openD d = r at *
  obtain ⟨⟨a0, l, u⟩, e0⟩ := r
  simp only at HR
  clear K1
  go_enter Try.func17, Try.ntmps17
  go_wp2_with fail
  refine CO.out.mono ?_
  rintro e w2 ⟨v, rfl, ht, hb⟩
  obtain ⟨rA, rc, rfl, _, _⟩ := Txs.form ht
  have HT := Lib.hid (ht.keep (Keeps.alloc w2 (.cells #[.int .i64 (a0 : Int), .slice rA l.length rc, .int .i64 (u : Int)] 61)))
  have HB := Lib.hid ((HK.out.trans (hb.mono HK.out.size)).alloc (by have := (HK.out.trans (hb.mono HK.out.size)).size; omega) (.cells #[.int .i64 (a0 : Int), .slice rA l.length rc, .int .i64 (u : Int)] 61))
  clear CO HK ht hb HD1
  simp only
  go_wp2
  go_ret2
  rw [HR.out]
  exact ⟨_, rfl, HT.out, HB.out⟩
end Go.Proofs.Ytockmhhiomdlkaa

namespace Go.Proofs.Ytockmhhiomdlkaa
set_option linter.unusedVariables false
set_option linter.unusedSimpArgs false
open Go.RowKit

def RoomE (r : Nat × Int) (W : World) (e : Ending) (w : World) : Prop := e = .returned (.tuple #[.int .i64 (r.1 : Int), .int .i64 r.2]) ∧ Below W.heap.size W w
theorem lastE_le {H : Nat} (l : List (List Txt × Nat)) (h : ∀ x ∈ l, x.2 ≤ H) : lastE l 0 ≤ H := by
  unfold lastE
  cases hl : l.getLast? with
  | none => simp
  | some x => simpa using h x (List.mem_of_getLast? hl)
theorem recU_le {d : Dk} (h : (openD d).2 = 0) : (openD d).1.2.2 ≤ halfN d.secs.length ∧ halfN d.secs.length ≤ 1000 := by
  by_cases hk : chkJ d = 0
  · obtain ⟨hv, hn3⟩ := chkJ_zero hk
    have hn := hv.n2
    refine ⟨?_, by unfold halfN; omega⟩
    by_cases ha : actN d = 1 ∨ actN d = 2
    · rw [openD_some hk ha] at h ⊢
      by_cases hb : (areaD d).2 = true
      · rw [if_pos hb] at h; simp at h
      · rw [if_neg hb]
        have hsz := cur_length d
        have v1 := hv.s1
        obtain ⟨h3, h4, _, _⟩ := first_bd hn3 ha
        have HSZ : Siz d.size.toNat (cur d) := fun s hs => by
          have hv2 : (s.size : Int) = d.size := (valid_cur hv 0 (by omega)).ss s hs
          omega
        have hal : (areaOf (cur d) (firstS d.secs.length (actN d)) (halfN d.secs.length)).length = halfN d.secs.length * d.size.toNat := by
          unfold areaOf
          rw [fb_len ((HSZ.drop _).take _), List.length_take, List.length_drop, hsz, Nat.min_eq_left (by omega)]
        exact lastE_le _ fun x hx => ((frX_bd (by omega) hal (halfN d.secs.length + 1) 0 (by omega)).2 x hx).2
    · rw [openD_none hk ha] at h; simp at h
  · rw [openD_bad hk] at h; exact absurd h hk
set_option maxRecDepth 100000 in
set_option maxHeartbeats 1000000 in
theorem room_any (W : World) (vs vp : Value) (d : Dk) (h : DskP W vs vp d) :
    Calls Try.prog 19 #[.agg #[.int .i64 d.size, vs, vp, .int .i64 d.left]] W (RoomE (roomD d) W) := by
  obtain ⟨A, c, P, cp, rfl, rfl, hc, hcp, hm, hmp⟩ := h.form
  have K1 := (Below.refl W.heap.size W).alloc (Nat.le_refl _) (.cells #[.int .i64 d.size, .slice A d.secs.length c, .slice P d.pend.length cp, .int .i64 d.left] 25)
  have hbk := Blk.new W #[.int .i64 d.size, .slice A d.secs.length c, .slice P d.pend.length cp, .int .i64 d.left] 25
  have HD1 := h.keep (Keeps.of_below K1)
  have CO := Lib.hid (open_any _ _ _ d HD1)
  have HK := Lib.hid K1
  have HBK := Lib.hid hbk
  have HR : Hid (roomD d = if (openD d).2 ≠ 0 then (0, (openD d).2) else (halfN d.secs.length - (openD d).1.2.2, 0)) := rfl
  have HU : Hid ((openD d).2 = 0 → (openD d).1.2.2 ≤ halfN d.secs.length ∧ halfN d.secs.length ≤ 1000) := recU_le
  generalize openD d = r at *
  obtain ⟨⟨a0, l, u⟩, e0⟩ := r
  simp only at HR HU
  clear K1 hbk
  go_enter Try.func19, Try.ntmps19
  go_wp2_with fail
  refine CO.out.mono ?_
  rintro e w2 ⟨v, rfl, ht, hb⟩
  obtain ⟨rA, rc, rfl, _, _⟩ := Txs.form ht
  have HB := Lib.hid ((HK.out.trans (hb.mono HK.out.size)).alloc (by have := (HK.out.trans (hb.mono HK.out.size)).size; omega) (.cells #[.int .i64 (a0 : Int), .slice rA l.length rc, .int .i64 (u : Int)] 61))
  have hbc := Blk.new w2 #[.int .i64 (a0 : Int), .slice rA l.length rc, .int .i64 (u : Int)] 61
  have HBK2 := Lib.hid ((HBK.out.keep hb).alloc (.cells #[.int .i64 (a0 : Int), .slice rA l.length rc, .int .i64 (u : Int)] 61))
  have HD2 := Lib.hid ((HD1.keep (Keeps.of_below hb)).keep (Keeps.alloc w2 (.cells #[.int .i64 (a0 : Int), .slice rA l.length rc, .int .i64 (u : Int)] 61)))
  have HBC := Lib.hid hbc
  clear CO HK ht hb HD1 HBK hbc
  simp only
  by_cases he : e0 = 0
  · subst he
    go_upto_region 4 with (fail)
    obtain ⟨hu, hh⟩ := HU.out rfl
    have HRR : Hid (roomD d = (halfN d.secs.length - u, 0)) := by show _ = _; rw [HR.out, if_neg (by simp)]
    have HH : Hid (∀ w', Below w2.heap.size w2 w' → True) := fun _ _ => trivial
    generalize hw3 : w2.alloc (.cells #[.int .i64 (a0 : Int), .slice rA l.length rc, .int .i64 (u : Int)] 61) = w3 at *
    have HDR : Hid (Below w3.heap.size w3 w3.drew) := below_drew1 (Below.refl _ _)
    have CH := Lib.hid (fun w' (hb : Below w3.drew.heap.size w3.drew w') => half_any w' _ _ d ((HD2.out.keep (Keeps.of_below HDR.out)).keep (Keeps.of_below hb)))
    generalize halfN d.secs.length = hf at *
    clear HU HR hw3
    refine prom_start (by kernel_rfl) 7 (fun i v _ => match i with
      | 0 => v = .agg #[.int .i64 d.size, .slice A d.secs.length c, .slice P d.pend.length cp, .int .i64 d.left]
      | 1 => v = .int .i64 (hf : Int)
      | 2 => v = .pointer (some ⟨w2.heap.size, 2, none⟩)
      | 3 => v = .int .i64 (u : Int)
      | 4 => v = .int .i64 ((hf - u : Nat) : Int)
      | 5 => v = .int .i64 ((hf - u : Nat) : Int)
      | _ => v = .int .i64 0) 0 (by kernel_rfl) (fun i v w w' h _ => h) ?_ ?_
    · rintro i o hi ho a w1 hdf hlen hold hbel hdep K hK
      have hx1 := (HBK2.out.keep HDR.out).keep hbel
      have hx2 := (HBC.out.keep HDR.out).keep hbel
      obtain ⟨q0, q1, q2, q3⟩ := box4 hx1 (Below.refl _ _)
      obtain ⟨t0, t1, t2, _, _, _⟩ := blk3 hx2
      have s1 : a.tmps.getD 1 undef = .pointer (some ⟨W.heap.size, 0, none⟩) := by
        rw [Array.getD_eq_getD_getElem?, hold 1 (by intro j hj; have : j = 0 ∨ j = 1 ∨ j = 2 ∨ j = 3 ∨ j = 4 ∨ j = 5 ∨ j = 6 := by omega
                                                    rcases this with rfl | rfl | rfl | rfl | rfl | rfl | rfl <;> decide)]
        rfl
      have s4 : a.tmps.getD 4 undef = .pointer (some ⟨w2.heap.size, 0, none⟩) := by
        rw [Array.getD_eq_getD_getElem?, hold 4 (by intro j hj; have : j = 0 ∨ j = 1 ∨ j = 2 ∨ j = 3 ∨ j = 4 ∨ j = 5 ∨ j = 6 := by omega
                                                    rcases this with rfl | rfl | rfl | rfl | rfl | rfl | rfl <;> decide)]
        rfl
      have hi' : i = 0 ∨ i = 1 ∨ i = 2 ∨ i = 3 ∨ i = 4 ∨ i = 5 ∨ i = 6 := by omega
      rcases hi' with rfl | rfl | rfl | rfl | rfl | rfl | rfl
      · obtain rfl := Option.some.inj ho
        clear hdf
        unfold Oper.wp
        simp only [execOp, Act.eval, s1]
        go_simp
        exact hK _ w1 rfl (Below.refl _ _)
      · obtain rfl := Option.some.inj ho
        clear hdf
        have e14 := hdep 0 14 (by omega) (by kernel_rfl) (by kernel_rfl)
        simp only at e14
        unfold Oper.wp
        simp only [execOp, Act.eval, e14]
        go_simp
        refine (CH.out w1 hbel).mono ?_
        rintro e' w4 ⟨rfl, hb4⟩
        exact hK _ w4 rfl hb4
      · obtain rfl := Option.some.inj ho
        clear hdf
        unfold Oper.wp
        simp only [execOp, Act.eval, s4]
        go_simp
        exact hK _ w1 rfl (Below.refl _ _)
      · obtain rfl := Option.some.inj ho
        clear hdf
        have e16 := hdep 2 16 (by omega) (by kernel_rfl) (by kernel_rfl)
        simp only at e16
        unfold Oper.wp
        simp only [execOp, Act.eval, e16]
        go_simp
        exact hK _ w1 rfl (Below.refl _ _)
      · obtain rfl := Option.some.inj ho
        clear hdf
        have e15 := hdep 1 15 (by omega) (by kernel_rfl) (by kernel_rfl)
        simp only at e15
        have e17 := hdep 3 17 (by omega) (by kernel_rfl) (by kernel_rfl)
        simp only at e17
        have hsub : (hf : Int) - (u : Int) = ((hf - u : Nat) : Int) := by omega
        unfold Oper.wp
        simp only [execOp, Act.eval, e15, e17]
        go_simp
        exact hK _ w1 (by simp only; rw [i64w (by omega) (by omega)]) (Below.refl _ _)
      · obtain rfl := Option.some.inj ho
        clear hdf
        have e18 := hdep 4 18 (by omega) (by kernel_rfl) (by kernel_rfl)
        simp only at e18
        unfold Oper.wp
        simp only [execOp, Act.eval, e18]
        go_simp
        exact hK _ w1 rfl (Below.refl _ _)
      · obtain rfl := Option.some.inj ho
        clear hdf
        unfold Oper.wp
        simp only [execOp, Act.eval, s1]
        go_simp
        exact hK _ w1 rfl (Below.refl _ _)
    · rintro a w1 hdf hlen hold hbel hnew
      have e2 := hnew 5 2 (by omega) (by kernel_rfl)
      have e3 := hnew 6 3 (by omega) (by kernel_rfl)
      have e14 := hnew 0 14 (by omega) (by kernel_rfl)
      have e15 := hnew 1 15 (by omega) (by kernel_rfl)
      have e16 := hnew 2 16 (by omega) (by kernel_rfl)
      have e17 := hnew 3 17 (by omega) (by kernel_rfl)
      have e18 := hnew 4 18 (by omega) (by kernel_rfl)
      simp only at e2 e3 e14 e15 e16 e17 e18
      have hact := act_eq [2, 3, 14, 15, 16, 17, 18] hdf hlen (fun t ht => hold t (fun j hj hd => by
        have : j = 0 ∨ j = 1 ∨ j = 2 ∨ j = 3 ∨ j = 4 ∨ j = 5 ∨ j = 6 := by omega
        rcases this with rfl | rfl | rfl | rfl | rfl | rfl | rfl <;> (obtain rfl := Option.some.inj hd; exact ht (by decide))))
      simp only [List.foldl, e2, e3, e14, e15, e16, e17, e18, List.setIfInBounds_toArray, List.set_cons_zero, List.set_cons_succ] at hact
      subst hact
      have HB1 := Lib.hid (HB.out.trans (HDR.out.trans (hbel.mono (Nat.le_refl _)) |>.mono HB.out.size))
      clear hold hbel hnew e2 e3 e14 e15 e16 e17 e18 hdf hlen
      refine AtS.done (by kernel_rfl) (NoPanic.normal ?_)
      go_wp2
      go_ret2
      rw [HRR.out]
      exact ⟨rfl, HB1.out⟩
  · have hne : (e0 != 0) = true := by simpa using he
    have HRR : Hid (roomD d = (0, e0)) := by show _ = _; rw [HR.out, if_pos he]
    clear HU HR
    go_wp2
    go_ret2
    rw [HRR.out]
    exact ⟨rfl, HB.out⟩
end Go.Proofs.Ytockmhhiomdlkaa

namespace Go.Proofs.Ytockmhhiomdlkaa
set_option linter.unusedVariables false
set_option linter.unusedSimpArgs false
open Go.RowKit

/-- The value of an operation. -/
def OpV (w : World) (v : Value) : Option Wop → Prop
  | none => v = .func (.func 39) #[] #[]
  | some o => ∃ b1 b2, v = .func (.func 66) #[] #[.pointer (some ⟨b1, 0, none⟩), .pointer (some ⟨b2, 0, none⟩)] ∧ Blk w b1 3 #[.int .i64 (o.1 : Int)] ∧ Blk w b2 9 #[.string o.2] ∧ o.1 ≤ 100000
theorem OpV.keep {w w' : World} {v : Value} {o : Option Wop} (h : OpV w v o) (k : Below w.heap.size w w') : OpV w' v o := by
  cases o with
  | none => exact h
  | some o =>
    obtain ⟨b1, b2, e, h1, h2, h3⟩ := h
    exact ⟨b1, b2, e, h1.keep k, h2.keep k, h3⟩
set_option maxHeartbeats 400000 in
theorem jwrite_any (i : Nat) (s : ByteArray) (hi : i ≤ 100000) (w : World) : Calls Try.prog 40 #[.int .i64 i, .string s] w fun e w' => ∃ v, e = .returned v ∧ OpV w' v (some (i, s)) ∧ Below w.heap.size w w' := by
  go_enter Try.func40, Try.ntmps40
  go_wp2
  go_ret
  refine ⟨_, rfl, ⟨w.heap.size, w.heap.size + 1, by simp, (Blk.new w _ _).alloc _, ?_, hi⟩, ((Below.refl _ _).alloc (Nat.le_refl _) _).alloc (by simp) _⟩
  have := Blk.new (w.alloc (.cells #[.int .i64 (i : Int)] 3)) #[.string s] 9
  rwa [World.size_alloc] at this
theorem dk_put {w : World} {d : Dk} {g : Nat} {A P : Option Addr} {c cp : Nat} {a b : Int} {A0 P0 : Option Addr} {n0 c0 m0 k0 : Nat} (hb : Blk w g 25 #[.int .i64 a, .slice A0 n0 c0, .slice P0 m0 k0, .int .i64 b]) (h : DskP w (.slice A d.secs.length c) (.slice P d.pend.length cp) d) : Var (put4 w g A c P cp d) g A c P cp d :=
  ⟨(((hb.set 0 _).set 1 _).set 2 _).set 3 _, h.set4 hb⟩

set_option maxRecDepth 100000 in
set_option maxHeartbeats 1000000 in
theorem jwrite1_any (W : World) (vs vp : Value) (d : Dk) (h : DskP W vs vp d) (hn : d.pend.length ≤ 100000) (i : Nat) (s : ByteArray) (hi : i ≤ 100000) (b1 b2 : Nat) (h1 : Blk W b1 3 #[.int .i64 (i : Int)]) (h2 : Blk W b2 9 #[.string s]) :
    Calls Try.prog 66 #[.agg #[.int .i64 d.size, vs, vp, .int .i64 d.left], .pointer (some ⟨b1, 0, none⟩), .pointer (some ⟨b2, 0, none⟩)] W (DkPost W (wrD d i s) (wrE d i s)) := by
  obtain ⟨A, c, P, cp, rfl, rfl, hc, hcp, hm, hmp⟩ := h.form
  have hbk := (Blk.new W #[.int .i64 d.size, .slice A d.secs.length c, .slice P d.pend.length cp, .int .i64 d.left] 25).alloc (.cells #[.int .i64 0, .slice none 0 0, .slice none 0 0, .int .i64 0] 25)
  have hbr := Blk.new (W.alloc (.cells #[.int .i64 d.size, .slice A d.secs.length c, .slice P d.pend.length cp, .int .i64 d.left] 25)) #[.int .i64 0, .slice none 0 0, .slice none 0 0, .int .i64 0] 25
  rw [World.size_alloc] at hbr
  have K1 := ((Below.refl W.heap.size W).alloc (Nat.le_refl _) (.cells #[.int .i64 d.size, .slice A d.secs.length c, .slice P d.pend.length cp, .int .i64 d.left] 25)).alloc (by simp) (.cells #[.int .i64 0, .slice none 0 0, .slice none 0 0, .int .i64 0] 25)
  have HD1 := h.keep (Keeps.of_below K1)
  have g1 : ((W.alloc (.cells #[.int .i64 d.size, .slice A d.secs.length c, .slice P d.pend.length cp, .int .i64 d.left] 25)).alloc (.cells #[.int .i64 0, .slice none 0 0, .slice none 0 0, .int .i64 0] 25)).cell? ⟨b1, 0, none⟩ = some (.int .i64 (i : Int)) := (h1.keep K1).cell (j := 0) rfl
  have g2 : ((W.alloc (.cells #[.int .i64 d.size, .slice A d.secs.length c, .slice P d.pend.length cp, .int .i64 d.left] 25)).alloc (.cells #[.int .i64 0, .slice none 0 0, .slice none 0 0, .int .i64 0] 25)).cell? ⟨b2, 0, none⟩ = some (.string s) := (h2.keep K1).cell (j := 0) rfl
  go_enter Try.func66, Try.ntmps66
  go_upto_region 1 with (fail)
  generalize (W.alloc (.cells #[.int .i64 d.size, .slice A d.secs.length c, .slice P d.pend.length cp, .int .i64 d.left] 25)).alloc (.cells #[.int .i64 0, .slice none 0 0, .slice none 0 0, .int .i64 0] 25) = w1 at *
  have CW := Lib.hid (write_any w1 _ _ d HD1 hn i (by omega) (by omega) s)
  obtain ⟨q0, q1, q2, q3⟩ := box4 hbk (Below.refl _ _)
  have hlt := hbr.lt
  go_wp2_with fail
  refine CW.out.mono ?_
  rintro e w2 ⟨vs2, vp2, rfl, hd2, hb2⟩
  clear CW
  generalize wrD d (i : Int) s = D at *
  generalize wrE d (i : Int) s = N at *
  obtain ⟨A2, c2, P2, cp2, rfl, rfl, _, _, _, _⟩ := hd2.form
  have hbr2 := hbr.keep hb2
  have HV := dk_put hbr2 hd2
  have K2 := put4_below (A := A2) (c := c2) (P := P2) (cp := cp2) (d := D) (K1.trans (hb2.mono K1.size)) (show W.heap.size ≤ W.heap.size + 1 by omega)
  obtain ⟨t0, t1, t2, t3, r0, r1, r2, r3⟩ := box8 hbr2 (Below.refl _ _)
  clear q0 q1 q2 q3 hbk hbr hb2 K1
  go_wp2
  change bodyPost _ _ _ _ _ (put4 w2 (W.heap.size + 1) A2 c2 P2 cp2 D)
  obtain ⟨k0, k1, k2, k3⟩ := box4 HV.blk (Below.refl _ _)
  clear t0 t1 t2 t3 r0 r1 r2 r3
  generalize put4 w2 (W.heap.size + 1) A2 c2 P2 cp2 D = wx at *
  exact bodyPost_ret (v := .tuple #[.agg #[.int .i64 D.size, .slice A2 D.secs.length c2, .slice P2 D.pend.length cp2, .int .i64 D.left], .int .i64 N]) (by simp [results, Try.results66, go_sem, k0, k1, k2, k3]) rfl ⟨_, _, rfl, HV.dk, K2⟩
/-- A slice of operations. -/
def OpL (w : World) (vals : List Value) (ops : List (Option Wop)) : Prop := vals.length = ops.length ∧ ∀ (k : Nat) (x : Value) (y : Option Wop), vals[k]? = some x → ops[k]? = some y → OpV w x y
theorem OpL.keep {w w' : World} {vals : List Value} {ops : List (Option Wop)} (h : OpL w vals ops) (k : Below w.heap.size w w') : OpL w' vals ops := ⟨h.1, fun i x y h1 h2 => (h.2 i x y h1 h2).keep k⟩
theorem OpL.nil (w : World) : OpL w [] [] := ⟨rfl, fun k x y h => by simp at h⟩
theorem OpL.append {w : World} {v1 v2 : List Value} {o1 o2 : List (Option Wop)} (h1 : OpL w v1 o1) (h2 : OpL w v2 o2) : OpL w (v1 ++ v2) (o1 ++ o2) := by
  refine ⟨by simp [h1.1, h2.1], fun k x y hx hy => ?_⟩
  by_cases hk : k < v1.length
  · rw [List.getElem?_append_left hk] at hx
    rw [List.getElem?_append_left (by rw [← h1.1]; exact hk)] at hy
    exact h1.2 k x y hx hy
  · rw [List.getElem?_append_right (by omega)] at hx
    rw [List.getElem?_append_right (by rw [← h1.1]; omega), ← h1.1] at hy
    exact h2.2 _ x y hx hy
theorem OpL.one {w : World} {v : Value} {o : Option Wop} (h : OpV w v o) : OpL w [v] [o] := ⟨rfl, fun k x y hx hy => by
  cases k with
  | zero => simp at hx hy; subst hx; subst hy; exact h
  | succ k => simp at hx⟩
def Ops (w : World) (v : Value) (ops : List (Option Wop)) : Prop := ∃ vals : List Value, Sl w 1 (fun us x => us = [x]) v vals ∧ OpL w vals ops
theorem Ops.keep {w w' : World} {v : Value} {ops : List (Option Wop)} (h : Ops w v ops) (k : Below w.heap.size w w') : Ops w' v ops := by
  obtain ⟨vals, h1, h2⟩ := h
  exact ⟨vals, Sl.keep h1 (Keeps.of_below k) (fun _ _ h => h), h2.keep k⟩
theorem stepD_pend (d : Dk) (o : Option Wop) : (stepD d o).1.pend.length ≤ d.pend.length + 1 := by
  cases o with
  | none => simp only [stepD, syD]; split <;> (try split) <;> simp [noDisk]
  | some w => simp only [stepD, wrD]; split <;> (try split) <;> simp [noDisk]
theorem runD_drop {d : Dk} {ops : List (Option Wop)} {k : Nat} {o : Option Wop} (h : ops[k]? = some o) : runD d (ops.drop k) = if (stepD d o).2 ≠ 0 then ((stepD d o).1, (stepD d o).2) else runD (stepD d o).1 (ops.drop (k + 1)) := by
  obtain ⟨hlt, rfl⟩ := List.getElem?_eq_some_iff.1 h
  rw [List.drop_eq_getElem_cons hlt]; rfl

set_option maxRecDepth 100000 in
set_option maxHeartbeats 2000000 in
theorem run_any (W : World) (vs vp : Value) (d : Dk) (h : DskP W vs vp d) (v : Value) (ops : List (Option Wop)) (hv : Ops W v ops) (hn : d.pend.length + ops.length ≤ 100000) :
    Calls Try.prog 38 #[.agg #[.int .i64 d.size, vs, vp, .int .i64 d.left], v] W (DkPost W (runD d ops).1 (runD d ops).2) := by
  obtain ⟨A, c, P, cp, rfl, rfl, hc, hcp, hm, hmp⟩ := h.form
  obtain ⟨vals, hsl, hlen, hget⟩ := hv
  obtain ⟨OA, oc, rfl, ho1, ho2⟩ := hsl.form
  rw [hlen] at hsl ho1 ⊢
  have hbk := (Blk.new W #[.int .i64 d.size, .slice A d.secs.length c, .slice P d.pend.length cp, .int .i64 d.left] 25).alloc (.cells #[.int .i64 0, .slice none 0 0, .slice none 0 0, .int .i64 0] 25)
  have hbr := Blk.new (W.alloc (.cells #[.int .i64 d.size, .slice A d.secs.length c, .slice P d.pend.length cp, .int .i64 d.left] 25)) #[.int .i64 0, .slice none 0 0, .slice none 0 0, .int .i64 0] 25
  rw [World.size_alloc] at hbr
  have K1 := ((Below.refl W.heap.size W).alloc (Nat.le_refl _) (.cells #[.int .i64 d.size, .slice A d.secs.length c, .slice P d.pend.length cp, .int .i64 d.left] 25)).alloc (by simp) (.cells #[.int .i64 0, .slice none 0 0, .slice none 0 0, .int .i64 0] 25)
  have HV0 : Var _ W.heap.size A c P cp d := ⟨hbk, h.keep (Keeps.of_below K1)⟩
  have HF := Lib.hid hget
  clear hget hbk
  go_enter Try.func38, Try.ntmps38
  go_upto_region 1 with (fail)
  generalize (W.alloc (.cells #[.int .i64 d.size, .slice A d.secs.length c, .slice P d.pend.length cp, .int .i64 d.left] 25)).alloc (.cells #[.int .i64 0, .slice none 0 0, .slice none 0 0, .int .i64 0] 25) = w1 at *
  go_wp2
  go_loopw [11] (fun t wr => ∃ (k : Nat) (D : Dk) (A1 : Option Addr) (c1 : Nat) (P1 : Option Addr) (cp1 : Nat), k ≤ ops.length ∧ t = .int .i64 k ∧ Var wr W.heap.size A1 c1 P1 cp1 D ∧ Blk wr (W.heap.size + 1) 25 #[.int .i64 0, .slice none 0 0, .slice none 0 0, .int .i64 0] ∧
    Hid (runD d ops = runD D (ops.drop k)) ∧ D.pend.length + (ops.length - k) ≤ 100000 ∧ Below W.heap.size W wr) (fun t _ => ops.length - (intOf t).toNat)
  case atStart => exact ⟨0, d, A, c, P, cp, by omega, rfl, HV0, hbr, by show _ = _; rw [List.drop_zero], by omega, K1⟩
  case round =>
    clear HV0 hbr K1
    obtain ⟨k, D, A1, c1, P1, cp1, hk, rfl, HV, hbr, HS, hpd, hbel⟩ := hrel
    obtain ⟨q0, q1, q2, q3⟩ := box4 HV.blk (Below.refl _ _)
    by_cases hlt : k < ops.length
    · have hsl2 := Sl.keep hsl (Keeps.of_below hbel) (fun _ _ h => h)
      obtain ⟨vk, hvk0⟩ : ∃ x, vals[k]? = some x := ⟨_, List.getElem?_eq_getElem (by omega)⟩
      obtain ⟨o, hok⟩ : ∃ x, ops[k]? = some x := ⟨_, List.getElem?_eq_getElem hlt⟩
      obtain ⟨b, off, us, e0, e1, _, hcell⟩ := Sl.get hsl2 hvk0 (by omega)
      subst e0
      have hcl : wr.cell? ⟨b, off + k, none⟩ = some vk := by
        have := hcell 0 vk (by rw [e1]; rfl)
        rwa [Nat.mul_one, Nat.add_zero] at this
      have hop := (HF.out k vk o hvk0 hok).keep hbel
      have hdr := runD_drop (d := D) hok
      have hpe := stepD_pend D o
      have HOP := Lib.hid hop
      clear hcell hsl2 e1 hvk0 hok
      cases o with
      | none =>
        have hvk : vk = .func (.func 39) #[] #[] := hop
        subst hvk
        have CT : Hid (Calls Try.prog 39 #[.agg #[.int .i64 D.size, .slice A1 D.secs.length c1, .slice P1 D.pend.length cp1, .int .i64 D.left]] wr (DkPost wr (stepD D none).1 (stepD D none).2)) := sync_any wr _ _ D HV.dk
        clear hop
        generalize ho : (none : Option Wop) = o at *
        go_wp2_with fail
        refine CT.out.mono ?_
        rintro e w2 ⟨vs2, vp2, rfl, hd2, hb2⟩
        clear CT
        have hbk2 := HV.blk.keep hb2
        have hbr2 := hbr.keep hb2
        generalize (stepD D o).1 = D2 at *
        generalize (stepD D o).2 = N2 at *
        obtain ⟨A2, c2, P2, cp2, rfl, rfl, _, _, _, _⟩ := hd2.form
        have HV2 := dk_put hbk2 hd2
        have K2 := put4_below (A := A2) (c := c2) (P := P2) (cp := cp2) (d := D2) (hbel.trans (hb2.mono hbel.size)) (Nat.le_refl W.heap.size)
        have hbr3 : Blk (put4 w2 W.heap.size A2 c2 P2 cp2 D2) (W.heap.size + 1) 25 #[.int .i64 0, .slice none 0 0, .slice none 0 0, .int .i64 0] :=
          (((hbr2.far (p := ⟨W.heap.size, 0, none⟩) (by simp) _).far (p := ⟨W.heap.size, 1, none⟩) (by simp) _).far (p := ⟨W.heap.size, 2, none⟩) (by simp) _).far (p := ⟨W.heap.size, 3, none⟩) (by simp) _
        obtain ⟨t0, t1, t2, t3, r0, r1, r2, r3⟩ := box8 hbk2 (Below.refl _ _)
        have HDR := Lib.hid hdr
        have HPE := Lib.hid hpe
        clear q0 q1 q2 q3 hbk2 hbr2 hb2 hbel HV hbr hd2 hdr hpe HOP
        go_upto_region 6 with (fail)
        change Code.wp _ _ _ _ (put4 w2 W.heap.size A2 c2 P2 cp2 D2)
        clear t0 t1 t2 t3 r0 r1 r2 r3
        generalize put4 w2 W.heap.size A2 c2 P2 cp2 D2 = w3 at *
        by_cases hN : N2 = 0
        · subst hN
          have HS2 : Hid (runD d ops = runD D2 (ops.drop (k + 1))) := by show _ = _; rw [HS.out, HDR.out, if_neg (by simp)]
          clear HS HDR
          go_wp2
          go_roundw
          case rel => exact ⟨k + 1, D2, A2, c2, P2, cp2, by omega, by go_num, HV2, hbr3, HS2, by have := HPE.out; omega, K2⟩
          case measure => simp [intOf]; omega
        · have hne : (N2 != 0) = true := by simpa using hN
          have HE : Hid (runD d ops = (D2, N2)) := by show _ = _; rw [HS.out, HDR.out, if_pos hN]
          have HV3 := dk_put hbr3 HV2.dk
          have K3 := put4_below (A := A2) (c := c2) (P := P2) (cp := cp2) (d := D2) K2 (show W.heap.size ≤ W.heap.size + 1 by omega)
          obtain ⟨t0, t1, t2, t3, r0, r1, r2, r3⟩ := box8 hbr3 (Below.refl _ _)
          obtain ⟨q0, q1, q2, q3⟩ := box4 HV2.blk (Below.refl _ _)
          clear HS HDR
          go_wp2
          change bodyPost _ _ _ _ _ (put4 w3 (W.heap.size + 1) A2 c2 P2 cp2 D2)
          obtain ⟨k0, k1, k2, k3⟩ := box4 HV3.blk (Below.refl _ _)
          clear t0 t1 t2 t3 r0 r1 r2 r3 q0 q1 q2 q3
          generalize put4 w3 (W.heap.size + 1) A2 c2 P2 cp2 D2 = wx at *
          exact bodyPost_ret (v := .tuple #[.agg #[.int .i64 D2.size, .slice A2 D2.secs.length c2, .slice P2 D2.pend.length cp2, .int .i64 D2.left], .int .i64 N2]) (by simp [results, Try.results38, go_sem, k0, k1, k2, k3]) rfl (by rw [HE.out]; exact ⟨_, _, rfl, HV3.dk, K3⟩)
      | some x =>
        obtain ⟨b1, b2, rfl, hx1, hx2, hx3⟩ := hop
        have CT : Hid (Calls Try.prog 66 #[.agg #[.int .i64 D.size, .slice A1 D.secs.length c1, .slice P1 D.pend.length cp1, .int .i64 D.left], .pointer (some ⟨b1, 0, none⟩), .pointer (some ⟨b2, 0, none⟩)] wr (DkPost wr (stepD D (some x)).1 (stepD D (some x)).2)) :=
          jwrite1_any wr _ _ D HV.dk (by omega) x.1 x.2 hx3 b1 b2 hx1 hx2
        clear hx1 hx2
        generalize ho : (some x : Option Wop) = o at *
        go_wp2_with fail
        refine CT.out.mono ?_
        rintro e w2 ⟨vs2, vp2, rfl, hd2, hb2⟩
        clear CT
        have hbk2 := HV.blk.keep hb2
        have hbr2 := hbr.keep hb2
        generalize (stepD D o).1 = D2 at *
        generalize (stepD D o).2 = N2 at *
        obtain ⟨A2, c2, P2, cp2, rfl, rfl, _, _, _, _⟩ := hd2.form
        have HV2 := dk_put hbk2 hd2
        have K2 := put4_below (A := A2) (c := c2) (P := P2) (cp := cp2) (d := D2) (hbel.trans (hb2.mono hbel.size)) (Nat.le_refl W.heap.size)
        have hbr3 : Blk (put4 w2 W.heap.size A2 c2 P2 cp2 D2) (W.heap.size + 1) 25 #[.int .i64 0, .slice none 0 0, .slice none 0 0, .int .i64 0] :=
          (((hbr2.far (p := ⟨W.heap.size, 0, none⟩) (by simp) _).far (p := ⟨W.heap.size, 1, none⟩) (by simp) _).far (p := ⟨W.heap.size, 2, none⟩) (by simp) _).far (p := ⟨W.heap.size, 3, none⟩) (by simp) _
        obtain ⟨t0, t1, t2, t3, r0, r1, r2, r3⟩ := box8 hbk2 (Below.refl _ _)
        have HDR := Lib.hid hdr
        have HPE := Lib.hid hpe
        clear q0 q1 q2 q3 hbk2 hbr2 hb2 hbel HV hbr hd2 hdr hpe HOP
        go_upto_region 6 with (fail)
        change Code.wp _ _ _ _ (put4 w2 W.heap.size A2 c2 P2 cp2 D2)
        clear t0 t1 t2 t3 r0 r1 r2 r3
        generalize put4 w2 W.heap.size A2 c2 P2 cp2 D2 = w3 at *
        by_cases hN : N2 = 0
        · subst hN
          have HS2 : Hid (runD d ops = runD D2 (ops.drop (k + 1))) := by show _ = _; rw [HS.out, HDR.out, if_neg (by simp)]
          clear HS HDR
          go_wp2
          go_roundw
          case rel => exact ⟨k + 1, D2, A2, c2, P2, cp2, by omega, by go_num, HV2, hbr3, HS2, by have := HPE.out; omega, K2⟩
          case measure => simp [intOf]; omega
        · have hne : (N2 != 0) = true := by simpa using hN
          have HE : Hid (runD d ops = (D2, N2)) := by show _ = _; rw [HS.out, HDR.out, if_pos hN]
          have HV3 := dk_put hbr3 HV2.dk
          have K3 := put4_below (A := A2) (c := c2) (P := P2) (cp := cp2) (d := D2) K2 (show W.heap.size ≤ W.heap.size + 1 by omega)
          obtain ⟨t0, t1, t2, t3, r0, r1, r2, r3⟩ := box8 hbr3 (Below.refl _ _)
          obtain ⟨q0, q1, q2, q3⟩ := box4 HV2.blk (Below.refl _ _)
          clear HS HDR
          go_wp2
          change bodyPost _ _ _ _ _ (put4 w3 (W.heap.size + 1) A2 c2 P2 cp2 D2)
          obtain ⟨k0, k1, k2, k3⟩ := box4 HV3.blk (Below.refl _ _)
          clear t0 t1 t2 t3 r0 r1 r2 r3 q0 q1 q2 q3
          generalize put4 w3 (W.heap.size + 1) A2 c2 P2 cp2 D2 = wx at *
          exact bodyPost_ret (v := .tuple #[.agg #[.int .i64 D2.size, .slice A2 D2.secs.length c2, .slice P2 D2.pend.length cp2, .int .i64 D2.left], .int .i64 N2]) (by simp [results, Try.results38, go_sem, k0, k1, k2, k3]) rfl (by rw [HE.out]; exact ⟨_, _, rfl, HV3.dk, K3⟩)
    · have hkn : k = ops.length := by omega
      have HE : Hid (runD d ops = (D, 0)) := by show _ = _; rw [HS.out, hkn, List.drop_length]; rfl
      have HV3 := dk_put hbr HV.dk
      have K3 := put4_below (A := A1) (c := c1) (P := P1) (cp := cp1) (d := D) hbel (show W.heap.size ≤ W.heap.size + 1 by omega)
      obtain ⟨t0, t1, t2, t3, r0, r1, r2, r3⟩ := box8 hbr (Below.refl _ _)
      have hlt1 := hbr.lt
      clear HS hkn
      go_wp2
      change bodyPost _ _ _ _ _ (put4 wr (W.heap.size + 1) A1 c1 P1 cp1 D)
      obtain ⟨k0, k1, k2, k3⟩ := box4 HV3.blk (Below.refl _ _)
      clear t0 t1 t2 t3 r0 r1 r2 r3 q0 q1 q2 q3
      generalize put4 wr (W.heap.size + 1) A1 c1 P1 cp1 D = wx at *
      exact bodyPost_ret (v := .tuple #[.agg #[.int .i64 D.size, .slice A1 D.secs.length c1, .slice P1 D.pend.length cp1, .int .i64 D.left], .int .i64 0]) (by simp [results, Try.results38, go_sem, k0, k1, k2, k3]) rfl (by rw [HE.out]; exact ⟨_, _, rfl, HV3.dk, K3⟩)
end Go.Proofs.Ytockmhhiomdlkaa

namespace Go.Proofs.Ytockmhhiomdlkaa
set_option linter.unusedVariables false
set_option linter.unusedSimpArgs false
open Go.RowKit

theorem Try.info_op : (Try.prog.info? 70).map (fun i => (i.zero, i.size, i.bytes)) = some (some .nilFunc, 1, 8) := by kernel_rfl
theorem OpV.grown {w w' : World} {v : Value} {o : Option Wop} (h : OpV w v o) {row : Option Nat} (hg : w.grownBy w' row) (hr : ∀ g t cs, Blk w g t cs → t ≠ 70 → some g ≠ row) : OpV w' v o := by
  cases o with
  | none => exact h
  | some o =>
    obtain ⟨b1, b2, e, h1, h2, h3⟩ := h
    exact ⟨b1, b2, e, h1.grown hg (hr _ _ _ h1 (by decide)), h2.grown hg (hr _ _ _ h2 (by decide)), h3⟩
theorem OpL.grown {w w' : World} {vals : List Value} {ops : List (Option Wop)} (h : OpL w vals ops) {row : Option Nat} (hg : w.grownBy w' row) (hr : ∀ g t cs, Blk w g t cs → t ≠ 70 → some g ≠ row) : OpL w' vals ops :=
  ⟨h.1, fun i x y h1 h2 => (h.2 i x y h1 h2).grown hg hr⟩
/-- A row of operations of the call's own. -/
def OwO (w : World) (B : Nat) (v : Value) (ops : List (Option Wop)) : Prop := ∃ vals : List Value, w.ownsRow B 70 1 v ops.length vals ∧ OpL w vals ops ∧ ∀ u ∈ vals, u.oneCell' = true
theorem OwO.nil (w : World) (B : Nat) : OwO w B (.slice none 0 0) [] := ⟨[], World.ownsRow_nil _ _ _ _, OpL.nil _, by simp⟩
theorem OwO.form {w : World} {B : Nat} {v : Value} {ops : List (Option Wop)} (h : OwO w B v ops) : ∃ A c, v = .slice A ops.length c := by
  obtain ⟨vals, h1, _⟩ := h
  exact own_form h1
theorem OwO.below {w w' : World} {B : Nat} {v : Value} {ops : List (Option Wop)} (h : OwO w B v ops) (k : Below w.heap.size w w') : OwO w' B v ops := by
  obtain ⟨vals, h1, h2, h3⟩ := h
  exact ⟨vals, (own_stab (M := fun _ => False) h1 (fun _ _ h => h) _ (Agree.of_below k _)), h2.keep k, h3⟩
theorem elems_vals : ∀ l : List Value, Elems 1 (fun us x => us = [x]) l l
  | [] => rfl
  | x :: l => ⟨[x], l, rfl, rfl, rfl, elems_vals l⟩
theorem OwO.ops {w : World} {B : Nat} {v : Value} {ops : List (Option Wop)} (h : OwO w B v ops) : Ops w v ops := by
  obtain ⟨vals, h1, h2, _⟩ := h
  refine ⟨vals, ?_, h2⟩
  have : Ow w B 70 1 (fun us x => us = [x]) v vals := ⟨vals, by rw [h2.1]; exact h1, elems_vals vals⟩
  exact this.sl
theorem OwO.grow {w w' : World} {B : Nat} {v v' : Value} {ops : List (Option Wop)} {n1 : List Value} {o1 : List (Option Wop)} {vals : List Value} (h1 : w.ownsRow B 70 1 v ops.length vals) (h2 : OpL w vals ops) (h3 : ∀ u ∈ vals, u.oneCell' = true)
    (k : OpL w n1 o1) (kc : ∀ u ∈ n1, u.oneCell' = true) (hg : w.grownBy w' v.ownBlock) (ho : w'.ownsRow B 70 1 v' (ops.length + o1.length) (vals ++ n1)) : OwO w' B v' (ops ++ o1) := by
  have hr : ∀ g t cs, Blk w g t cs → t ≠ 70 → some g ≠ v.ownBlock := fun g t cs hb ht e => own_ne_type h1 hb (Ne.symm ht) e.symm
  refine ⟨vals ++ n1, by rw [List.length_append]; exact ho, (h2.grown hg hr).append (k.grown hg hr), fun u hu => ?_⟩
  rcases List.mem_append.1 hu with hu | hu
  · exact h3 u hu
  · exact kc u hu
theorem wrO_take {S : List ByteArray} {k : Nat} (h : k < S.length) (a : Nat) : wrO a (S.take (k + 1)) = wrO a (S.take k) ++ [(a + k, S[k])] := by
  rw [List.take_succ_eq_append_getElem h, wrO_append, List.length_take, Nat.min_eq_left (by omega)]
theorem wrO_len : ∀ (S : List ByteArray) (a : Nat), (wrO a S).length = S.length
  | [], _ => rfl
  | s :: S, a => by simp [wrO, wrO_len S]

set_option maxRecDepth 100000 in
set_option maxHeartbeats 1000000 in
theorem fill_any (w : World) (A : Option Addr) (c : Nat) (S : List ByteArray) (h : Strs w (.slice A S.length c) S) (a e sz : Nat) (ha : a + S.length ≤ 10000) (he : e ≤ 10000) (hz : sz ≤ 1000) :
    Calls Try.prog 37 #[.int .i64 a, .slice A S.length c, .int .i64 e, .int .i64 sz] w fun en w' => ∃ v, en = .returned v ∧ OwO w' w.heap.size v ((fillO a S e sz).map some) ∧ Below w.heap.size w w' := by
  obtain ⟨i1, hi1, hy0, hy1, hy2⟩ := info_parts Try.info_op
  obtain ⟨A', c', e0, hc, hm⟩ := h.form
  cases e0
  go_enter Try.func37, Try.ntmps37
  go_wp2
  go_loopw [0, 9, 14] (fun ai vl ii wr => ∃ k : Nat, k ≤ S.length ∧ ii = .int .i64 k ∧ ai = .int .i64 ((a + k : Nat) : Int) ∧ Hid (OwO wr w.heap.size vl ((wrO a (S.take k)).map some)) ∧ Below w.heap.size w wr) (fun _ _ ii _ => S.length - (intOf ii).toNat)
  case atStart => exact ⟨0, by omega, rfl, rfl, OwO.nil _ _, Below.refl _ _⟩
  case round =>
    obtain ⟨k, hk, rfl, rfl, HO, hbw⟩ := hrel
    have hsz := hbw.size
    have hlo : ((wrO a (S.take k)).map some).length = k := by rw [List.length_map, wrO_len, List.length_take]; omega
    by_cases hlt : k < S.length
    · obtain ⟨b, off, rfl, a1⟩ := (h.keep (Keeps.of_below hbw)).get hlt
      have HT := Lib.hid (congrArg (List.map some) (wrO_take hlt a))
      generalize S[k] = s at *
      have CW := Lib.hid (jwrite_any (a + k) s (by omega) wr)
      obtain ⟨vals, hrow, hol, hoc⟩ := HO.out
      obtain ⟨rA, rc, rfl⟩ := own_form hrow
      rw [hlo] at hrow ⊢
      have HW := Lib.hid hbw
      have HL := Lib.hid hlo
      have HRow := Lib.hid hrow
      have HOL := Lib.hid hol
      have HOC := Lib.hid hoc
      clear hbw HO hlo hrow hol hoc
      go_wp2_with fail
      refine CW.out.mono ?_
      rintro en w3 ⟨v3, rfl, hv3, hb3⟩
      obtain ⟨b1, b2, rfl, x1, x2, x3⟩ := hv3
      have hrow3 := (own_stab (M := fun _ => False) HRow.out (fun _ _ h => h) _ (Agree.of_below hb3 _))
      have HB3 := Lib.hid (HW.out.trans (hb3.mono HW.out.size))
      have HOL3 := Lib.hid (HOL.out.keep hb3)
      have HX : Hid (OpV w3 (.func (.func 66) #[] #[.pointer (some ⟨b1, 0, none⟩), .pointer (some ⟨b2, 0, none⟩)]) (some (a + k, s))) := ⟨b1, b2, rfl, x1, x2, x3⟩
      have hsz3 := HB3.out.size
      have HR3 := Lib.hid hrow3
      clear x1 x2 x3 hb3 CW HW HRow HOL hrow3
      go_wp2_with (at_builtin; go_must (refine wpList_append_any _ rfl (.tmp 18) (.tmp 22) _ rfl w.heap.size 70 i1 _ 1 8 Try.underlying67 hi1 hy0 hy1 hy2 rfl (by omega) (.slice rA k rc) k _ rfl (World.ownsRow.alloc HR3.out _) _ 1 1 [.func (.func 66) #[] #[.pointer (some ⟨b1, 0, none⟩), .pointer (some ⟨b2, 0, none⟩)]] rfl rfl (CellsAt.of_new _ _ _ _) (by simp [Value.oneCell']) (by omega) (by omega) (by simp; omega) ?_; intro v4 w4 hown4 hgr4 hat4))
      have HO4 : Hid (OwO w4 w.heap.size v4 ((wrO a (S.take (k + 1))).map some)) := by
        have kb := (Below.refl w3.heap.size w3).alloc (Nat.le_refl _) (.cells #[.func (.func 66) #[] #[.pointer (some ⟨b1, 0, none⟩), .pointer (some ⟨b2, 0, none⟩)]] 70)
        have := OwO.grow (n1 := [.func (.func 66) #[] #[.pointer (some ⟨b1, 0, none⟩), .pointer (some ⟨b2, 0, none⟩)]]) (o1 := [some (a + k, s)]) (v' := v4) (by rw [HL.out]; exact World.ownsRow.alloc HR3.out _) (HOL3.out.keep kb) HOC.out (OpL.one (HX.out.keep kb)) (by simp [Value.oneCell']) hgr4 (by rw [HL.out]; exact hown4)
        show OwO _ _ _ _
        rw [HT.out, List.map_append]
        exact this
      have HB4 := Lib.hid ((HB3.out.alloc hsz3 (.cells #[.func (.func 66) #[] #[.pointer (some ⟨b1, 0, none⟩), .pointer (some ⟨b2, 0, none⟩)]] 70)).grown hgr4 (by simp; omega) (fun g h => (World.ownsRow.lt HR3.out g h).1))
      clear hown4 hgr4 hat4 HR3 HB3 HOL3 HX
      go_wp2
      go_roundw
      case rel => exact ⟨k + 1, by omega, by go_num, by go_num, HO4, HB4.out⟩
      case measure => simp [intOf]; omega
    · have hkn : k = S.length := by omega
      subst hkn
      rw [List.take_length] at HO hlo
      by_cases hend : a + S.length < e
      · have hend' : ((a + S.length : Nat) : Int) < (e : Int) := by omega
        have HT : Hid ((fillO a S e sz).map some = (wrO a S).map some ++ [some (a + S.length, zeroS sz)]) := by
          show _ = _
          unfold fillO
          rw [if_pos hend, List.map_append]; rfl
        have CP := Lib.hid (padded_any [] sz (by simp) hz wr)
        obtain ⟨vals, hrow, hol, hoc⟩ := HO.out
        obtain ⟨rA, rc, rfl⟩ := own_form hrow
        rw [hlo] at hrow ⊢
        have HW := Lib.hid hbw
        have HL := Lib.hid hlo
        have HRow := Lib.hid hrow
        have HOL := Lib.hid hol
        have HOC := Lib.hid hoc
        clear hbw HO hlo hrow hol hoc
        go_wp2_with fail
        refine CP.out.mono ?_
        rintro en w2 ⟨rfl, hb2⟩
        have CW := Lib.hid (jwrite_any (a + S.length) (strB (padT sz [])) (by omega) w2)
        have HZ : Hid (strB (padT sz []) = zeroS sz) := rfl
        generalize strB (padT sz []) = Z at *
        clear CP
        go_wp2_with fail
        refine CW.out.mono ?_
        rintro en w3 ⟨v3, rfl, hv3, hb3'⟩
        obtain ⟨b1, b2, rfl, x1, x2, x3⟩ := hv3
        have hb3 := hb2.trans (hb3'.mono hb2.size)
        have hrow3 := (own_stab (M := fun _ => False) HRow.out (fun _ _ h => h) _ (Agree.of_below hb3 _))
        have HB3 := Lib.hid (HW.out.trans (hb3.mono HW.out.size))
        have HOL3 := Lib.hid (HOL.out.keep hb3)
        have HX : Hid (OpV w3 (.func (.func 66) #[] #[.pointer (some ⟨b1, 0, none⟩), .pointer (some ⟨b2, 0, none⟩)]) (some (a + S.length, Z))) := ⟨b1, b2, rfl, x1, x2, x3⟩
        have hsz3 := HB3.out.size
        have HR3 := Lib.hid hrow3
        clear x1 x2 x3 hb3 hb2 hb3' CW HW HRow HOL hrow3
        go_wp2_with (at_builtin; go_must (refine wpList_append_any _ rfl (.tmp 30) (.tmp 35) _ rfl w.heap.size 70 i1 _ 1 8 Try.underlying67 hi1 hy0 hy1 hy2 rfl (by omega) (.slice rA S.length rc) S.length _ rfl (World.ownsRow.alloc HR3.out _) _ 1 1 [.func (.func 66) #[] #[.pointer (some ⟨b1, 0, none⟩), .pointer (some ⟨b2, 0, none⟩)]] rfl rfl (CellsAt.of_new _ _ _ _) (by simp [Value.oneCell']) (by omega) (by omega) (by simp; omega) ?_; intro v4 w4 hown4 hgr4 hat4))
        have HO4 : Hid (OwO w4 w.heap.size v4 ((fillO a S e sz).map some)) := by
          have kb := (Below.refl w3.heap.size w3).alloc (Nat.le_refl _) (.cells #[.func (.func 66) #[] #[.pointer (some ⟨b1, 0, none⟩), .pointer (some ⟨b2, 0, none⟩)]] 70)
          have := OwO.grow (n1 := [.func (.func 66) #[] #[.pointer (some ⟨b1, 0, none⟩), .pointer (some ⟨b2, 0, none⟩)]]) (o1 := [some (a + S.length, Z)]) (v' := v4) (by rw [HL.out]; exact World.ownsRow.alloc HR3.out _) (HOL3.out.keep kb) HOC.out (OpL.one (HX.out.keep kb)) (by simp [Value.oneCell']) hgr4 (by rw [HL.out]; exact hown4)
          show OwO _ _ _ _
          rw [HT.out, ← HZ.out]
          exact this
        have HB4 := Lib.hid ((HB3.out.alloc hsz3 (.cells #[.func (.func 66) #[] #[.pointer (some ⟨b1, 0, none⟩), .pointer (some ⟨b2, 0, none⟩)]] 70)).grown hgr4 (by simp; omega) (fun g h => (World.ownsRow.lt HR3.out g h).1))
        clear hown4 hgr4 hat4 HR3 HB3 HOL3 HX
        go_wp2
        go_ret
        exact ⟨_, rfl, HO4.out, HB4.out⟩
      · have hend' : ¬ ((a + S.length : Nat) : Int) < (e : Int) := by omega
        have HT : Hid ((fillO a S e sz).map some = (wrO a S).map some) := by
          show _ = _
          unfold fillO
          rw [if_neg hend, List.append_nil]
        have HW := Lib.hid hbw
        clear hbw hlo
        go_wp2
        go_ret
        exact ⟨_, rfl, by rw [HT.out]; exact HO.out, HW.out⟩
theorem ops_new {w : World} {vals : List Value} {ops : List (Option Wop)} (h : OpL w vals ops) (hl : ops.length ≤ 1000) : Ops (w.alloc (.cells vals.toArray 70)) (.slice (some ⟨w.heap.size, 0, none⟩) ops.length ops.length) ops := by
  refine ⟨vals, ⟨some ⟨w.heap.size, 0, none⟩, ops.length, vals, by rw [h.1], by rw [h.1]; exact Nat.le_refl _, by unfold maxLen; omega, ?_, elems_vals vals⟩, h.keep ((Below.refl _ _).alloc (Nat.le_refl _) _)⟩
  have := (Blk.new w vals.toArray 70).cellsAt
  simpa using this
end Go.Proofs.Ytockmhhiomdlkaa
