/- delta: join, for any iterator. -/
import Derived.Test.YtiioebpmfjipeaaDeFlush
import Derived.Test.YtiioebpmfjipeaaAppIn
import Derived.RangeFuncCalls
import Derived.Sort.QuietIn
import Derived.Sort.CutIn
import Derived.Laws.EntriesVeiled
import Derived.RangeFuncBox
namespace Go.Proofs.Ytiioebpmfjipeaa
set_option linter.unusedVariables false
set_option linter.unusedSimpArgs false
open Go.RowKit
attribute [local go_sem] Oper.semAt_some

/-! ### plain bounds -/
def OkD (x : DOp) : Prop := 0 ≤ x.off ∧ x.off ≤ 1073741824 ∧ 0 ≤ x.len ∧ x.len ≤ 1073741824 ∧ x.data.length ≤ 1048576
structure JB (n : Nat) (s : List DOp × List UInt8) : Prop where
  l : s.1.length ≤ 2 * n
  t : s.2.length ≤ 1048576 * n
  y : ∀ y ∈ s.1, 0 ≤ y.off ∧ y.off ≤ 1073741824 ∧ 0 ≤ y.len ∧ y.len ≤ 1073741824 * n
theorem flushD_some {l : List DOp} {t : List UInt8} (h : t ≠ []) : flushD (l, t) = l ++ [⟨0, 0, t⟩] := if_neg h
theorem flushD_none {l : List DOp} : flushD (l, []) = l := if_pos rfl
theorem JB.flush {n : Nat} {l : List DOp} {t : List UInt8} (h : JB n (l, t)) : (flushD (l, t)).length ≤ 2 * n + 1 ∧ ∀ y ∈ flushD (l, t), 0 ≤ y.off ∧ y.off ≤ 1073741824 ∧ 0 ≤ y.len ∧ y.len ≤ 1073741824 * n := by
  have h1 := h.l
  simp only at h1
  by_cases ht : t = []
  · subst ht
    rw [flushD_none]
    exact ⟨by omega, h.y⟩
  · rw [flushD_some ht]
    refine ⟨by simp; omega, fun y hy => ?_⟩
    rcases List.mem_append.1 hy with hy | hy
    · exact h.y y hy
    · obtain rfl : y = ⟨0, 0, t⟩ := by simpa using hy
      simp only
      omega
theorem pushD_nil {x : DOp} : pushD [] x = [x] := rfl
theorem pushD_snoc {l : List DOp} {y x : DOp} : pushD (l ++ [y]) x = if y.cp ∧ y.off + y.len = x.off then l ++ [{ y with len := y.len + x.len }] else (l ++ [y]) ++ [x] := by
  simp only [pushD, List.getLast?_concat, List.dropLast_concat]
theorem JB.step {n : Nat} {s : List DOp × List UInt8} {x : DOp} (h : JB n s) (hx : OkD x) : JB (n + 1) (joinStep s x) := by
  obtain ⟨l, t⟩ := s
  obtain ⟨x1, x2, x3, x4, x5⟩ := hx
  have h1 := h.l
  have h2 := h.t
  simp only at h1 h2
  by_cases hi : x.ins
  · have e : joinStep (l, t) x = (l, t ++ x.data) := if_pos hi
    rw [e]
    refine ⟨by simp only; omega, by show (t ++ x.data).length ≤ _; rw [List.length_append]; omega, fun y hy => ?_⟩
    have := h.y y hy
    omega
  · have e : joinStep (l, t) x = (pushD (flushD (l, t)) x, []) := if_neg hi
    rw [e]
    obtain ⟨f1, f2⟩ := h.flush
    generalize flushD (l, t) = m at *
    rcases List.eq_nil_or_concat m with rfl | ⟨m', y, rfl⟩
    · rw [pushD_nil]
      refine ⟨by simp only [List.length_singleton]; omega, by simp, fun y hy => ?_⟩
      obtain rfl : y = x := by simpa using hy
      omega
    · rw [List.concat_eq_append] at f1 f2 ⊢
      rw [pushD_snoc]
      have fy := f2 y (by simp)
      split
      · refine ⟨by simp at f1 ⊢; omega, by simp, fun z hz => ?_⟩
        rcases List.mem_append.1 hz with hz | hz
        · have := f2 z (by simp [hz]); omega
        · obtain rfl : z = { y with len := y.len + x.len } := by simpa using hz
          simp only
          omega
      · refine ⟨by simp at f1 ⊢; omega, by simp, fun z hz => ?_⟩
        rcases List.mem_append.1 hz with hz | hz
        · have := f2 z hz; omega
        · obtain rfl : z = x := by simpa using hz
          omega
theorem JB.folds : ∀ (xs : List DOp) (n : Nat) (s : List DOp × List UInt8), JB n s → (∀ x ∈ xs, OkD x) → JB (n + xs.length) (xs.foldl joinStep s)
  | [], n, s, h, _ => h
  | x :: xs, n, s, h, hx => by
    have := JB.folds xs (n + 1) (joinStep s x) (h.step (hx x (by simp))) fun y hy => hx y (by simp [hy])
    rw [List.length_cons, show n + (xs.length + 1) = n + 1 + xs.length by omega]
    exact this
theorem JB.fold (pre : List DOp) (h : ∀ x ∈ pre, OkD x) : JB pre.length (pre.foldl joinStep ([], [])) := by
  have := JB.folds pre 0 ([], []) ⟨by simp, by simp, fun y hy => by simp at hy⟩ h
  rwa [Nat.zero_add] at this

/-- What the loop of join keeps. -/
def JoinI (w0 : World) (H h : Nat) (pre : List DOp) (W : World) : Prop := ∃ v, JSt H h W.heap.size v (pre.foldl joinStep ([], [])).1 (pre.foldl joinStep ([], [])).2 W ∧ Below H w0 W
/-- An iterator that yields these elements. -/
def Yields' (B : Nat) (w : World) (gf : FuncId) (lb : Array Value) (xs : List DOp) : Prop :=
  ∀ (n l : Nat) (J : Nat → List DOp → World → Prop), 1 ≤ n → (∀ h pre W W', Below W.heap.size W W' → J h pre W → J h pre W') → (∀ h h' pre W, h ≤ h' → J h pre W → J h' pre W) →
    (∀ h pre x W, J h pre W → h ≤ W.heap.size → (∃ rest, xs = pre ++ x :: rest) → YieldAt Fence.wide (n - 1) Try.prog l #[dV x] W fun e W' => e = .returned (.bool true) ∧ J W'.heap.size (pre ++ [x]) W' ∧ KeepA 5 B h W W') →
    ∀ W, Below w.heap.size w W → J W.heap.size [] W → CallsIn Fence.wide n Try.prog gf (#[.func (.yield l) #[] #[]] ++ lb) W fun e W' => (∃ v, e = .returned v) ∧ J W'.heap.size xs W'
theorem JSt.putObj {H h N : Nat} {v : Value} {l : List DOp} {t : List UInt8} {W : World} {r : Nat} {o o' : Obj} (x : JSt H h N v l t W) (hr : W.heap[r]? = some o) (ho : o.isCells = false) : JSt H h N v l t (W.putObj r o') := by
  have far : ∀ {g : Nat} {t : TypeId} {cs : Array Value}, Blk W g t cs → g ≠ r := by
    rintro g t cs hb rfl
    unfold Blk at hb
    rw [hb] at hr
    cases hr
    cases ho
  have blk : ∀ {g : Nat} {t : TypeId} {cs : Array Value}, Blk W g t cs → Blk (W.putObj r o') g t cs := fun hb => (World.putObj_heap_other (far hb)).trans hb
  have hg : W.grownBy (W.putObj r o') (some r) := grownBy_putObj' W r o'
  refine ⟨⟨blk x.row.box, ⟨x.row.row.1, ?_⟩, x.row.low⟩, ?_, blk x.flu, x.hh⟩
  · rcases x.row.row.2 with hn | ⟨g, cap, cur, rfl, hb, hg, rest⟩
    · exact .inl hn
    · exact .inr ⟨g, cap, cur, rfl, hb, blk hg, rest⟩
  · have go : ∀ p, Lib.BuilderAtF 57 5 H (H + 1) p (Lib.byteCells t) W → Lib.BuilderAtF 57 5 H (H + 1) p (Lib.byteCells t) (W.putObj r o') := fun p ⟨h1, v, h2, h3, h4⟩ => by
      refine ⟨h1, v, blk (t := 57) h2, h3.kept hg ?_, h4⟩
      rcases h3.2 with ⟨rfl, _⟩ | ⟨g, cap, cur, fz, rfl, _, hgg, _⟩
      · exact .inl rfl
      · refine .inr fun e => ?_
        have e1 : g = r := by simpa [Value.ownBlock] using e
        subst e1
        rw [hgg] at hr
        cases hr
        cases ho
    exact x.bld.imp (go _) (go _)
def JoinE (xs : List DOp) (w : World) (e : Ending) (w' : World) : Prop := ∃ v, e = .returned v ∧ w'.ownsRow w.heap.size 28 3 v (joinD xs).length ((joinD xs).flatMap dC) ∧ Below w.heap.size w w'

set_option maxRecDepth 100000 in
set_option maxHeartbeats 4000000 in
theorem join_any (w : World) (gf : FuncId) (lb : Array Value) (eg : ∀ args w, (callFunc gf args).run Try.prog w = .ok (.enter gf args) w) (xs : List DOp) (hx : ∀ x ∈ xs, OkD x) (hxl : xs.length ≤ 1048576) (hit : Yields' w.heap.size w gf lb xs) :
    Calls Try.prog 50 #[.func (.func gf) #[] lb] w (JoinE xs w) := by
  obtain ⟨i1, hi1, hy0, hy1, hy2⟩ := info_parts Try.info_op
  have HX := Lib.hid hx
  obtain ⟨H, hH⟩ : ∃ H, H = w.heap.size := ⟨_, rfl⟩
  rw [← hH] at hit
  have HIT := Lib.hid hit
  have EG := Lib.hid eg
  clear hx hit eg
  refine (callsIn_wide (n := 3)).1 ?_
  refine callsIn_of_wp_marks Try.func50 rfl trivial ?_ rfl
  simp only [Try.ntmps50, List.size_toArray, List.length_cons, List.length_nil, Nat.reduceAdd, Nat.reduceSub, Array.replicate_succ, Array.replicate_zero, List.push_toArray, List.append_toArray, List.nil_append, List.cons_append]
  gi_upto_region 3 with (fail)
  have hA1 := (Below.refl w.heap.size w).alloc (Nat.le_refl _) (.cells #[.slice none 0 0] 24)
  have hA2 := hA1.alloc (by simp) (.cells #[.pointer none, .slice none 0 0] 57)
  have hb0 := (Blk.new w #[.slice none 0 0] 24).alloc (.cells #[.pointer none, .slice none 0 0] 57)
  have hb1 := Blk.new (w.alloc (.cells #[.slice none 0 0] 24)) #[.pointer none, .slice none 0 0] 57
  rw [World.size_alloc] at hb1
  have hsz : ((w.alloc (.cells #[.slice none 0 0] 24)).alloc (.cells #[.pointer none, .slice none 0 0] 57)).heap.size = w.heap.size + 2 := by simp
  generalize (w.alloc (.cells #[.slice none 0 0] 24)).alloc (.cells #[.pointer none, .slice none 0 0] 57) = w1 at *
  rw [← hH] at hb0 hb1 hsz hA2
  rw [← hH]
  have HH := Lib.hid hH
  clear hA1 hH
  gi_wp2_with fail
  have hal := (Below.refl w1.heap.size w1).alloc (Nat.le_refl _) (.cells #[flushV H] 1)
  have hb2 := Blk.new w1 #[flushV H] 1
  rw [hsz] at hb2
  have hsz2 : (w1.alloc (.cells #[flushV H] 1)).heap.size = H + 3 := by simp [hsz]
  have hI0 : JoinI w H (H + 3) [] (w1.alloc (.cells #[flushV H] 1)) := ⟨.slice none 0 0, ⟨⟨hb0.keep hal, World.ownsRow_nil _ _ _ _, fun g e => by simp [Value.ownBlock] at e⟩, Bld.below (.inl ⟨by omega, .slice none 0 0, hb1, ⟨rfl, .inl ⟨rfl, rfl⟩⟩, by simp [Value.ownBlock]⟩) hal, hb2, Nat.le_refl _⟩, hA2.trans (hal.mono (by omega))⟩
  have hBW : Below H w (w1.alloc (.cells #[flushV H] 1)) := hA2.trans (hal.mono (by omega))
  rw [← hsz2] at hI0
  unfold flushV at hI0 hsz2 hal hb2 hBW
  generalize w1.alloc (.cells #[.func (.func 63) #[] #[.pointer (some ⟨H + 1, 0, none⟩), .pointer (some ⟨H, 0, none⟩)]] 1) = W0 at *
  clear hb0 hb1 hb2 hal hA2 hsz
  have HB := Lib.hid hBW
  clear hBW
  refine wp_range_own (α := DOp) (gf := gf) (lb := lb) rfl EG.out dV rfl (fun pre x => ∃ rest, xs = pre ++ x :: rest) xs 5 H (JoinI w H) (by omega) (fun h h' pre W hh ⟨v, hj, hb⟩ => ⟨v, hj.mono hh, hb⟩)
    (fun h pre W W' k ⟨v, hj, hb⟩ => ⟨v, (hj.any).below k, hb.trans (k.mono (by have := hj.flu.lt; omega))⟩) (fun h pre W r o o' hr ⟨v, hj, hb⟩ h1 h2 => ⟨v, hj.any.putObj h1 h2, hb.grown (grownBy_putObj' W r o') (by have := hj.flu.lt; omega) (fun k e => by cases e; omega)⟩) hI0
    (fun l J hJ hJm hY W hB h0 => HIT.out 2 l J (by omega) hJ hJm hY W (by rw [← HH.out]; exact HB.out.trans (hB.mono (by omega))) h0)
    (fun x W => W.alloc (.cells (dC x).toArray 28)) (fun x W => (Below.refl _ _).alloc (Nat.le_refl _) _) ?a1 ?assign ?body ?done
  case assign =>
    intro l x W K hK
    unfold dV
    gi_wp2
    exact hK
  case body =>
    rintro l h pre x W W' hWh hhW ⟨r, o, o', hr, ho, hW'⟩ ⟨v, hj, hbel⟩ ⟨rest, hrest⟩
    have hbx : Blk W' W.heap.size 28 (dC x).toArray := by
      have hn := Blk.new W (dC x).toArray 28
      rw [hW']
      refine (World.putObj_heap_other ?_).trans hn
      rintro rfl
      unfold Blk at hn
      rw [hn] at hr
      cases hr
      cases ho
    have hszW : W.heap.size < W'.heap.size := hbx.lt
    have hpb : JB pre.length (pre.foldl joinStep ([], [])) := JB.fold pre fun y hy => HX.out y (by rw [hrest]; simp [hy])
    have hxo : OkD x := HX.out x (by rw [hrest]; simp)
    have hpl : pre.length < xs.length := by rw [hrest]; simp
    have hnew : (pre ++ [x]).foldl joinStep ([], []) = joinStep (pre.foldl joinStep ([], [])) x := by rw [List.foldl_append]; rfl
    generalize hs : pre.foldl joinStep ([], []) = s at *
    obtain ⟨ls, ts⟩ := s
    have hgx : h ≤ W.heap.size := hhW
    generalize W.heap.size = gx at *
    clear hr ho hW' hI0
    have hHh : H + 3 ≤ h := hj.hh
    have CI := Lib.hid (isIns_any x W')
    have q0 := hbx.cell (j := 0) rfl
    have q1 := hbx.cell (j := 1) rfl
    have q2 := hbx.cell (j := 2) rfl
    have hHS := Lib.hid hs
    have hHN := Lib.hid hnew
    have HRest := Lib.hid hrest
    clear hs hnew hrest
    by_cases hi : x.ins
    · have hib : insB x = true := decide_eq_true hi
      have hst : joinStep (ls, ts) x = (ls, ts ++ x.data) := if_pos hi
      rw [hib] at CI
      have HST := Lib.hid hst
      clear hib hi hst
      unfold dV at CI
      have q0' : W'.cell? ⟨gx, 0, none⟩ = some (.int .i64 x.off) := q0
      have q1' : W'.cell? ⟨gx, 1, none⟩ = some (.int .i64 x.len) := q1
      have q2' : W'.cell? ⟨gx, 2, none⟩ = some (.string (strB x.data)) := q2
      clear q0 q1 q2
      gi_wp2_with fail
      refine ⟨trivial, ?_⟩
      refine ((Wid.round l).calls CI.out).mono ?_
      rintro e w2 ⟨rfl, hb2⟩
      have hbx2 := hbx.keep hb2
      have r2 : w2.cell? ⟨gx, 2, none⟩ = some (.string (strB x.data)) := hbx2.cell (j := 2) rfl
      have hj2 := hj.below hb2
      have CW := Lib.hid (ws_any H (H + 1) ts (strB x.data) w2 hj2.bld (by have := hpb.t; rw [strB_size]; have := hxo.2.2.2.2; simp only at *; omega) (by have := hb2.size; omega))
      clear q0' q1' q2'
      gi_wp2_with fail
      refine ⟨trivial, ?_⟩
      refine ((Wid.round l).calls CW.out).mono ?_
      rintro e w3 ⟨rfl, hb3, hB3, ko3⟩
      rw [strB_data] at hb3
      obtain ⟨hj3, hf3⟩ := hj2.built hb3 hB3 ko3
      have hF : FrJ H h W'.heap.size W' w3 := (FrJ.of_below hb2 (by omega)).trans hf3
      have hP : ∀ a, ownPost 5 H h (JoinI w H) (pre ++ [x]) W' .normal a w3 := fun _ => ⟨hF.oth, hF.keepA (by omega), v, by rw [hHN.out, HST.out]; exact hj3.fin (by have := hF.size; omega), hbel.trans hF.bel⟩
      have hP' := Lib.hid hP
      clear hP hF hf3 hj3 hb3 ko3 hB3 CW hj2 hj CI r2 hbx2 hbx hpb
      gi_wp2
      exact hP'.out _
    · have hib : insB x = false := decide_eq_false hi
      have hst : joinStep (ls, ts) x = (pushD (flushD (ls, ts)) x, []) := if_neg hi
      rw [hib] at CI
      have HST := Lib.hid hst
      clear hib hi hst
      unfold dV at CI
      have q0' : W'.cell? ⟨gx, 0, none⟩ = some (.int .i64 x.off) := q0
      have q1' : W'.cell? ⟨gx, 1, none⟩ = some (.int .i64 x.len) := q1
      have q2' : W'.cell? ⟨gx, 2, none⟩ = some (.string (strB x.data)) := q2
      clear q0 q1 q2
      obtain ⟨fl1, fl2⟩ := hpb.flush
      gi_wp2_with fail
      refine ⟨trivial, ?_⟩
      refine ((Wid.round l).calls CI.out).mono ?_
      rintro e w2 ⟨rfl, hb2⟩
      have hj2 := hj.below hb2
      have hbx2 := hbx.keep hb2
      have hsz2 := hb2.size
      have CF := Lib.hid (flush_any H h W'.heap.size v ls ts w2 hj2 (by omega) (by omega) (by have := hpb.l; simp only at this; omega))
      have g2 : w2.cell? ⟨H + 2, 0, none⟩ = some (flushV H) := hj2.flu.cell (j := 0) rfl
      unfold flushV at g2
      clear q0' q1' q2'
      gi_wp2_with fail
      refine ⟨trivial, ?_⟩
      refine ((Wid.round l).calls CF.out).mono ?_
      rintro e w3 ⟨rfl, ⟨v3, hj3⟩, hf3⟩
      have hF3 : FrJ H h W'.heap.size W' w3 := (FrJ.of_below hb2 (by omega)).trans hf3
      have hbx3 : Blk w3 gx 28 (dC x).toArray := hf3.keep gx _ ⟨hgx, hszW⟩ hbx2 fun cs fz e => by injection e with _ e; exact absurd e (by decide)
      have hsz3 := hf3.size
      have hW3 : W'.heap.size ≤ w3.heap.size := by omega
      clear g2 CF hf3 hj2 hbx2 hb2 hj hbx
      generalize flushD (ls, ts) = m0 at *
      have hzz := hj3.hh
      rcases List.eq_nil_or_concat m0 with rfl | ⟨m, y, rfl⟩
      · -- nothing ahead
        have HPD := Lib.hid (pushD_nil (x := x))
        obtain ⟨A3, c3, rfl⟩ := own_form hj3.row.row
        have d3 : w3.cell? ⟨H, 0, none⟩ = some (.slice A3 0 c3) := hj3.row.box.cell (j := 0) rfl
        have hlH : H < w3.heap.size := hj3.row.box.lt
        clear fl1 fl2
        gi_wp2_with fail
        refine AtS.startIn (S := fun _ => True) (Wid.round l) (by kernel_rfl) (by kernel_rfl) trivial 24 ?_
        -- takes '[]' free:0-2 skip:3-7 free:8-9 skip:10-23
        (refine AtS.free (i := 0) (v := ?_) (by simp only [List.getElem?_toArray, List.getElem?_cons_succ, List.getElem?_cons_zero]; rfl) (by kernel_rfl) (by kernel_rfl) (by kernel_rfl) (fun _ _ _ h => h) (by kernel_rfl) (Or.inl ⟨by rfl, fun w _ => ?_⟩) ?_; rotate_left; (go_simp; try with_reducible rfl); simp only [Act.put, List.setIfInBounds_toArray, List.set_cons_zero, List.set_cons_succ])
        (refine AtS.free (i := 1) (v := ?_) (by simp only [List.getElem?_toArray, List.getElem?_cons_succ, List.getElem?_cons_zero]; rfl) (by kernel_rfl) (by kernel_rfl) (by kernel_rfl) (fun _ _ _ h => h) (by kernel_rfl) (Or.inl ⟨by rfl, fun w _ => ?_⟩) ?_; rotate_left; (go_simp; try with_reducible rfl); simp only [Act.put, List.setIfInBounds_toArray, List.set_cons_zero, List.set_cons_succ])
        (refine AtS.free (i := 2) (v := ?_) (by simp only [List.getElem?_toArray, List.getElem?_cons_succ, List.getElem?_cons_zero]; rfl) (by kernel_rfl) (by kernel_rfl) (by kernel_rfl) (fun _ _ _ h => h) (by kernel_rfl) (Or.inl ⟨by rfl, fun w _ => ?_⟩) ?_; rotate_left; (go_simp; try with_reducible rfl); simp only [Act.put, List.setIfInBounds_toArray, List.set_cons_zero, List.set_cons_succ])
        (refine AtS.free (i := 3) (v := undef) (by simp only [List.getElem?_toArray, List.getElem?_cons_succ, List.getElem?_cons_zero]; rfl) (by kernel_rfl) (by kernel_rfl) (by kernel_rfl) (fun _ _ _ h => h) (by kernel_rfl) (Or.inr ⟨by rfl, rfl⟩) ?_; simp only [Act.put, List.setIfInBounds_toArray, List.set_cons_zero, List.set_cons_succ])
        (refine AtS.free (i := 4) (v := undef) (by simp only [List.getElem?_toArray, List.getElem?_cons_succ, List.getElem?_cons_zero]; rfl) (by kernel_rfl) (by kernel_rfl) (by kernel_rfl) (fun _ _ _ h => h) (by kernel_rfl) (Or.inr ⟨by rfl, rfl⟩) ?_; simp only [Act.put, List.setIfInBounds_toArray, List.set_cons_zero, List.set_cons_succ])
        (refine AtS.free (i := 5) (v := undef) (by simp only [List.getElem?_toArray, List.getElem?_cons_succ, List.getElem?_cons_zero]; rfl) (by kernel_rfl) (by kernel_rfl) (by kernel_rfl) (fun _ _ _ h => h) (by kernel_rfl) (Or.inr ⟨by rfl, rfl⟩) ?_; simp only [Act.put, List.setIfInBounds_toArray, List.set_cons_zero, List.set_cons_succ])
        (refine AtS.free (i := 6) (v := undef) (by simp only [List.getElem?_toArray, List.getElem?_cons_succ, List.getElem?_cons_zero]; rfl) (by kernel_rfl) (by kernel_rfl) (by kernel_rfl) (fun _ _ _ h => h) (by kernel_rfl) (Or.inr ⟨by rfl, rfl⟩) ?_; simp only [Act.put, List.setIfInBounds_toArray, List.set_cons_zero, List.set_cons_succ])
        (refine AtS.free (i := 7) (v := undef) (by simp only [List.getElem?_toArray, List.getElem?_cons_succ, List.getElem?_cons_zero]; rfl) (by kernel_rfl) (by kernel_rfl) (by kernel_rfl) (fun _ _ _ h => h) (by kernel_rfl) (Or.inr ⟨by rfl, rfl⟩) ?_; simp only [Act.put, List.setIfInBounds_toArray, List.set_cons_zero, List.set_cons_succ])
        (refine AtS.free (i := 8) (v := ?_) (by simp only [List.getElem?_toArray, List.getElem?_cons_succ, List.getElem?_cons_zero]; rfl) (by kernel_rfl) (by kernel_rfl) (by kernel_rfl) (fun _ _ _ h => h) (by kernel_rfl) (Or.inl ⟨by rfl, fun w _ => ?_⟩) ?_; rotate_left; (go_simp; try with_reducible rfl); simp only [Act.put, List.setIfInBounds_toArray, List.set_cons_zero, List.set_cons_succ])
        (refine AtS.free (i := 9) (v := ?_) (by simp only [List.getElem?_toArray, List.getElem?_cons_succ, List.getElem?_cons_zero]; rfl) (by kernel_rfl) (by kernel_rfl) (by kernel_rfl) (fun _ _ _ h => h) (by kernel_rfl) (Or.inl ⟨by rfl, fun w _ => ?_⟩) ?_; rotate_left; (go_simp; try with_reducible rfl); simp only [Act.put, List.setIfInBounds_toArray, List.set_cons_zero, List.set_cons_succ])
        (refine AtS.free (i := 10) (v := undef) (by simp only [List.getElem?_toArray, List.getElem?_cons_succ, List.getElem?_cons_zero]; rfl) (by kernel_rfl) (by kernel_rfl) (by kernel_rfl) (fun _ _ _ h => h) (by kernel_rfl) (Or.inr ⟨by rfl, rfl⟩) ?_; simp only [Act.put, List.setIfInBounds_toArray, List.set_cons_zero, List.set_cons_succ])
        (refine AtS.free (i := 11) (v := undef) (by simp only [List.getElem?_toArray, List.getElem?_cons_succ, List.getElem?_cons_zero]; rfl) (by kernel_rfl) (by kernel_rfl) (by kernel_rfl) (fun _ _ _ h => h) (by kernel_rfl) (Or.inr ⟨by rfl, rfl⟩) ?_; simp only [Act.put, List.setIfInBounds_toArray, List.set_cons_zero, List.set_cons_succ])
        (refine AtS.free (i := 12) (v := undef) (by simp only [List.getElem?_toArray, List.getElem?_cons_succ, List.getElem?_cons_zero]; rfl) (by kernel_rfl) (by kernel_rfl) (by kernel_rfl) (fun _ _ _ h => h) (by kernel_rfl) (Or.inr ⟨by rfl, rfl⟩) ?_; simp only [Act.put, List.setIfInBounds_toArray, List.set_cons_zero, List.set_cons_succ])
        (refine AtS.free (i := 13) (v := undef) (by simp only [List.getElem?_toArray, List.getElem?_cons_succ, List.getElem?_cons_zero]; rfl) (by kernel_rfl) (by kernel_rfl) (by kernel_rfl) (fun _ _ _ h => h) (by kernel_rfl) (Or.inr ⟨by rfl, rfl⟩) ?_; simp only [Act.put, List.setIfInBounds_toArray, List.set_cons_zero, List.set_cons_succ])
        (refine AtS.free (i := 14) (v := undef) (by simp only [List.getElem?_toArray, List.getElem?_cons_succ, List.getElem?_cons_zero]; rfl) (by kernel_rfl) (by kernel_rfl) (by kernel_rfl) (fun _ _ _ h => h) (by kernel_rfl) (Or.inr ⟨by rfl, rfl⟩) ?_; simp only [Act.put, List.setIfInBounds_toArray, List.set_cons_zero, List.set_cons_succ])
        (refine AtS.free (i := 15) (v := undef) (by simp only [List.getElem?_toArray, List.getElem?_cons_succ, List.getElem?_cons_zero]; rfl) (by kernel_rfl) (by kernel_rfl) (by kernel_rfl) (fun _ _ _ h => h) (by kernel_rfl) (Or.inr ⟨by rfl, rfl⟩) ?_; simp only [Act.put, List.setIfInBounds_toArray, List.set_cons_zero, List.set_cons_succ])
        (refine AtS.free (i := 16) (v := undef) (by simp only [List.getElem?_toArray, List.getElem?_cons_succ, List.getElem?_cons_zero]; rfl) (by kernel_rfl) (by kernel_rfl) (by kernel_rfl) (fun _ _ _ h => h) (by kernel_rfl) (Or.inr ⟨by rfl, rfl⟩) ?_; simp only [Act.put, List.setIfInBounds_toArray, List.set_cons_zero, List.set_cons_succ])
        (refine AtS.free (i := 17) (v := undef) (by simp only [List.getElem?_toArray, List.getElem?_cons_succ, List.getElem?_cons_zero]; rfl) (by kernel_rfl) (by kernel_rfl) (by kernel_rfl) (fun _ _ _ h => h) (by kernel_rfl) (Or.inr ⟨by rfl, rfl⟩) ?_; simp only [Act.put, List.setIfInBounds_toArray, List.set_cons_zero, List.set_cons_succ])
        (refine AtS.free (i := 18) (v := undef) (by simp only [List.getElem?_toArray, List.getElem?_cons_succ, List.getElem?_cons_zero]; rfl) (by kernel_rfl) (by kernel_rfl) (by kernel_rfl) (fun _ _ _ h => h) (by kernel_rfl) (Or.inr ⟨by rfl, rfl⟩) ?_; simp only [Act.put, List.setIfInBounds_toArray, List.set_cons_zero, List.set_cons_succ])
        (refine AtS.free (i := 19) (v := undef) (by simp only [List.getElem?_toArray, List.getElem?_cons_succ, List.getElem?_cons_zero]; rfl) (by kernel_rfl) (by kernel_rfl) (by kernel_rfl) (fun _ _ _ h => h) (by kernel_rfl) (Or.inr ⟨by rfl, rfl⟩) ?_; simp only [Act.put, List.setIfInBounds_toArray, List.set_cons_zero, List.set_cons_succ])
        (refine AtS.free (i := 20) (v := undef) (by simp only [List.getElem?_toArray, List.getElem?_cons_succ, List.getElem?_cons_zero]; rfl) (by kernel_rfl) (by kernel_rfl) (by kernel_rfl) (fun _ _ _ h => h) (by kernel_rfl) (Or.inr ⟨by rfl, rfl⟩) ?_; simp only [Act.put, List.setIfInBounds_toArray, List.set_cons_zero, List.set_cons_succ])
        (refine AtS.free (i := 21) (v := undef) (by simp only [List.getElem?_toArray, List.getElem?_cons_succ, List.getElem?_cons_zero]; rfl) (by kernel_rfl) (by kernel_rfl) (by kernel_rfl) (fun _ _ _ h => h) (by kernel_rfl) (Or.inr ⟨by rfl, rfl⟩) ?_; simp only [Act.put, List.setIfInBounds_toArray, List.set_cons_zero, List.set_cons_succ])
        (refine AtS.free (i := 22) (v := undef) (by simp only [List.getElem?_toArray, List.getElem?_cons_succ, List.getElem?_cons_zero]; rfl) (by kernel_rfl) (by kernel_rfl) (by kernel_rfl) (fun _ _ _ h => h) (by kernel_rfl) (Or.inr ⟨by rfl, rfl⟩) ?_; simp only [Act.put, List.setIfInBounds_toArray, List.set_cons_zero, List.set_cons_succ])
        (refine AtS.free (i := 23) (v := undef) (by simp only [List.getElem?_toArray, List.getElem?_cons_succ, List.getElem?_cons_zero]; rfl) (by kernel_rfl) (by kernel_rfl) (by kernel_rfl) (fun _ _ _ h => h) (by kernel_rfl) (Or.inr ⟨by rfl, rfl⟩) ?_; simp only [Act.put, List.setIfInBounds_toArray, List.set_cons_zero, List.set_cons_succ])
        -- end takes
        refine AtS.late (i := 24) (by simp only [List.getElem?_toArray, List.getElem?_cons_succ, List.getElem?_cons_zero]; rfl) (by kernel_rfl) (by rfl) (by rfl) ?_
        intro K hK
        go_simp
        refine hK _ _ (AtS.done (by kernel_rfl) (OnlyN.normal ?_))
        clear hK K
        have J4 := hj3.below (Below.refl w3.heap.size w3).drew
        have hbx4 := hbx3.keep (Below.refl w3.heap.size w3).drew
        have F4 : FrJ H h W'.heap.size W' w3.drew := hF3.trans (FrJ.of_below (Below.refl w3.heap.size w3).drew (by omega))
        have hsz4 : w3.heap.size ≤ w3.drew.heap.size := Nat.le_refl _
        clear hj3 hbx3 hF3 d3
        generalize w3.drew = w4 at *
        have hal := (Below.refl w4.heap.size w4).alloc (Nat.le_refl _) (.cells #[.int .i64 x.off, .int .i64 x.len, .string (strB x.data)] 28)
        have J5 := J4.below hal
        have hrow := J5.row.row
        have hc4 : w4.cell? ⟨H, 0, none⟩ = some (.slice A3 0 c3) := J4.row.box.cell (j := 0) rfl
        have p0 : w4.cell? ⟨gx, 0, none⟩ = some (.int .i64 x.off) := hbx4.cell (j := 0) rfl
        have p1 : w4.cell? ⟨gx, 1, none⟩ = some (.int .i64 x.len) := hbx4.cell (j := 1) rfl
        have p2 : w4.cell? ⟨gx, 2, none⟩ = some (.string (strB x.data)) := hbx4.cell (j := 2) rfl
        gi_wp2_with (gi_at_builtin; go_must (refine wpListIn_append_at _ rfl (.tmp 56) (.tmp 58) _ rfl H 28 i1 _ 3 32 Try.underlying24 hi1 hy0 hy1 hy2 rfl (by omega) (.slice A3 0 c3) 0 _ rfl hrow ⟨w4.heap.size, 0, none⟩ 1 1 [.int .i64 x.off, .int .i64 x.len, .string (strB x.data)] rfl rfl (CellsAt.of_new _ _ _ _) (by simp [Value.oneCell']) (by omega) (by omega) (by simp; omega) ?_))
        intro v5 w5 hown hgr hat
        obtain ⟨A5, c5, rfl⟩ := own_form hown
        have hbx5 := J5.row.box.grown hgr (own_ne_type J5.row.row J5.row.box (by decide)).symm
        have s5 : w5.cell? ⟨H, 0, none⟩ = some (.slice A3 0 c3) := hbx5.cell (j := 0) rfl
        have f5 := hbx5.frozen 0
        have hown2 : w5.ownsRow H 28 3 (.slice A5 (0 + 1) c5) (([] : List DOp).length + 1) (([] : List DOp).flatMap dC ++ dC x) := hown
        obtain ⟨J6, F6⟩ := J5.push (y := x) (by simp; omega) (by simp; omega) (by simp only [World.size_alloc]; exact hat) hown2 hgr
        have hF : FrJ H h W'.heap.size W' (w5.setCell ⟨H, 0, none⟩ (.slice A5 (0 + 1) c5)) := (F4.trans (FrJ.of_below hal (by omega))).trans F6
        have hP : ∀ a, ownPost 5 H h (JoinI w H) (pre ++ [x]) W' .normal a (w5.setCell ⟨H, 0, none⟩ (.slice A5 (0 + 1) c5)) := fun _ => ⟨hF.oth, hF.keepA (by omega), _, by rw [hHN.out, HST.out, HPD.out]; exact J6.fin (by have := hF.size; omega), hbel.trans hF.bel⟩
        have hP' := Lib.hid hP
        clear hP hF F6 J6 hown2 hgr hat hrow J5 hal hbx5 hown
        gi_wp2
        exact hP'.out _
      · rw [List.concat_eq_append] at *
        have fy := fl2 y (by simp)
        obtain ⟨gr, cr, rfl, hr1, hr2, hr3, hr4⟩ := own_at hj3.row.row (by simp)
        have hml : (m ++ [y]).length = m.length + 1 := by simp
        have hget : (m ++ [y])[m.length]? = some y := by simp
        have e0 : w3.cell? ⟨gr, m.length * 3, none⟩ = some (.int .i64 y.off) := by
          rw [hj3.row.row.cellAt (m.length * 3) (by rw [hml]; omega), show m.length * 3 = m.length * 3 + 0 by omega, flat_get dC_len (m ++ [y]) m.length 0 y hget (by omega)]; rfl
        have e1 : w3.cell? ⟨gr, m.length * 3 + 1, none⟩ = some (.int .i64 y.len) := by
          rw [hj3.row.row.cellAt (m.length * 3 + 1) (by rw [hml]; omega), flat_get dC_len (m ++ [y]) m.length 1 y hget (by omega)]; rfl
        have e2 : w3.cell? ⟨gr, m.length * 3 + 2, none⟩ = some (.string (strB y.data)) := by
          rw [hj3.row.row.cellAt (m.length * 3 + 2) (by rw [hml]; omega), flat_get dC_len (m ++ [y]) m.length 2 y hget (by omega)]; rfl
        have d3 : w3.cell? ⟨H, 0, none⟩ = some (.slice (some ⟨gr, 0, none⟩) (m ++ [y]).length cr) := hj3.row.box.cell (j := 0) rfl
        rw [hml] at d3 hr1
        obtain ⟨kn, hkn⟩ : ∃ kn, kn = m.length + 1 := ⟨_, rfl⟩
        rw [← hkn] at d3 hr1
        have hkl : m.length < kn := by omega
        have q0 : w3.cell? ⟨gx, 0, none⟩ = some (.int .i64 x.off) := hbx3.cell (j := 0) rfl
        have hys : IntKind.i64.wrap (y.off + y.len) = y.off + y.len := i64w (by omega) (by omega)
        have hlH : H < w3.heap.size := hj3.row.box.lt
        have hlx : gx < w3.heap.size := hbx3.lt
        have hpd := pushD_snoc (l := m) (y := y) (x := x)
        have HGET := Lib.hid hget
        have HML := Lib.hid hml
        clear hget hml
        have hyb : y.len ≤ 1125899906842624 ∧ 0 ≤ y.len ∧ 0 ≤ y.off ∧ y.off ≤ 1073741824 := by omega
        have hcc := isCopy_any y w3.drew
        have hmle : m.length ≤ 4194304 := by have := fl1; simp at this; omega
        have hkm : kn ≤ 4194305 := by omega
        have hw1 : (kn : Int) - 1 = (m.length : Int) := by omega
        have HKN := Lib.hid hkn
        clear hkn
        have hge0 : decide ((0 : Int) ≤ (m.length : Int)) = true := by simp
        have hlH' : (⟨H, 0, none⟩ : Addr).block < w3.drew.heap.size := hlH
        have hlx' : (⟨gx, 0, none⟩ : Addr).block < w3.drew.heap.size := hlx
        have hlg0 : (⟨gr, m.length * 3, none⟩ : Addr).block < w3.drew.heap.size := hr4
        have hlg1 : (⟨gr, m.length * 3 + 1, none⟩ : Addr).block < w3.drew.heap.size := hr4
        have hlg2 : (⟨gr, m.length * 3 + 2, none⟩ : Addr).block < w3.drew.heap.size := hr4
        by_cases hcy : y.cp
        · by_cases hoo : y.off + y.len = x.off
          · have hpd2 : pushD (m ++ [y]) x = m ++ [{ y with len := y.len + x.len }] := by rw [hpd, if_pos ⟨hcy, hoo⟩]
            have HPD := Lib.hid hpd2
            clear hpd hpd2
            have hoo' : ((y.off + y.len) == x.off) = true := by simpa using hoo
            clear hoo
            have hcb : cpB y = true := decide_eq_true hcy
            rw [hcb] at hcc
            unfold dV at hcc
            have CC := Lib.hid hcc
            clear hcb hcc hcy fy fl2
            gi_wp2_with fail
            refine AtS.startIn (S := fun w' => w'.cell? ⟨H, 0, none⟩ = some (.slice (some ⟨gr, 0, none⟩) kn cr) ∧ w'.cell? ⟨gr, m.length * 3, none⟩ = some (.int .i64 y.off) ∧ w'.cell? ⟨gr, m.length * 3 + 1, none⟩ = some (.int .i64 y.len) ∧ w'.cell? ⟨gr, m.length * 3 + 2, none⟩ = some (.string (strB y.data)) ∧ w'.cell? ⟨gx, 0, none⟩ = some (.int .i64 x.off)) (Wid.round l) (by kernel_rfl) (by kernel_rfl) ⟨d3, e0, e1, e2, q0⟩ 24 ?_
            -- takes '[]' free:0-2 load:3 free:4-5 load:6
            (refine AtS.free (i := 0) (v := ?_) (by simp only [List.getElem?_toArray, List.getElem?_cons_succ, List.getElem?_cons_zero]; rfl) (by kernel_rfl) (by kernel_rfl) (by kernel_rfl) (fun _ _ _ h => h) (by kernel_rfl) (Or.inl ⟨by rfl, fun w _ => ?_⟩) ?_; rotate_left; (go_simp; try with_reducible rfl); simp only [Act.put, List.setIfInBounds_toArray, List.set_cons_zero, List.set_cons_succ])
            (refine AtS.free (i := 1) (v := ?_) (by simp only [List.getElem?_toArray, List.getElem?_cons_succ, List.getElem?_cons_zero]; rfl) (by kernel_rfl) (by kernel_rfl) (by kernel_rfl) (fun _ _ _ h => h) (by kernel_rfl) (Or.inl ⟨by rfl, fun w _ => ?_⟩) ?_; rotate_left; (go_simp; try with_reducible rfl); simp only [Act.put, List.setIfInBounds_toArray, List.set_cons_zero, List.set_cons_succ])
            (refine AtS.free (i := 2) (v := ?_) (by simp only [List.getElem?_toArray, List.getElem?_cons_succ, List.getElem?_cons_zero]; rfl) (by kernel_rfl) (by kernel_rfl) (by kernel_rfl) (fun _ _ _ h => h) (by kernel_rfl) (Or.inl ⟨by rfl, fun w _ => ?_⟩) ?_; rotate_left; (go_simp; try with_reducible rfl); simp only [Act.put, List.setIfInBounds_toArray, List.set_cons_zero, List.set_cons_succ])
            (refine AtS.load (i := 3) (v := ?_) (by simp only [List.getElem?_toArray, List.getElem?_cons_succ, List.getElem?_cons_zero]; rfl) (by kernel_rfl) (by kernel_rfl) (by kernel_rfl) (fun _ _ _ h => h) [] (by kernel_rfl) (Or.inl ⟨by rfl, fun w hSw => ?_⟩) ?_; rotate_left; ((try dsimp only at hSw); go_split_ands; go_simp; try with_reducible rfl); simp only [Act.put, List.setIfInBounds_toArray, List.set_cons_zero, List.set_cons_succ])
            (refine AtS.free (i := 4) (v := ?_) (by simp only [List.getElem?_toArray, List.getElem?_cons_succ, List.getElem?_cons_zero]; rfl) (by kernel_rfl) (by kernel_rfl) (by kernel_rfl) (fun _ _ _ h => h) (by kernel_rfl) (Or.inl ⟨by rfl, fun w _ => ?_⟩) ?_; rotate_left; (go_simp; try with_reducible rfl); simp only [Act.put, List.setIfInBounds_toArray, List.set_cons_zero, List.set_cons_succ])
            (refine AtS.free (i := 5) (v := ?_) (by simp only [List.getElem?_toArray, List.getElem?_cons_succ, List.getElem?_cons_zero]; rfl) (by kernel_rfl) (by kernel_rfl) (by kernel_rfl) (fun _ _ _ h => h) (by kernel_rfl) (Or.inl ⟨by rfl, fun w _ => ?_⟩) ?_; rotate_left; (go_simp; try with_reducible rfl); simp only [Act.put, List.setIfInBounds_toArray, List.set_cons_zero, List.set_cons_succ])
            (refine AtS.load (i := 6) (v := ?_) (by simp only [List.getElem?_toArray, List.getElem?_cons_succ, List.getElem?_cons_zero]; rfl) (by kernel_rfl) (by kernel_rfl) (by kernel_rfl) (fun _ _ _ h => h) [] (by kernel_rfl) (Or.inl ⟨by rfl, fun w hSw => ?_⟩) ?_; rotate_left; ((try dsimp only at hSw); go_split_ands; go_simp; try with_reducible rfl); simp only [Act.put, List.setIfInBounds_toArray, List.set_cons_zero, List.set_cons_succ])
            -- end takes
            refine AtS.only (i := 7) (by simp only [List.getElem?_toArray, List.getElem?_cons_succ, List.getElem?_cons_zero]; rfl) (by kernel_rfl) (by rfl) ?_
            intro K hK
            go_simp
            refine CC.out.mono ?_
            rintro e w4 ⟨rfl, hb4⟩
            have hK' := hK
            clear hK CC
            refine hK' _ _ ⟨by rw [hb4.cell (p := ⟨H, 0, none⟩) (by exact (by assumption))]; exact d3, by rw [hb4.cell (p := ⟨gr, m.length * 3, none⟩) (by exact (by assumption))]; exact e0, by rw [hb4.cell (p := ⟨gr, m.length * 3 + 1, none⟩) (by exact (by assumption))]; exact e1, by rw [hb4.cell (p := ⟨gr, m.length * 3 + 2, none⟩) (by exact (by assumption))]; exact e2, by rw [hb4.cell (p := ⟨gx, 0, none⟩) (by exact (by assumption))]; exact q0⟩ ?_
            clear hK' K
            -- takes '[]' free:8-9 load:10 free:11-13 load:14-15 free:16-18 load:19 free:20-21 load:22 free:23
            (refine AtS.free (i := 8) (v := ?_) (by simp only [List.getElem?_toArray, List.getElem?_cons_succ, List.getElem?_cons_zero]; rfl) (by kernel_rfl) (by kernel_rfl) (by kernel_rfl) (fun _ _ _ h => h) (by kernel_rfl) (Or.inl ⟨by rfl, fun w _ => ?_⟩) ?_; rotate_left; (go_simp; try with_reducible rfl); simp only [Act.put, List.setIfInBounds_toArray, List.set_cons_zero, List.set_cons_succ])
            (refine AtS.free (i := 9) (v := ?_) (by simp only [List.getElem?_toArray, List.getElem?_cons_succ, List.getElem?_cons_zero]; rfl) (by kernel_rfl) (by kernel_rfl) (by kernel_rfl) (fun _ _ _ h => h) (by kernel_rfl) (Or.inl ⟨by rfl, fun w _ => ?_⟩) ?_; rotate_left; (go_simp; try with_reducible rfl); simp only [Act.put, List.setIfInBounds_toArray, List.set_cons_zero, List.set_cons_succ])
            (refine AtS.load (i := 10) (v := ?_) (by simp only [List.getElem?_toArray, List.getElem?_cons_succ, List.getElem?_cons_zero]; rfl) (by kernel_rfl) (by kernel_rfl) (by kernel_rfl) (fun _ _ _ h => h) [] (by kernel_rfl) (Or.inl ⟨by rfl, fun w hSw => ?_⟩) ?_; rotate_left; ((try dsimp only at hSw); go_split_ands; go_simp; try with_reducible rfl); simp only [Act.put, List.setIfInBounds_toArray, List.set_cons_zero, List.set_cons_succ])
            (refine AtS.free (i := 11) (v := ?_) (by simp only [List.getElem?_toArray, List.getElem?_cons_succ, List.getElem?_cons_zero]; rfl) (by kernel_rfl) (by kernel_rfl) (by kernel_rfl) (fun _ _ _ h => h) (by kernel_rfl) (Or.inl ⟨by rfl, fun w _ => ?_⟩) ?_; rotate_left; (go_simp; try with_reducible rfl); simp only [Act.put, List.setIfInBounds_toArray, List.set_cons_zero, List.set_cons_succ])
            (refine AtS.free (i := 12) (v := ?_) (by simp only [List.getElem?_toArray, List.getElem?_cons_succ, List.getElem?_cons_zero]; rfl) (by kernel_rfl) (by kernel_rfl) (by kernel_rfl) (fun _ _ _ h => h) (by kernel_rfl) (Or.inl ⟨by rfl, fun w _ => ?_⟩) ?_; rotate_left; (go_simp; try with_reducible rfl); simp only [Act.put, List.setIfInBounds_toArray, List.set_cons_zero, List.set_cons_succ])
            (refine AtS.free (i := 13) (v := ?_) (by simp only [List.getElem?_toArray, List.getElem?_cons_succ, List.getElem?_cons_zero]; rfl) (by kernel_rfl) (by kernel_rfl) (by kernel_rfl) (fun _ _ _ h => h) (by kernel_rfl) (Or.inl ⟨by rfl, fun w _ => ?_⟩) ?_; rotate_left; (go_simp; try with_reducible rfl); simp only [Act.put, List.setIfInBounds_toArray, List.set_cons_zero, List.set_cons_succ])
            (refine AtS.load (i := 14) (v := ?_) (by simp only [List.getElem?_toArray, List.getElem?_cons_succ, List.getElem?_cons_zero]; rfl) (by kernel_rfl) (by kernel_rfl) (by kernel_rfl) (fun _ _ _ h => h) [] (by kernel_rfl) (Or.inl ⟨by rfl, fun w hSw => ?_⟩) ?_; rotate_left; ((try dsimp only at hSw); go_split_ands; go_simp; try with_reducible rfl); simp only [Act.put, List.setIfInBounds_toArray, List.set_cons_zero, List.set_cons_succ])
            (refine AtS.load (i := 15) (v := ?_) (by simp only [List.getElem?_toArray, List.getElem?_cons_succ, List.getElem?_cons_zero]; rfl) (by kernel_rfl) (by kernel_rfl) (by kernel_rfl) (fun _ _ _ h => h) [] (by kernel_rfl) (Or.inl ⟨by rfl, fun w hSw => ?_⟩) ?_; rotate_left; ((try dsimp only at hSw); go_split_ands; go_simp; try with_reducible rfl); simp only [Act.put, List.setIfInBounds_toArray, List.set_cons_zero, List.set_cons_succ])
            (refine AtS.free (i := 16) (v := ?_) (by simp only [List.getElem?_toArray, List.getElem?_cons_succ, List.getElem?_cons_zero]; rfl) (by kernel_rfl) (by kernel_rfl) (by kernel_rfl) (fun _ _ _ h => h) (by kernel_rfl) (Or.inl ⟨by rfl, fun w _ => ?_⟩) ?_; rotate_left; (go_simp; try with_reducible rfl); simp only [Act.put, List.setIfInBounds_toArray, List.set_cons_zero, List.set_cons_succ])
            (refine AtS.free (i := 17) (v := ?_) (by simp only [List.getElem?_toArray, List.getElem?_cons_succ, List.getElem?_cons_zero]; rfl) (by kernel_rfl) (by kernel_rfl) (by kernel_rfl) (fun _ _ _ h => h) (by kernel_rfl) (Or.inl ⟨by rfl, fun w _ => ?_⟩) ?_; rotate_left; (go_simp; try with_reducible rfl); simp only [Act.put, List.setIfInBounds_toArray, List.set_cons_zero, List.set_cons_succ])
            (refine AtS.free (i := 18) (v := ?_) (by simp only [List.getElem?_toArray, List.getElem?_cons_succ, List.getElem?_cons_zero]; rfl) (by kernel_rfl) (by kernel_rfl) (by kernel_rfl) (fun _ _ _ h => h) (by kernel_rfl) (Or.inl ⟨by rfl, fun w _ => ?_⟩) ?_; rotate_left; (go_simp; try with_reducible rfl); simp only [Act.put, List.setIfInBounds_toArray, List.set_cons_zero, List.set_cons_succ])
            (refine AtS.load (i := 19) (v := ?_) (by simp only [List.getElem?_toArray, List.getElem?_cons_succ, List.getElem?_cons_zero]; rfl) (by kernel_rfl) (by kernel_rfl) (by kernel_rfl) (fun _ _ _ h => h) [] (by kernel_rfl) (Or.inl ⟨by rfl, fun w hSw => ?_⟩) ?_; rotate_left; ((try dsimp only at hSw); go_split_ands; go_simp; try with_reducible rfl); simp only [Act.put, List.setIfInBounds_toArray, List.set_cons_zero, List.set_cons_succ])
            (refine AtS.free (i := 20) (v := ?_) (by simp only [List.getElem?_toArray, List.getElem?_cons_succ, List.getElem?_cons_zero]; rfl) (by kernel_rfl) (by kernel_rfl) (by kernel_rfl) (fun _ _ _ h => h) (by kernel_rfl) (Or.inl ⟨by rfl, fun w _ => ?_⟩) ?_; rotate_left; (go_simp; try with_reducible rfl); simp only [Act.put, List.setIfInBounds_toArray, List.set_cons_zero, List.set_cons_succ])
            (refine AtS.free (i := 21) (v := ?_) (by simp only [List.getElem?_toArray, List.getElem?_cons_succ, List.getElem?_cons_zero]; rfl) (by kernel_rfl) (by kernel_rfl) (by kernel_rfl) (fun _ _ _ h => h) (by kernel_rfl) (Or.inl ⟨by rfl, fun w _ => ?_⟩) ?_; rotate_left; (go_simp; try with_reducible rfl); simp only [Act.put, List.setIfInBounds_toArray, List.set_cons_zero, List.set_cons_succ])
            (refine AtS.load (i := 22) (v := ?_) (by simp only [List.getElem?_toArray, List.getElem?_cons_succ, List.getElem?_cons_zero]; rfl) (by kernel_rfl) (by kernel_rfl) (by kernel_rfl) (fun _ _ _ h => h) [] (by kernel_rfl) (Or.inl ⟨by rfl, fun w hSw => ?_⟩) ?_; rotate_left; ((try dsimp only at hSw); go_split_ands; go_simp; try with_reducible rfl); simp only [Act.put, List.setIfInBounds_toArray, List.set_cons_zero, List.set_cons_succ])
            (refine AtS.free (i := 23) (v := ?_) (by simp only [List.getElem?_toArray, List.getElem?_cons_succ, List.getElem?_cons_zero]; rfl) (by kernel_rfl) (by kernel_rfl) (by kernel_rfl) (fun _ _ _ h => h) (by kernel_rfl) (Or.inl ⟨by rfl, fun w _ => ?_⟩) ?_; rotate_left; (go_simp; try with_reducible rfl); simp only [Act.put, List.setIfInBounds_toArray, List.set_cons_zero, List.set_cons_succ])
            -- end takes
            refine AtS.late (i := 24) (by simp only [List.getElem?_toArray, List.getElem?_cons_succ, List.getElem?_cons_zero]; rfl) (by kernel_rfl) (by rfl) (by rfl) ?_
            intro K hK
            go_simp
            refine hK _ _ (AtS.done (by kernel_rfl) (OnlyN.normal ?_))
            clear hK K
            have J4 := (hj3.below (Below.refl w3.heap.size w3).drew).below hb4
            have hbx4 := (hbx3.keep (Below.refl w3.heap.size w3).drew).keep hb4
            have F4 : FrJ H h W'.heap.size W' w4 := (hF3.trans (FrJ.of_below (Below.refl w3.heap.size w3).drew (by omega))).trans (FrJ.of_below hb4 (by simp; omega))
            have hsz4 : w3.heap.size ≤ w4.heap.size := hb4.size
            have d4 : w4.cell? ⟨H, 0, none⟩ = some (.slice (some ⟨gr, 0, none⟩) kn cr) := by rw [hb4.cell hlH']; exact d3
            have e4 : w4.cell? ⟨gr, m.length * 3 + 1, none⟩ = some (.int .i64 y.len) := by rw [hb4.cell hlg1]; exact e1
            have p4 : w4.cell? ⟨gx, 1, none⟩ = some (.int .i64 x.len) := hbx4.cell (j := 1) rfl
            have f4 : w4.frozen? ⟨gr, m.length * 3 + 1, none⟩ = false := J4.row.row.frozenAt _
            have hzl : IntKind.i64.wrap (y.len + x.len) = y.len + x.len := i64w (by have := hxo.2.2.1; omega) (by have := hxo.2.2.2.1; omega)
            clear hj3 hbx3 hF3 hb4 d3 e0 e1 e2 q0 hlH' hlx' hlg0 hlg1 hlg2
            gi_wp2_with fail
            refine AtS.startIn (S := fun w' => w'.cell? ⟨H, 0, none⟩ = some (.slice (some ⟨gr, 0, none⟩) kn cr) ∧ w'.cell? ⟨gr, m.length * 3 + 1, none⟩ = some (.int .i64 y.len) ∧ w'.cell? ⟨gx, 1, none⟩ = some (.int .i64 x.len)) (Wid.round l) (by kernel_rfl) (by kernel_rfl) ⟨d4, e4, p4⟩ 10 ?_
            -- takes '[]' load:0 free:1-3 load:4 free:5 load:6 free:7-9
            (refine AtS.load (i := 0) (v := ?_) (by simp only [List.getElem?_toArray, List.getElem?_cons_succ, List.getElem?_cons_zero]; rfl) (by kernel_rfl) (by kernel_rfl) (by kernel_rfl) (fun _ _ _ h => h) [] (by kernel_rfl) (Or.inl ⟨by rfl, fun w hSw => ?_⟩) ?_; rotate_left; ((try dsimp only at hSw); go_split_ands; go_simp; try with_reducible rfl); simp only [Act.put, List.setIfInBounds_toArray, List.set_cons_zero, List.set_cons_succ])
            (refine AtS.free (i := 1) (v := ?_) (by simp only [List.getElem?_toArray, List.getElem?_cons_succ, List.getElem?_cons_zero]; rfl) (by kernel_rfl) (by kernel_rfl) (by kernel_rfl) (fun _ _ _ h => h) (by kernel_rfl) (Or.inl ⟨by rfl, fun w _ => ?_⟩) ?_; rotate_left; (go_simp; try with_reducible rfl); simp only [Act.put, List.setIfInBounds_toArray, List.set_cons_zero, List.set_cons_succ])
            (refine AtS.free (i := 2) (v := ?_) (by simp only [List.getElem?_toArray, List.getElem?_cons_succ, List.getElem?_cons_zero]; rfl) (by kernel_rfl) (by kernel_rfl) (by kernel_rfl) (fun _ _ _ h => h) (by kernel_rfl) (Or.inl ⟨by rfl, fun w _ => ?_⟩) ?_; rotate_left; (go_simp; try with_reducible rfl); simp only [Act.put, List.setIfInBounds_toArray, List.set_cons_zero, List.set_cons_succ])
            (refine AtS.free (i := 3) (v := ?_) (by simp only [List.getElem?_toArray, List.getElem?_cons_succ, List.getElem?_cons_zero]; rfl) (by kernel_rfl) (by kernel_rfl) (by kernel_rfl) (fun _ _ _ h => h) (by kernel_rfl) (Or.inl ⟨by rfl, fun w _ => ?_⟩) ?_; rotate_left; (go_simp; try with_reducible rfl); simp only [Act.put, List.setIfInBounds_toArray, List.set_cons_zero, List.set_cons_succ])
            (refine AtS.load (i := 4) (v := ?_) (by simp only [List.getElem?_toArray, List.getElem?_cons_succ, List.getElem?_cons_zero]; rfl) (by kernel_rfl) (by kernel_rfl) (by kernel_rfl) (fun _ _ _ h => h) [] (by kernel_rfl) (Or.inl ⟨by rfl, fun w hSw => ?_⟩) ?_; rotate_left; ((try dsimp only at hSw); go_split_ands; go_simp; try with_reducible rfl); simp only [Act.put, List.setIfInBounds_toArray, List.set_cons_zero, List.set_cons_succ])
            (refine AtS.free (i := 5) (v := ?_) (by simp only [List.getElem?_toArray, List.getElem?_cons_succ, List.getElem?_cons_zero]; rfl) (by kernel_rfl) (by kernel_rfl) (by kernel_rfl) (fun _ _ _ h => h) (by kernel_rfl) (Or.inl ⟨by rfl, fun w _ => ?_⟩) ?_; rotate_left; (go_simp; try with_reducible rfl); simp only [Act.put, List.setIfInBounds_toArray, List.set_cons_zero, List.set_cons_succ])
            (refine AtS.load (i := 6) (v := ?_) (by simp only [List.getElem?_toArray, List.getElem?_cons_succ, List.getElem?_cons_zero]; rfl) (by kernel_rfl) (by kernel_rfl) (by kernel_rfl) (fun _ _ _ h => h) [] (by kernel_rfl) (Or.inl ⟨by rfl, fun w hSw => ?_⟩) ?_; rotate_left; ((try dsimp only at hSw); go_split_ands; go_simp; try with_reducible rfl); simp only [Act.put, List.setIfInBounds_toArray, List.set_cons_zero, List.set_cons_succ])
            (refine AtS.free (i := 7) (v := ?_) (by simp only [List.getElem?_toArray, List.getElem?_cons_succ, List.getElem?_cons_zero]; rfl) (by kernel_rfl) (by kernel_rfl) (by kernel_rfl) (fun _ _ _ h => h) (by kernel_rfl) (Or.inl ⟨by rfl, fun w _ => ?_⟩) ?_; rotate_left; (go_simp; try with_reducible rfl); simp only [Act.put, List.setIfInBounds_toArray, List.set_cons_zero, List.set_cons_succ])
            (refine AtS.free (i := 8) (v := ?_) (by simp only [List.getElem?_toArray, List.getElem?_cons_succ, List.getElem?_cons_zero]; rfl) (by kernel_rfl) (by kernel_rfl) (by kernel_rfl) (fun _ _ _ h => h) (by kernel_rfl) (Or.inl ⟨by rfl, fun w _ => ?_⟩) ?_; rotate_left; (go_simp; try with_reducible rfl); simp only [Act.put, List.setIfInBounds_toArray, List.set_cons_zero, List.set_cons_succ])
            (refine AtS.free (i := 9) (v := ?_) (by simp only [List.getElem?_toArray, List.getElem?_cons_succ, List.getElem?_cons_zero]; rfl) (by kernel_rfl) (by kernel_rfl) (by kernel_rfl) (fun _ _ _ h => h) (by kernel_rfl) (Or.inl ⟨by rfl, fun w _ => ?_⟩) ?_; rotate_left; (go_simp; try with_reducible rfl); simp only [Act.put, List.setIfInBounds_toArray, List.set_cons_zero, List.set_cons_succ])
            -- end takes
            refine AtS.late (i := 10) (by simp only [List.getElem?_toArray, List.getElem?_cons_succ, List.getElem?_cons_zero]; rfl) (by kernel_rfl) (by rfl) (by rfl) ?_
            intro K hK
            go_simp
            refine hK _ _ (AtS.done (by kernel_rfl) (OnlyN.normal ?_))
            clear hK K
            obtain ⟨J6, F6⟩ := (J4.below (Below.refl w4.heap.size w4).drew).putLast (y.len + x.len)
            have hF : FrJ H h W'.heap.size W' (w4.drew.setCell ⟨gr, m.length * 3 + 1, none⟩ (.int .i64 (y.len + x.len))) := (F4.trans (FrJ.of_below (Below.refl w4.heap.size w4).drew (by omega))).trans F6
            have hP : ∀ a, ownPost 5 H h (JoinI w H) (pre ++ [x]) W' .normal a (w4.drew.setCell ⟨gr, m.length * 3 + 1, none⟩ (.int .i64 (y.len + x.len))) := fun _ => ⟨hF.oth, hF.keepA (by omega), _, by rw [hHN.out, HST.out, HPD.out]; exact J6.fin (by have := hF.size; omega), hbel.trans hF.bel⟩
            have hP' := Lib.hid hP
            clear hP hF F6 J6 J4 hbx4 F4 d4 e4 p4 f4
            gi_wp2
            exact hP'.out _
          · have hpd2 : pushD (m ++ [y]) x = (m ++ [y]) ++ [x] := by rw [hpd, if_neg fun h => hoo h.2]
            have HPD := Lib.hid hpd2
            clear hpd hpd2
            have hoo' : ((y.off + y.len) == x.off) = false := by simpa using hoo
            clear hoo
            have hcb : cpB y = true := decide_eq_true hcy
            rw [hcb] at hcc
            unfold dV at hcc
            have CC := Lib.hid hcc
            clear hcb hcc hcy fy fl2
            gi_wp2_with fail
            refine AtS.startIn (S := fun w' => w'.cell? ⟨H, 0, none⟩ = some (.slice (some ⟨gr, 0, none⟩) kn cr) ∧ w'.cell? ⟨gr, m.length * 3, none⟩ = some (.int .i64 y.off) ∧ w'.cell? ⟨gr, m.length * 3 + 1, none⟩ = some (.int .i64 y.len) ∧ w'.cell? ⟨gr, m.length * 3 + 2, none⟩ = some (.string (strB y.data)) ∧ w'.cell? ⟨gx, 0, none⟩ = some (.int .i64 x.off)) (Wid.round l) (by kernel_rfl) (by kernel_rfl) ⟨d3, e0, e1, e2, q0⟩ 24 ?_
            -- takes '[]' free:0-2 load:3 free:4-5 load:6
            (refine AtS.free (i := 0) (v := ?_) (by simp only [List.getElem?_toArray, List.getElem?_cons_succ, List.getElem?_cons_zero]; rfl) (by kernel_rfl) (by kernel_rfl) (by kernel_rfl) (fun _ _ _ h => h) (by kernel_rfl) (Or.inl ⟨by rfl, fun w _ => ?_⟩) ?_; rotate_left; (go_simp; try with_reducible rfl); simp only [Act.put, List.setIfInBounds_toArray, List.set_cons_zero, List.set_cons_succ])
            (refine AtS.free (i := 1) (v := ?_) (by simp only [List.getElem?_toArray, List.getElem?_cons_succ, List.getElem?_cons_zero]; rfl) (by kernel_rfl) (by kernel_rfl) (by kernel_rfl) (fun _ _ _ h => h) (by kernel_rfl) (Or.inl ⟨by rfl, fun w _ => ?_⟩) ?_; rotate_left; (go_simp; try with_reducible rfl); simp only [Act.put, List.setIfInBounds_toArray, List.set_cons_zero, List.set_cons_succ])
            (refine AtS.free (i := 2) (v := ?_) (by simp only [List.getElem?_toArray, List.getElem?_cons_succ, List.getElem?_cons_zero]; rfl) (by kernel_rfl) (by kernel_rfl) (by kernel_rfl) (fun _ _ _ h => h) (by kernel_rfl) (Or.inl ⟨by rfl, fun w _ => ?_⟩) ?_; rotate_left; (go_simp; try with_reducible rfl); simp only [Act.put, List.setIfInBounds_toArray, List.set_cons_zero, List.set_cons_succ])
            (refine AtS.load (i := 3) (v := ?_) (by simp only [List.getElem?_toArray, List.getElem?_cons_succ, List.getElem?_cons_zero]; rfl) (by kernel_rfl) (by kernel_rfl) (by kernel_rfl) (fun _ _ _ h => h) [] (by kernel_rfl) (Or.inl ⟨by rfl, fun w hSw => ?_⟩) ?_; rotate_left; ((try dsimp only at hSw); go_split_ands; go_simp; try with_reducible rfl); simp only [Act.put, List.setIfInBounds_toArray, List.set_cons_zero, List.set_cons_succ])
            (refine AtS.free (i := 4) (v := ?_) (by simp only [List.getElem?_toArray, List.getElem?_cons_succ, List.getElem?_cons_zero]; rfl) (by kernel_rfl) (by kernel_rfl) (by kernel_rfl) (fun _ _ _ h => h) (by kernel_rfl) (Or.inl ⟨by rfl, fun w _ => ?_⟩) ?_; rotate_left; (go_simp; try with_reducible rfl); simp only [Act.put, List.setIfInBounds_toArray, List.set_cons_zero, List.set_cons_succ])
            (refine AtS.free (i := 5) (v := ?_) (by simp only [List.getElem?_toArray, List.getElem?_cons_succ, List.getElem?_cons_zero]; rfl) (by kernel_rfl) (by kernel_rfl) (by kernel_rfl) (fun _ _ _ h => h) (by kernel_rfl) (Or.inl ⟨by rfl, fun w _ => ?_⟩) ?_; rotate_left; (go_simp; try with_reducible rfl); simp only [Act.put, List.setIfInBounds_toArray, List.set_cons_zero, List.set_cons_succ])
            (refine AtS.load (i := 6) (v := ?_) (by simp only [List.getElem?_toArray, List.getElem?_cons_succ, List.getElem?_cons_zero]; rfl) (by kernel_rfl) (by kernel_rfl) (by kernel_rfl) (fun _ _ _ h => h) [] (by kernel_rfl) (Or.inl ⟨by rfl, fun w hSw => ?_⟩) ?_; rotate_left; ((try dsimp only at hSw); go_split_ands; go_simp; try with_reducible rfl); simp only [Act.put, List.setIfInBounds_toArray, List.set_cons_zero, List.set_cons_succ])
            -- end takes
            refine AtS.only (i := 7) (by simp only [List.getElem?_toArray, List.getElem?_cons_succ, List.getElem?_cons_zero]; rfl) (by kernel_rfl) (by rfl) ?_
            intro K hK
            go_simp
            refine CC.out.mono ?_
            rintro e w4 ⟨rfl, hb4⟩
            have hK' := hK
            clear hK CC
            refine hK' _ _ ⟨by rw [hb4.cell (p := ⟨H, 0, none⟩) (by exact (by assumption))]; exact d3, by rw [hb4.cell (p := ⟨gr, m.length * 3, none⟩) (by exact (by assumption))]; exact e0, by rw [hb4.cell (p := ⟨gr, m.length * 3 + 1, none⟩) (by exact (by assumption))]; exact e1, by rw [hb4.cell (p := ⟨gr, m.length * 3 + 2, none⟩) (by exact (by assumption))]; exact e2, by rw [hb4.cell (p := ⟨gx, 0, none⟩) (by exact (by assumption))]; exact q0⟩ ?_
            clear hK' K
            -- takes '[]' free:8-9 load:10 free:11-13 load:14-15 free:16-18 load:19 free:20-21 load:22 free:23
            (refine AtS.free (i := 8) (v := ?_) (by simp only [List.getElem?_toArray, List.getElem?_cons_succ, List.getElem?_cons_zero]; rfl) (by kernel_rfl) (by kernel_rfl) (by kernel_rfl) (fun _ _ _ h => h) (by kernel_rfl) (Or.inl ⟨by rfl, fun w _ => ?_⟩) ?_; rotate_left; (go_simp; try with_reducible rfl); simp only [Act.put, List.setIfInBounds_toArray, List.set_cons_zero, List.set_cons_succ])
            (refine AtS.free (i := 9) (v := ?_) (by simp only [List.getElem?_toArray, List.getElem?_cons_succ, List.getElem?_cons_zero]; rfl) (by kernel_rfl) (by kernel_rfl) (by kernel_rfl) (fun _ _ _ h => h) (by kernel_rfl) (Or.inl ⟨by rfl, fun w _ => ?_⟩) ?_; rotate_left; (go_simp; try with_reducible rfl); simp only [Act.put, List.setIfInBounds_toArray, List.set_cons_zero, List.set_cons_succ])
            (refine AtS.load (i := 10) (v := ?_) (by simp only [List.getElem?_toArray, List.getElem?_cons_succ, List.getElem?_cons_zero]; rfl) (by kernel_rfl) (by kernel_rfl) (by kernel_rfl) (fun _ _ _ h => h) [] (by kernel_rfl) (Or.inl ⟨by rfl, fun w hSw => ?_⟩) ?_; rotate_left; ((try dsimp only at hSw); go_split_ands; go_simp; try with_reducible rfl); simp only [Act.put, List.setIfInBounds_toArray, List.set_cons_zero, List.set_cons_succ])
            (refine AtS.free (i := 11) (v := ?_) (by simp only [List.getElem?_toArray, List.getElem?_cons_succ, List.getElem?_cons_zero]; rfl) (by kernel_rfl) (by kernel_rfl) (by kernel_rfl) (fun _ _ _ h => h) (by kernel_rfl) (Or.inl ⟨by rfl, fun w _ => ?_⟩) ?_; rotate_left; (go_simp; try with_reducible rfl); simp only [Act.put, List.setIfInBounds_toArray, List.set_cons_zero, List.set_cons_succ])
            (refine AtS.free (i := 12) (v := ?_) (by simp only [List.getElem?_toArray, List.getElem?_cons_succ, List.getElem?_cons_zero]; rfl) (by kernel_rfl) (by kernel_rfl) (by kernel_rfl) (fun _ _ _ h => h) (by kernel_rfl) (Or.inl ⟨by rfl, fun w _ => ?_⟩) ?_; rotate_left; (go_simp; try with_reducible rfl); simp only [Act.put, List.setIfInBounds_toArray, List.set_cons_zero, List.set_cons_succ])
            (refine AtS.free (i := 13) (v := ?_) (by simp only [List.getElem?_toArray, List.getElem?_cons_succ, List.getElem?_cons_zero]; rfl) (by kernel_rfl) (by kernel_rfl) (by kernel_rfl) (fun _ _ _ h => h) (by kernel_rfl) (Or.inl ⟨by rfl, fun w _ => ?_⟩) ?_; rotate_left; (go_simp; try with_reducible rfl); simp only [Act.put, List.setIfInBounds_toArray, List.set_cons_zero, List.set_cons_succ])
            (refine AtS.load (i := 14) (v := ?_) (by simp only [List.getElem?_toArray, List.getElem?_cons_succ, List.getElem?_cons_zero]; rfl) (by kernel_rfl) (by kernel_rfl) (by kernel_rfl) (fun _ _ _ h => h) [] (by kernel_rfl) (Or.inl ⟨by rfl, fun w hSw => ?_⟩) ?_; rotate_left; ((try dsimp only at hSw); go_split_ands; go_simp; try with_reducible rfl); simp only [Act.put, List.setIfInBounds_toArray, List.set_cons_zero, List.set_cons_succ])
            (refine AtS.load (i := 15) (v := ?_) (by simp only [List.getElem?_toArray, List.getElem?_cons_succ, List.getElem?_cons_zero]; rfl) (by kernel_rfl) (by kernel_rfl) (by kernel_rfl) (fun _ _ _ h => h) [] (by kernel_rfl) (Or.inl ⟨by rfl, fun w hSw => ?_⟩) ?_; rotate_left; ((try dsimp only at hSw); go_split_ands; go_simp; try with_reducible rfl); simp only [Act.put, List.setIfInBounds_toArray, List.set_cons_zero, List.set_cons_succ])
            (refine AtS.free (i := 16) (v := ?_) (by simp only [List.getElem?_toArray, List.getElem?_cons_succ, List.getElem?_cons_zero]; rfl) (by kernel_rfl) (by kernel_rfl) (by kernel_rfl) (fun _ _ _ h => h) (by kernel_rfl) (Or.inl ⟨by rfl, fun w _ => ?_⟩) ?_; rotate_left; (go_simp; try with_reducible rfl); simp only [Act.put, List.setIfInBounds_toArray, List.set_cons_zero, List.set_cons_succ])
            (refine AtS.free (i := 17) (v := ?_) (by simp only [List.getElem?_toArray, List.getElem?_cons_succ, List.getElem?_cons_zero]; rfl) (by kernel_rfl) (by kernel_rfl) (by kernel_rfl) (fun _ _ _ h => h) (by kernel_rfl) (Or.inl ⟨by rfl, fun w _ => ?_⟩) ?_; rotate_left; (go_simp; try with_reducible rfl); simp only [Act.put, List.setIfInBounds_toArray, List.set_cons_zero, List.set_cons_succ])
            (refine AtS.free (i := 18) (v := ?_) (by simp only [List.getElem?_toArray, List.getElem?_cons_succ, List.getElem?_cons_zero]; rfl) (by kernel_rfl) (by kernel_rfl) (by kernel_rfl) (fun _ _ _ h => h) (by kernel_rfl) (Or.inl ⟨by rfl, fun w _ => ?_⟩) ?_; rotate_left; (go_simp; try with_reducible rfl); simp only [Act.put, List.setIfInBounds_toArray, List.set_cons_zero, List.set_cons_succ])
            (refine AtS.load (i := 19) (v := ?_) (by simp only [List.getElem?_toArray, List.getElem?_cons_succ, List.getElem?_cons_zero]; rfl) (by kernel_rfl) (by kernel_rfl) (by kernel_rfl) (fun _ _ _ h => h) [] (by kernel_rfl) (Or.inl ⟨by rfl, fun w hSw => ?_⟩) ?_; rotate_left; ((try dsimp only at hSw); go_split_ands; go_simp; try with_reducible rfl); simp only [Act.put, List.setIfInBounds_toArray, List.set_cons_zero, List.set_cons_succ])
            (refine AtS.free (i := 20) (v := ?_) (by simp only [List.getElem?_toArray, List.getElem?_cons_succ, List.getElem?_cons_zero]; rfl) (by kernel_rfl) (by kernel_rfl) (by kernel_rfl) (fun _ _ _ h => h) (by kernel_rfl) (Or.inl ⟨by rfl, fun w _ => ?_⟩) ?_; rotate_left; (go_simp; try with_reducible rfl); simp only [Act.put, List.setIfInBounds_toArray, List.set_cons_zero, List.set_cons_succ])
            (refine AtS.free (i := 21) (v := ?_) (by simp only [List.getElem?_toArray, List.getElem?_cons_succ, List.getElem?_cons_zero]; rfl) (by kernel_rfl) (by kernel_rfl) (by kernel_rfl) (fun _ _ _ h => h) (by kernel_rfl) (Or.inl ⟨by rfl, fun w _ => ?_⟩) ?_; rotate_left; (go_simp; try with_reducible rfl); simp only [Act.put, List.setIfInBounds_toArray, List.set_cons_zero, List.set_cons_succ])
            (refine AtS.load (i := 22) (v := ?_) (by simp only [List.getElem?_toArray, List.getElem?_cons_succ, List.getElem?_cons_zero]; rfl) (by kernel_rfl) (by kernel_rfl) (by kernel_rfl) (fun _ _ _ h => h) [] (by kernel_rfl) (Or.inl ⟨by rfl, fun w hSw => ?_⟩) ?_; rotate_left; ((try dsimp only at hSw); go_split_ands; go_simp; try with_reducible rfl); simp only [Act.put, List.setIfInBounds_toArray, List.set_cons_zero, List.set_cons_succ])
            (refine AtS.free (i := 23) (v := ?_) (by simp only [List.getElem?_toArray, List.getElem?_cons_succ, List.getElem?_cons_zero]; rfl) (by kernel_rfl) (by kernel_rfl) (by kernel_rfl) (fun _ _ _ h => h) (by kernel_rfl) (Or.inl ⟨by rfl, fun w _ => ?_⟩) ?_; rotate_left; (go_simp; try with_reducible rfl); simp only [Act.put, List.setIfInBounds_toArray, List.set_cons_zero, List.set_cons_succ])
            -- end takes
            refine AtS.late (i := 24) (by simp only [List.getElem?_toArray, List.getElem?_cons_succ, List.getElem?_cons_zero]; rfl) (by kernel_rfl) (by rfl) (by rfl) ?_
            intro K hK
            go_simp
            refine hK _ _ (AtS.done (by kernel_rfl) (OnlyN.normal ?_))
            clear hK K
            have J4 := (hj3.below (Below.refl w3.heap.size w3).drew).below hb4
            have hbx4 := (hbx3.keep (Below.refl w3.heap.size w3).drew).keep hb4
            have F4 : FrJ H h W'.heap.size W' w4 := (hF3.trans (FrJ.of_below (Below.refl w3.heap.size w3).drew (by omega))).trans (FrJ.of_below hb4 (by simp; omega))
            have hsz4 : w3.heap.size ≤ w4.heap.size := hb4.size
            clear hj3 hbx3 hF3 hb4 d3 e0 e1 e2 q0 hlH' hlx' hlg0 hlg1 hlg2
            have hal := (Below.refl w4.heap.size w4).alloc (Nat.le_refl _) (.cells #[.int .i64 x.off, .int .i64 x.len, .string (strB x.data)] 28)
            have J5 := J4.below hal
            have hrow := J5.row.row
            rw [HML.out, ← HKN.out] at hrow
            have hc4 : w4.cell? ⟨H, 0, none⟩ = some (.slice (some ⟨gr, 0, none⟩) kn cr) := by have := J4.row.box.cell (j := 0) rfl; rw [HML.out, ← HKN.out] at this; exact this
            have p0 : w4.cell? ⟨gx, 0, none⟩ = some (.int .i64 x.off) := hbx4.cell (j := 0) rfl
            have p1 : w4.cell? ⟨gx, 1, none⟩ = some (.int .i64 x.len) := hbx4.cell (j := 1) rfl
            have p2 : w4.cell? ⟨gx, 2, none⟩ = some (.string (strB x.data)) := hbx4.cell (j := 2) rfl
            gi_wp2_with (gi_at_builtin; go_must (refine wpListIn_append_at _ rfl (.tmp 56) (.tmp 58) _ rfl H 28 i1 _ 3 32 Try.underlying24 hi1 hy0 hy1 hy2 rfl (by omega) (.slice (some ⟨gr, 0, none⟩) kn cr) kn _ rfl hrow ⟨w4.heap.size, 0, none⟩ 1 1 [.int .i64 x.off, .int .i64 x.len, .string (strB x.data)] rfl rfl (CellsAt.of_new _ _ _ _) (by simp [Value.oneCell']) (by omega) (by omega) (by simp; omega) ?_))
            intro v5 w5 hown hgr hat
            obtain ⟨A5, c5, rfl⟩ := own_form hown
            have hbx5 := J5.row.box.grown hgr (own_ne_type J5.row.row J5.row.box (by decide)).symm
            have s5 : w5.cell? ⟨H, 0, none⟩ = some (.slice (some ⟨gr, 0, none⟩) kn cr) := by have := hbx5.cell (j := 0) rfl; rw [HML.out, ← HKN.out] at this; exact this
            have f5 := hbx5.frozen 0
            have hown2 : w5.ownsRow H 28 3 (.slice A5 (kn + 1) c5) ((m ++ [y]).length + 1) ((m ++ [y]).flatMap dC ++ dC x) := by rw [HML.out, ← HKN.out]; simpa [dC] using hown
            obtain ⟨J6, F6⟩ := J5.push (y := x) (by simp; omega) (by simp; omega) (by simp only [World.size_alloc]; exact hat) hown2 hgr
            have hF : FrJ H h W'.heap.size W' (w5.setCell ⟨H, 0, none⟩ (.slice A5 (kn + 1) c5)) := (F4.trans (FrJ.of_below hal (by omega))).trans F6
            have hP : ∀ a, ownPost 5 H h (JoinI w H) (pre ++ [x]) W' .normal a (w5.setCell ⟨H, 0, none⟩ (.slice A5 (kn + 1) c5)) := fun _ => ⟨hF.oth, hF.keepA (by omega), _, by rw [hHN.out, HST.out, HPD.out]; exact J6.fin (by have := hF.size; omega), hbel.trans hF.bel⟩
            have hP' := Lib.hid hP
            clear hP hF F6 J6 hown2 hgr hat hrow J5 hal hbx5 hown
            gi_wp2
            exact hP'.out _
        · have hpd2 : pushD (m ++ [y]) x = (m ++ [y]) ++ [x] := by rw [hpd, if_neg fun h => hcy h.1]
          have HPD := Lib.hid hpd2
          clear hpd hpd2
          have hcb : cpB y = false := decide_eq_false hcy
          rw [hcb] at hcc
          unfold dV at hcc
          have CC := Lib.hid hcc
          clear hcb hcc hcy fy fl2
          gi_wp2_with fail
          refine AtS.startIn (S := fun w' => w'.cell? ⟨H, 0, none⟩ = some (.slice (some ⟨gr, 0, none⟩) kn cr) ∧ w'.cell? ⟨gr, m.length * 3, none⟩ = some (.int .i64 y.off) ∧ w'.cell? ⟨gr, m.length * 3 + 1, none⟩ = some (.int .i64 y.len) ∧ w'.cell? ⟨gr, m.length * 3 + 2, none⟩ = some (.string (strB y.data)) ∧ w'.cell? ⟨gx, 0, none⟩ = some (.int .i64 x.off)) (Wid.round l) (by kernel_rfl) (by kernel_rfl) ⟨d3, e0, e1, e2, q0⟩ 24 ?_
          -- takes '[]' free:0-2 load:3 free:4-5 load:6
          (refine AtS.free (i := 0) (v := ?_) (by simp only [List.getElem?_toArray, List.getElem?_cons_succ, List.getElem?_cons_zero]; rfl) (by kernel_rfl) (by kernel_rfl) (by kernel_rfl) (fun _ _ _ h => h) (by kernel_rfl) (Or.inl ⟨by rfl, fun w _ => ?_⟩) ?_; rotate_left; (go_simp; try with_reducible rfl); simp only [Act.put, List.setIfInBounds_toArray, List.set_cons_zero, List.set_cons_succ])
          (refine AtS.free (i := 1) (v := ?_) (by simp only [List.getElem?_toArray, List.getElem?_cons_succ, List.getElem?_cons_zero]; rfl) (by kernel_rfl) (by kernel_rfl) (by kernel_rfl) (fun _ _ _ h => h) (by kernel_rfl) (Or.inl ⟨by rfl, fun w _ => ?_⟩) ?_; rotate_left; (go_simp; try with_reducible rfl); simp only [Act.put, List.setIfInBounds_toArray, List.set_cons_zero, List.set_cons_succ])
          (refine AtS.free (i := 2) (v := ?_) (by simp only [List.getElem?_toArray, List.getElem?_cons_succ, List.getElem?_cons_zero]; rfl) (by kernel_rfl) (by kernel_rfl) (by kernel_rfl) (fun _ _ _ h => h) (by kernel_rfl) (Or.inl ⟨by rfl, fun w _ => ?_⟩) ?_; rotate_left; (go_simp; try with_reducible rfl); simp only [Act.put, List.setIfInBounds_toArray, List.set_cons_zero, List.set_cons_succ])
          (refine AtS.load (i := 3) (v := ?_) (by simp only [List.getElem?_toArray, List.getElem?_cons_succ, List.getElem?_cons_zero]; rfl) (by kernel_rfl) (by kernel_rfl) (by kernel_rfl) (fun _ _ _ h => h) [] (by kernel_rfl) (Or.inl ⟨by rfl, fun w hSw => ?_⟩) ?_; rotate_left; ((try dsimp only at hSw); go_split_ands; go_simp; try with_reducible rfl); simp only [Act.put, List.setIfInBounds_toArray, List.set_cons_zero, List.set_cons_succ])
          (refine AtS.free (i := 4) (v := ?_) (by simp only [List.getElem?_toArray, List.getElem?_cons_succ, List.getElem?_cons_zero]; rfl) (by kernel_rfl) (by kernel_rfl) (by kernel_rfl) (fun _ _ _ h => h) (by kernel_rfl) (Or.inl ⟨by rfl, fun w _ => ?_⟩) ?_; rotate_left; (go_simp; try with_reducible rfl); simp only [Act.put, List.setIfInBounds_toArray, List.set_cons_zero, List.set_cons_succ])
          (refine AtS.free (i := 5) (v := ?_) (by simp only [List.getElem?_toArray, List.getElem?_cons_succ, List.getElem?_cons_zero]; rfl) (by kernel_rfl) (by kernel_rfl) (by kernel_rfl) (fun _ _ _ h => h) (by kernel_rfl) (Or.inl ⟨by rfl, fun w _ => ?_⟩) ?_; rotate_left; (go_simp; try with_reducible rfl); simp only [Act.put, List.setIfInBounds_toArray, List.set_cons_zero, List.set_cons_succ])
          (refine AtS.load (i := 6) (v := ?_) (by simp only [List.getElem?_toArray, List.getElem?_cons_succ, List.getElem?_cons_zero]; rfl) (by kernel_rfl) (by kernel_rfl) (by kernel_rfl) (fun _ _ _ h => h) [] (by kernel_rfl) (Or.inl ⟨by rfl, fun w hSw => ?_⟩) ?_; rotate_left; ((try dsimp only at hSw); go_split_ands; go_simp; try with_reducible rfl); simp only [Act.put, List.setIfInBounds_toArray, List.set_cons_zero, List.set_cons_succ])
          -- end takes
          refine AtS.only (i := 7) (by simp only [List.getElem?_toArray, List.getElem?_cons_succ, List.getElem?_cons_zero]; rfl) (by kernel_rfl) (by rfl) ?_
          intro K hK
          go_simp
          refine CC.out.mono ?_
          rintro e w4 ⟨rfl, hb4⟩
          have hK' := hK
          clear hK CC
          refine hK' _ _ ⟨by rw [hb4.cell (p := ⟨H, 0, none⟩) (by exact (by assumption))]; exact d3, by rw [hb4.cell (p := ⟨gr, m.length * 3, none⟩) (by exact (by assumption))]; exact e0, by rw [hb4.cell (p := ⟨gr, m.length * 3 + 1, none⟩) (by exact (by assumption))]; exact e1, by rw [hb4.cell (p := ⟨gr, m.length * 3 + 2, none⟩) (by exact (by assumption))]; exact e2, by rw [hb4.cell (p := ⟨gx, 0, none⟩) (by exact (by assumption))]; exact q0⟩ ?_
          clear hK' K
          -- takes '[]' free:8-9 skip:10-23
          (refine AtS.free (i := 8) (v := ?_) (by simp only [List.getElem?_toArray, List.getElem?_cons_succ, List.getElem?_cons_zero]; rfl) (by kernel_rfl) (by kernel_rfl) (by kernel_rfl) (fun _ _ _ h => h) (by kernel_rfl) (Or.inl ⟨by rfl, fun w _ => ?_⟩) ?_; rotate_left; (go_simp; try with_reducible rfl); simp only [Act.put, List.setIfInBounds_toArray, List.set_cons_zero, List.set_cons_succ])
          (refine AtS.free (i := 9) (v := ?_) (by simp only [List.getElem?_toArray, List.getElem?_cons_succ, List.getElem?_cons_zero]; rfl) (by kernel_rfl) (by kernel_rfl) (by kernel_rfl) (fun _ _ _ h => h) (by kernel_rfl) (Or.inl ⟨by rfl, fun w _ => ?_⟩) ?_; rotate_left; (go_simp; try with_reducible rfl); simp only [Act.put, List.setIfInBounds_toArray, List.set_cons_zero, List.set_cons_succ])
          (refine AtS.free (i := 10) (v := undef) (by simp only [List.getElem?_toArray, List.getElem?_cons_succ, List.getElem?_cons_zero]; rfl) (by kernel_rfl) (by kernel_rfl) (by kernel_rfl) (fun _ _ _ h => h) (by kernel_rfl) (Or.inr ⟨by rfl, rfl⟩) ?_; simp only [Act.put, List.setIfInBounds_toArray, List.set_cons_zero, List.set_cons_succ])
          (refine AtS.free (i := 11) (v := undef) (by simp only [List.getElem?_toArray, List.getElem?_cons_succ, List.getElem?_cons_zero]; rfl) (by kernel_rfl) (by kernel_rfl) (by kernel_rfl) (fun _ _ _ h => h) (by kernel_rfl) (Or.inr ⟨by rfl, rfl⟩) ?_; simp only [Act.put, List.setIfInBounds_toArray, List.set_cons_zero, List.set_cons_succ])
          (refine AtS.free (i := 12) (v := undef) (by simp only [List.getElem?_toArray, List.getElem?_cons_succ, List.getElem?_cons_zero]; rfl) (by kernel_rfl) (by kernel_rfl) (by kernel_rfl) (fun _ _ _ h => h) (by kernel_rfl) (Or.inr ⟨by rfl, rfl⟩) ?_; simp only [Act.put, List.setIfInBounds_toArray, List.set_cons_zero, List.set_cons_succ])
          (refine AtS.free (i := 13) (v := undef) (by simp only [List.getElem?_toArray, List.getElem?_cons_succ, List.getElem?_cons_zero]; rfl) (by kernel_rfl) (by kernel_rfl) (by kernel_rfl) (fun _ _ _ h => h) (by kernel_rfl) (Or.inr ⟨by rfl, rfl⟩) ?_; simp only [Act.put, List.setIfInBounds_toArray, List.set_cons_zero, List.set_cons_succ])
          (refine AtS.free (i := 14) (v := undef) (by simp only [List.getElem?_toArray, List.getElem?_cons_succ, List.getElem?_cons_zero]; rfl) (by kernel_rfl) (by kernel_rfl) (by kernel_rfl) (fun _ _ _ h => h) (by kernel_rfl) (Or.inr ⟨by rfl, rfl⟩) ?_; simp only [Act.put, List.setIfInBounds_toArray, List.set_cons_zero, List.set_cons_succ])
          (refine AtS.free (i := 15) (v := undef) (by simp only [List.getElem?_toArray, List.getElem?_cons_succ, List.getElem?_cons_zero]; rfl) (by kernel_rfl) (by kernel_rfl) (by kernel_rfl) (fun _ _ _ h => h) (by kernel_rfl) (Or.inr ⟨by rfl, rfl⟩) ?_; simp only [Act.put, List.setIfInBounds_toArray, List.set_cons_zero, List.set_cons_succ])
          (refine AtS.free (i := 16) (v := undef) (by simp only [List.getElem?_toArray, List.getElem?_cons_succ, List.getElem?_cons_zero]; rfl) (by kernel_rfl) (by kernel_rfl) (by kernel_rfl) (fun _ _ _ h => h) (by kernel_rfl) (Or.inr ⟨by rfl, rfl⟩) ?_; simp only [Act.put, List.setIfInBounds_toArray, List.set_cons_zero, List.set_cons_succ])
          (refine AtS.free (i := 17) (v := undef) (by simp only [List.getElem?_toArray, List.getElem?_cons_succ, List.getElem?_cons_zero]; rfl) (by kernel_rfl) (by kernel_rfl) (by kernel_rfl) (fun _ _ _ h => h) (by kernel_rfl) (Or.inr ⟨by rfl, rfl⟩) ?_; simp only [Act.put, List.setIfInBounds_toArray, List.set_cons_zero, List.set_cons_succ])
          (refine AtS.free (i := 18) (v := undef) (by simp only [List.getElem?_toArray, List.getElem?_cons_succ, List.getElem?_cons_zero]; rfl) (by kernel_rfl) (by kernel_rfl) (by kernel_rfl) (fun _ _ _ h => h) (by kernel_rfl) (Or.inr ⟨by rfl, rfl⟩) ?_; simp only [Act.put, List.setIfInBounds_toArray, List.set_cons_zero, List.set_cons_succ])
          (refine AtS.free (i := 19) (v := undef) (by simp only [List.getElem?_toArray, List.getElem?_cons_succ, List.getElem?_cons_zero]; rfl) (by kernel_rfl) (by kernel_rfl) (by kernel_rfl) (fun _ _ _ h => h) (by kernel_rfl) (Or.inr ⟨by rfl, rfl⟩) ?_; simp only [Act.put, List.setIfInBounds_toArray, List.set_cons_zero, List.set_cons_succ])
          (refine AtS.free (i := 20) (v := undef) (by simp only [List.getElem?_toArray, List.getElem?_cons_succ, List.getElem?_cons_zero]; rfl) (by kernel_rfl) (by kernel_rfl) (by kernel_rfl) (fun _ _ _ h => h) (by kernel_rfl) (Or.inr ⟨by rfl, rfl⟩) ?_; simp only [Act.put, List.setIfInBounds_toArray, List.set_cons_zero, List.set_cons_succ])
          (refine AtS.free (i := 21) (v := undef) (by simp only [List.getElem?_toArray, List.getElem?_cons_succ, List.getElem?_cons_zero]; rfl) (by kernel_rfl) (by kernel_rfl) (by kernel_rfl) (fun _ _ _ h => h) (by kernel_rfl) (Or.inr ⟨by rfl, rfl⟩) ?_; simp only [Act.put, List.setIfInBounds_toArray, List.set_cons_zero, List.set_cons_succ])
          (refine AtS.free (i := 22) (v := undef) (by simp only [List.getElem?_toArray, List.getElem?_cons_succ, List.getElem?_cons_zero]; rfl) (by kernel_rfl) (by kernel_rfl) (by kernel_rfl) (fun _ _ _ h => h) (by kernel_rfl) (Or.inr ⟨by rfl, rfl⟩) ?_; simp only [Act.put, List.setIfInBounds_toArray, List.set_cons_zero, List.set_cons_succ])
          (refine AtS.free (i := 23) (v := undef) (by simp only [List.getElem?_toArray, List.getElem?_cons_succ, List.getElem?_cons_zero]; rfl) (by kernel_rfl) (by kernel_rfl) (by kernel_rfl) (fun _ _ _ h => h) (by kernel_rfl) (Or.inr ⟨by rfl, rfl⟩) ?_; simp only [Act.put, List.setIfInBounds_toArray, List.set_cons_zero, List.set_cons_succ])
          -- end takes
          refine AtS.late (i := 24) (by simp only [List.getElem?_toArray, List.getElem?_cons_succ, List.getElem?_cons_zero]; rfl) (by kernel_rfl) (by rfl) (by rfl) ?_
          intro K hK
          go_simp
          refine hK _ _ (AtS.done (by kernel_rfl) (OnlyN.normal ?_))
          clear hK K
          have J4 := (hj3.below (Below.refl w3.heap.size w3).drew).below hb4
          have hbx4 := (hbx3.keep (Below.refl w3.heap.size w3).drew).keep hb4
          have F4 : FrJ H h W'.heap.size W' w4 := (hF3.trans (FrJ.of_below (Below.refl w3.heap.size w3).drew (by omega))).trans (FrJ.of_below hb4 (by simp; omega))
          have hsz4 : w3.heap.size ≤ w4.heap.size := hb4.size
          clear hj3 hbx3 hF3 hb4 d3 e0 e1 e2 q0 hlH' hlx' hlg0 hlg1 hlg2
          have hal := (Below.refl w4.heap.size w4).alloc (Nat.le_refl _) (.cells #[.int .i64 x.off, .int .i64 x.len, .string (strB x.data)] 28)
          have J5 := J4.below hal
          have hrow := J5.row.row
          rw [HML.out, ← HKN.out] at hrow
          have hc4 : w4.cell? ⟨H, 0, none⟩ = some (.slice (some ⟨gr, 0, none⟩) kn cr) := by have := J4.row.box.cell (j := 0) rfl; rw [HML.out, ← HKN.out] at this; exact this
          have p0 : w4.cell? ⟨gx, 0, none⟩ = some (.int .i64 x.off) := hbx4.cell (j := 0) rfl
          have p1 : w4.cell? ⟨gx, 1, none⟩ = some (.int .i64 x.len) := hbx4.cell (j := 1) rfl
          have p2 : w4.cell? ⟨gx, 2, none⟩ = some (.string (strB x.data)) := hbx4.cell (j := 2) rfl
          gi_wp2_with (gi_at_builtin; go_must (refine wpListIn_append_at _ rfl (.tmp 56) (.tmp 58) _ rfl H 28 i1 _ 3 32 Try.underlying24 hi1 hy0 hy1 hy2 rfl (by omega) (.slice (some ⟨gr, 0, none⟩) kn cr) kn _ rfl hrow ⟨w4.heap.size, 0, none⟩ 1 1 [.int .i64 x.off, .int .i64 x.len, .string (strB x.data)] rfl rfl (CellsAt.of_new _ _ _ _) (by simp [Value.oneCell']) (by omega) (by omega) (by simp; omega) ?_))
          intro v5 w5 hown hgr hat
          obtain ⟨A5, c5, rfl⟩ := own_form hown
          have hbx5 := J5.row.box.grown hgr (own_ne_type J5.row.row J5.row.box (by decide)).symm
          have s5 : w5.cell? ⟨H, 0, none⟩ = some (.slice (some ⟨gr, 0, none⟩) kn cr) := by have := hbx5.cell (j := 0) rfl; rw [HML.out, ← HKN.out] at this; exact this
          have f5 := hbx5.frozen 0
          have hown2 : w5.ownsRow H 28 3 (.slice A5 (kn + 1) c5) ((m ++ [y]).length + 1) ((m ++ [y]).flatMap dC ++ dC x) := by rw [HML.out, ← HKN.out]; simpa [dC] using hown
          obtain ⟨J6, F6⟩ := J5.push (y := x) (by simp; omega) (by simp; omega) (by simp only [World.size_alloc]; exact hat) hown2 hgr
          have hF : FrJ H h W'.heap.size W' (w5.setCell ⟨H, 0, none⟩ (.slice A5 (kn + 1) c5)) := (F4.trans (FrJ.of_below hal (by omega))).trans F6
          have hP : ∀ a, ownPost 5 H h (JoinI w H) (pre ++ [x]) W' .normal a (w5.setCell ⟨H, 0, none⟩ (.slice A5 (kn + 1) c5)) := fun _ => ⟨hF.oth, hF.keepA (by omega), _, by rw [hHN.out, HST.out, HPD.out]; exact J6.fin (by have := hF.size; omega), hbel.trans hF.bel⟩
          have hP' := Lib.hid hP
          clear hP hF F6 J6 hown2 hgr hat hrow J5 hal hbx5 hown
          gi_wp2
          exact hP'.out _
  case done =>
    rintro D W hD ⟨v, hj, hbel⟩ hK
    have hjb : JB xs.length (xs.foldl joinStep ([], [])) := JB.fold xs HX.out
    have hfl := (show joinD xs = flushD (xs.foldl joinStep ([], [])) from rfl)
    generalize xs.foldl joinStep ([], []) = s at *
    obtain ⟨ls, ts⟩ := s
    have hHW : H + 3 ≤ W.heap.size := hj.hh
    have CF := Lib.hid (flush_any H W.heap.size W.heap.size v ls ts W hj (Nat.le_refl _) (Nat.le_refl _) (by have := hjb.l; simp only at this; omega))
    have g2 : W.cell? ⟨H + 2, 0, none⟩ = some (flushV H) := hj.flu.cell (j := 0) rfl
    unfold flushV at g2
    have HFL := Lib.hid hfl
    clear hfl hj hI0
    gi_wp2_with fail
    refine ⟨trivial, ?_⟩
    refine (callsIn_wide.2 CF.out).mono ?_
    rintro e w2 ⟨rfl, ⟨v2, hj2⟩, hf2⟩
    have hK2 := hf2.oth.same D _ hK rfl
    have hb2 := hbel.trans hf2.bel
    have hc2 : w2.cell? ⟨H, 0, none⟩ = some v2 := hj2.row.box.cell (j := 0) rfl
    have hrow := hj2.row.row
    rw [show flushD (ls, ts) = joinD xs from HFL.out.symm] at hrow
    have HR := Lib.hid hrow
    obtain ⟨A2, c2, rfl⟩ := own_form hrow
    have hsz := hf2.size
    clear g2 CF hj2 hf2 hrow hK hbel
    gi_wp2
    refine ⟨by simp, .inl ⟨_, _, rfl, run_takeDeferred hK2, ?_⟩⟩
    refine ⟨_, results_tmp rfl _ _ _, .slice A2 (joinD xs).length c2, rfl, ?_, ?_⟩
    · rw [← HH.out]
      exact ownsRow_putObj HR.out _ hK2 rfl
    · rw [← HH.out]
      exact hb2.grown (grownBy_putObj' w2 D _) (by omega) (fun k e => by cases e; omega)
end Go.Proofs.Ytiioebpmfjipeaa
