/- disk.Read of a sector of a valid disk. -/
import Derived.Test.YtpihapkclnhklaaDkRead
namespace Go.Proofs.Ytpihapkclnhklaa
open Go.RowKit
attribute [local go_sem] Oper.semAt_some

theorem mem_backL' {p : List (Int × ByteArray)} {k j : Nat} (hj : j < p.length) (hk : p.length - 1 - j < k) : (j, p[j]) ∈ backL p k := by
  unfold backL
  refine List.mem_map.2 ⟨p.length - 1 - j, List.mem_range.2 hk, ?_⟩
  have e : p.length - 1 - (p.length - 1 - j) = j := by omega
  rw [e, List.getElem?_eq_getElem hj]; rfl
theorem mem_backL {p : List (Int × ByteArray)} {j : Nat} (hj : j < p.length) : (j, p[j]) ∈ backL p p.length := mem_backL' hj (by omega)
theorem rd_val {d : Dk} {i : Nat} (hk : chk d = 0) (hi : i < d.secs.length) : rdB d i = (d.pend.foldl putW d.secs)[i]'(by rw [foldl_putW_length]; exact hi) :=
  (rd_in hk hi (show i < (cur d).length by rw [cur_length]; exact hi)).2
theorem rd_none {d : Dk} {i : Nat} (hv : Valid d) (hk : chk d = 0) (hi : i < d.secs.length) (hn : ∀ w ∈ d.pend, w.1 ≠ (i : Int)) : rdB d i = d.secs[i] := by
  rw [rd_val hk hi]
  exact back_none hi hn (fun w hw => (hv.ws w hw).1)
theorem rd_hit {d : Dk} {i j : Nat} (hv : Valid d) (hk : chk d = 0) (hi : i < d.secs.length) (hj : j < d.pend.length) (h : d.pend[j].1 = (i : Int)) (hn : ∀ m, j < m → (hm : m < d.pend.length) → d.pend[m].1 ≠ (i : Int)) : rdB d i = d.pend[j].2 := by
  rw [rd_val hk hi]
  exact back_hit hj hi h hn (fun w hw => (hv.ws w hw).1)

/-- Block B holds a pending write. -/
def Boxed2 (W : World) (B : Nat) (x : Int × ByteArray) : Prop := Blk W B 45 #[.int .i64 x.1, .string x.2]
theorem Boxed2.own {W W' : World} {B : Nat} {x : Int × ByteArray} (h : Boxed2 W B x) {row : Option Nat} (hg : W.grownBy W' row) (hr : ∀ r, row = some r → ∃ o : Obj, W.heap[r]? = some o ∧ o.isCells = false) : Boxed2 W' B x := by
  refine (hg.block B (Blk.lt h) (fun e => ?_)).trans h
  obtain ⟨o, ho, hc⟩ := hr B e.symm
  have := (show W.heap[B]? = _ from h).symm.trans ho
  injection this with this
  subst this
  cases hc

set_option maxRecDepth 100000 in
set_option maxHeartbeats 2000000 in
theorem read_in (W : World) (vs vp : Value) (d : Dk) (h : DskP W vs vp d) (i : Nat) (hk : chk d = 0) (hi : i < d.secs.length) (_hpl : d.pend.length ≤ 100000) :
    Calls Try.prog 19 #[.agg #[.int .i64 d.size, vs, vp, .int .i64 d.left], .int .i64 i] W (RdPost W (rdB d i) 0) := by
  obtain ⟨A, c, rfl, hc, hm⟩ := h.sec.form
  obtain ⟨P, cp, rfl, hcp, hmp⟩ := h.pen.form
  have hB := RdBoxes.new W d (.slice A d.secs.length c) (.slice P d.pend.length cp) i
  have V := Lib.hid (chk_zero.1 hk)
  have v4 := V.out.n2
  have c1 := check_any _ _ _ d (h.keep (Keeps.of_below hB.bl))
  rw [hk] at c1
  have c2 := fun w => has_any d.size d.left i A d.secs.length c (.slice P d.pend.length cp) hc hm w
  rw [show hasB d.secs.length i = true from decide_eq_true (by omega)] at c2
  have C1 := Lib.hid c1
  have C2 := Lib.hid c2
  have HK := Lib.hid hk
  clear c1 c2 hk
  refine (callsIn_wide (n := 4)).1 ?_
  refine callsIn_of_wp_marks Try.func19 rfl trivial ?_ rfl
  simp only [Try.ntmps19, List.size_toArray, List.length_cons, List.length_nil, Nat.reduceAdd, Nat.reduceSub, Array.replicate_succ, Array.replicate_zero, List.push_toArray, List.append_toArray, List.nil_append, List.cons_append]
  gi_wp2_with (refine ⟨trivial, ?_⟩; gi_at_call 24)
  refine (callsIn_wide.2 C1.out).mono ?_
  clear C1
  simp only [show W.heap.size + 1 + 1 = W.heap.size + 2 from rfl, show W.heap.size + 2 + 1 = W.heap.size + 3 from rfl]
  generalize (((W.alloc (.cells #[.int .i64 d.size, .slice A d.secs.length c, .slice P d.pend.length cp, .int .i64 d.left] 26)).alloc (.cells #[.int .i64 (i : Int)] 3)).alloc (.cells #[.string ⟨#[]⟩] 9)).alloc (.cells #[.int .i64 0] 27) = w1 at *
  rintro e w2 ⟨rfl, hb2⟩
  have hB2 := hB.keep hb2
  clear hB hb2
  obtain ⟨q0, q1, q2, q3, q4, q5, q6, f5, f6⟩ := hB2.facts
  gi_wp2_with (refine ⟨trivial, ?_⟩; gi_at_call 34)
  refine (callsIn_wide.2 (C2.out w2)).mono ?_
  clear C2 q0 q1 q2 q3 q4 q5 q6 f5 f6
  rintro e w3 ⟨rfl, hb3⟩
  have hB3 := hB2.keep hb3
  clear hB2 hb3
  obtain ⟨q0, q1, q2, q3, q4, q5, q6, f5, f6⟩ := hB3.facts
  gi_wp2_with (refine ⟨trivial, ?_⟩; gi_at_call 37; refine (callsIn_wide.2 (backward_any _ P d.pend.length cp rfl w3)).mono ?_; rintro e w4 ⟨rfl, rfl⟩)
  clear q0 q1 q2 q3 q4 q5 q6 f5 f6
  have hB4 := hB3.keep ((Below.refl _ w3).alloc (Nat.le_refl _) (.cells #[.slice P d.pend.length cp] 24))
  have hbx := Blk.new w3 #[.slice P d.pend.length cp] 24
  have hs4 : (w3.alloc (.cells #[.slice P d.pend.length cp] 24)).heap.size = w3.heap.size + 1 := by simp
  have hs3 := hB3.re.lt
  obtain ⟨w4, hw4⟩ : ∃ w4, w3.alloc (.cells #[.slice P d.pend.length cp] 24) = w4 := ⟨_, rfl⟩
  rw [hw4] at hB4 hbx hs4 ⊢
  clear hw4 hB3
  have hsz4 := hB4.bl.size
  refine wpIn_rangeFunc_ownH (α := BackT) rfl (by omega) (gf := 49) (lb := #[.pointer (some ⟨w3.heap.size, 0, none⟩)]) rfl trivial (enters_of Try.func49 (by kernel_rfl) rfl)
    (back_stops 3 (by omega) w3.heap.size w4.heap.size P cp d.pend W w4 h.pen hsz4 hB4.bl hbx (by omega) (Nat.le_refl _)) belowK_t (belowK_b (Nat.le_refl _)) (Below.refl _ _) (fun _ => rfl)
    (fun pre X => (∀ x ∈ pre, x.2.1 ≠ (i : Int)) ∧ RdBoxes W d (.slice A d.secs.length c) (.slice P d.pend.length cp) i ⟨#[]⟩ 0 X ∧ w4.heap.size ≤ X.heap.size)
    (fun cd pre X => cd = .ret ∧ ∃ ini last, pre = ini ++ [last] ∧ (∀ x ∈ ini, x.2.1 ≠ (i : Int)) ∧ last.2.1 = (i : Int) ∧ RdBoxes W d (.slice A d.secs.length c) (.slice P d.pend.length cp) i last.2.2 0 X)
    (fun s X Y row hs hg hr => ⟨hs.1, hs.2.1.own hg (fun r e => by have := (hr r e).1; omega), Nat.le_trans hs.2.2 hg.size⟩)
    (fun cd s X Y row hs hg hr => by obtain ⟨e0, ini, last, e1, e2, e3, e4⟩ := hs; exact ⟨e0, ini, last, e1, e2, e3, e4.own hg (fun r e => by have := (hr r e).1; omega)⟩)
    ⟨by simp, hB4, Nat.le_refl _⟩
    (fun x a' X => ∃ Bx, W.heap.size + 4 ≤ Bx ∧ Boxed2 X Bx x.2 ∧ a' = { tmps := #[.agg #[.int .i64 d.size, .slice A d.secs.length c, .slice P d.pend.length cp, .int .i64 d.left], .int .i64 (i : Int), .pointer (some ⟨W.heap.size, 0, none⟩), .pointer (some ⟨W.heap.size + 1, 0, none⟩), .pointer (some ⟨W.heap.size + 2, 0, none⟩), .pointer (some ⟨W.heap.size + 3, 0, none⟩), undef, .pointer (some ⟨Bx, 0, none⟩), .agg #[.int .i64 d.size, .slice A d.secs.length c, .slice P d.pend.length cp, .int .i64 d.left], .int .i64 0, .bool false, .agg #[.int .i64 d.size, .slice A d.secs.length c, .slice P d.pend.length cp, .int .i64 d.left], .int .i64 (i : Int), .bool true, .bool false, .pointer (some ⟨W.heap.size, 2, none⟩), .slice P d.pend.length cp, .func (.func 49) #[] #[.pointer (some ⟨w3.heap.size, 0, none⟩)], .int .i64 (x.1 : Int), .agg #[.int .i64 x.2.1, .string x.2.2], undef, undef, undef, undef, undef, undef, undef, undef, undef, undef, undef], defers := [] })
    (fun x a' _ X Y row hs hg hr => by obtain ⟨Bx, h1, h2, h3⟩ := hs; exact ⟨Bx, h1, h2.own hg (fun r e => (hr r e).2), h3⟩)
    ?assign ?body ?done ?stop
  case assign =>
    rintro l pre x X K ⟨hp, hBX, hXs⟩ hKK
    simp only [backEnc]
    gi_wp2
    exact hKK _ _ ((KeepsOthers.alloc _ _).from _) ((Below.refl _ X).alloc hXs _) ⟨hp, hBX.keep ((Below.refl _ X).alloc (Nat.le_refl _) _), by simp; omega⟩ ⟨X.heap.size, by have := hBX.re.lt; omega, Blk.new X _ _, rfl⟩
  case body =>
    rintro l pre x a' X hl ⟨r, hr⟩ ⟨hp, hBX, hXs⟩ ⟨Bx, hBx, bX, rfl⟩ hlt
    have x0 := Blk.cell bX (j := 0) rfl
    have x1 := Blk.cell bX (j := 1) rfl
    obtain ⟨q0, q1, q2, q3, q4, q5, q6, f5, f6⟩ := hBX.facts
    by_cases hx : x.2.1 = (i : Int)
    · have hb : (x.2.1 == (i : Int)) = true := by simp [hx]
      have HX := Lib.hid hx
      clear hx
      gi_wp2
      exact ⟨((KeepsOthers.setCell _ _ _).trans (KeepsOthers.setCell _ _ _)).from _, rfl, pre, x, rfl, hp, HX.out, hBX.set _ _⟩
    · have hb : (x.2.1 == (i : Int)) = false := by simp [hx]
      have HX := Lib.hid hx
      clear hx
      gi_wp2
      exact ⟨KeepsFrom.refl _ _, Below.refl _ _, fun y hy => (List.mem_append.1 hy).elim (hp y) (fun e => by cases List.mem_singleton.1 e; exact HX.out), hBX, hXs⟩
  case done =>
    rintro D ys X hD rfl ⟨hne, hBX, hXs⟩ hKd
    have HE := Lib.hid (rd_none (chk_zero.1 HK.out) HK.out hi (fun w hw => by
      obtain ⟨j, hj, rfl⟩ := List.getElem_of_mem hw
      have := hne _ (mem_backL hj)
      simpa using this))
    obtain ⟨b, off, rfl, a1⟩ := (h.sec.keep (Keeps.of_below hBX.bl)).get hi
    clear hne
    generalize d.secs[i] = s at *
    obtain ⟨q0, q1, q2, q3, q4, q5, q6, f5, f6⟩ := hBX.facts
    have hB5 := hBX.set s 0
    have hK5 := ((KeepsOthers.setCell X ⟨W.heap.size + 2, 0, none⟩ (.string s)).trans (KeepsOthers.setCell _ ⟨W.heap.size + 3, 0, none⟩ (.int .i64 0))).same D _ hKd rfl
    gi_wp2
    clear q0 q1 q2 q3 q4 q5 q6 f5 f6
    generalize (X.setCell ⟨W.heap.size + 2, 0, none⟩ (.string s)).setCell ⟨W.heap.size + 3, 0, none⟩ (.int .i64 0) = X5 at *
    have hB6 := hB5.own (grownBy_putObj' X5 D (.deferred none)) (fun r e => by cases e; omega)
    refine ⟨by simp, .inl ⟨_, _, rfl, run_takeDeferred hK5, ?_⟩⟩
    obtain ⟨q0, q1, q2, q3, q4, q5, q6, f5, f6⟩ := hB6.facts
    refine ⟨.tuple #[.string s, .int .i64 0], ?_, RdPost.mk rfl HE.out.symm hB6.bl⟩
    simp [results, Try.f19, go_sem, q5, q6]
  case stop =>
    rintro D cd pre X hD ⟨k, hk, rfl⟩ ⟨rfl, ini, last, e1, e2, e3, hBX⟩ hKd
    rw [backL_succ] at e1
    obtain ⟨rfl, e5⟩ := List.append_inj' e1 rfl
    have hlt2 : d.pend.length - 1 - k < d.pend.length := by omega
    have hlast : last = (d.pend.length - 1 - k, d.pend[d.pend.length - 1 - k]) := by
      rw [List.getElem?_eq_getElem hlt2] at e5
      simpa using e5.symm
    have HE := Lib.hid (rd_hit (chk_zero.1 HK.out) HK.out hi hlt2 (by rw [hlast] at e3; exact e3) (fun j hj hjl => by
      have := e2 _ (mem_backL' (k := k) hjl (by omega))
      simpa using this))
    rw [hlast] at hBX
    clear e1 e2 e3 e5 hlast
    generalize d.pend[d.pend.length - 1 - k] = w at *
    gi_wp2
    have hB6 := hBX.own (grownBy_putObj' X D (.deferred none)) (fun r e => by cases e; omega)
    refine ⟨by simp, .inl ⟨_, _, rfl, run_takeDeferred hKd, ?_⟩⟩
    obtain ⟨q0, q1, q2, q3, q4, q5, q6, f5, f6⟩ := hB6.facts
    refine ⟨.tuple #[.string w.2, .int .i64 0], ?_, RdPost.mk rfl HE.out.symm hB6.bl⟩
    simp [results, Try.f19, go_sem, q5, q6]
end Go.Proofs.Ytpihapkclnhklaa
