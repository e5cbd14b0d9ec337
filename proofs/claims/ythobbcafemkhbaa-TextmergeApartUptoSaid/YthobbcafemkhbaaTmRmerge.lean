/- cordwoodref19.Merge. -/
import Derived.Test.YthobbcafemkhbaaTmRplc
import Derived.Test.YthobbcafemkhbaaTmP
import Derived.Test.YthobbcafemkhbaaRlines
import Derived.StillTailTactics
namespace Go.Proofs.Ythobbcafemkhbaa
open Go.RowKit

/-- The lines of a text, as strings. -/
def lns (s : ByteArray) : List ByteArray := (lines s.data.toList).map fun x => ⟨x.toArray⟩
theorem lns_len (s : ByteArray) : (lns s).length = (lines s.data.toList).length := List.length_map _
theorem lns_own {w : World} {base : Nat} {v : Value} {s : ByteArray} (h : w.ownsRow base 9 1 v (lines s.data.toList).length ((lines s.data.toList).map fun x => .string ⟨x.toArray⟩)) : Ow w base 9 1 Str1 v (lns s) := by
  refine own_strs (n := (lines s.data.toList).length) ?_ (lns_len s).symm
  unfold lns
  rw [List.map_map]
  exact h
theorem far_cells {w : World} {A : Option Addr} {vs : List Value} (h : CellsAt w A vs) : Far w w.heap.size fun w' => CellsAt w' A vs := by
  intro w' k
  refine h.keep fun b o u hu => ?_
  have hlt := World.block_lt_of_cell? w _ hu
  exact (World.cell?_of_block (a := ⟨b, o, none⟩) (k.block b hlt (Nat.not_le_of_lt hlt))).trans hu
theorem rlns_any (s : ByteArray) (hs : s.size ≤ 1000000000) (w : World) : Calls Try.prog 19 #[.string s] w fun e w' => ∃ v, e = .returned v ∧ Ow w' w.heap.size 9 1 Str1 v (lns s) ∧ Below w.heap.size w w' :=
  (rlines_any s hs w).mono fun _ _ ⟨v, h1, h2, h3⟩ => ⟨v, h1, lns_own h2, h3⟩
/-- A cell of a row of numbers. -/
theorem int_cell {w : World} {A : Option Addr} {X : List Int} (h : CellsAt w A (X.map (.int .i64))) {i : Nat} {x : Int} (hi : X[i]? = some x) : ∃ b off, A = some ⟨b, off, none⟩ ∧ w.cell? ⟨b, off + i, none⟩ = some (.int .i64 x) :=
  h i _ (by rw [List.getElem?_map, hi]; rfl)

/-- The loop of Merge. -/
def RmRel (w6 : World) (B : Nat) (a b c : List ByteArray) (X Y : List Int) (full : List Rg) (vo vi vk vm vn : Value) (wr : World) : Prop :=
  ∃ (n i j k : Nat) (L : List Rg), vn = .int .i64 n ∧ vi = .int .i64 i ∧ vk = .int .i64 j ∧ vm = .int .i64 k ∧ n ≤ a.length ∧ i ≤ n ∧ j ≤ b.length ∧ k ≤ c.length ∧ Hid (incP j b.length (X.drop n)) ∧ Hid (incP k c.length (Y.drop n)) ∧
    Hid (full = mgI a b c ((X.drop n).zip (Y.drop n)) n i j k L) ∧ RgB (3000 * n) L ∧ Row wr B vo L ∧ Below B w6 wr

theorem run_at_from' {P : Program} {α : Type} {sz : Nat} {R : List Value → α → Prop} (t e : TypeId) (ti : TypeInfo) (ht : P.underlying t = some (.slice e)) (hti : P.info? e = some ti) (hsz : ti.size = sz) {A : Option Addr} {n c : Nat} (hc : n ≤ c)
    (k1 : IntKind) (i : Nat) (hi : i ≤ n) : ∃ A' c', (∀ w', (Instr.sliceAt t (.slice A n c) (some (.int k1 (i : Int))) none none).run P w' = .ok (.slice A' (n - i) c') w') ∧
      ∀ (w : World) (xs : List α), Sl w sz R (.slice A n c) xs → Sl w sz R (.slice A' (n - i) c') (xs.drop i) := by
  have hel : P.elem t = e := by simp [Program.elem, ht]
  refine ⟨if c = i then A else A.map (·.add (i * sz)), c - i, fun w' => ?_, fun w xs hx => ?_⟩
  rotate_left
  · have hn : n = xs.length := by obtain ⟨_, _, _, h1, _⟩ := hx; cases h1; rfl
    have := hx.sliced (i := i) (j := n) hi (Nat.le_refl _)
    rw [List.take_of_length_le (by simp; omega)] at this
    simpa [Go.sliced] using this
  subst hsz
  have hr := run_slice_l (P := P) w' t A n c (by rw [hel]; exact ht) k1 i (by omega) (by omega)
  have hs : (sizeOf (P.elem t)).run P w' = .ok ti.size w' := by rw [hel]; simp [sizeOf, typeInfo, hti]
  rw [hs] at hr
  rw [run_sliceAt_slice w' t _ _ _ _ (by rw [hel]; exact ht), hr]
  simp [Result.andThen, Go.sliced]

set_option maxRecDepth 100000 in
set_option maxHeartbeats 2000000 in
theorem rmerge_any (base left right : ByteArray) (hb0 : base.size ≤ 65536) (hl0 : left.size ≤ 65536) (hr0 : right.size ≤ 65536) (ha1 : (lns base).length ≤ 100) (hb1 : (lns left).length ≤ 100) (hc1 : (lns right).length ≤ 100) (w : World) :
    Calls Try.prog 15 #[.string base, .string left, .string right] w fun e w' => ∃ v, e = .returned (.tuple #[v, .int .i64 0]) ∧ Rgs w' v (mergeL (lns base) (lns left) (lns right)) ∧ Below w.heap.size w w' := by
  obtain ⟨i0, hi, hz0, hz1, hz2⟩ := info_parts Try.info_str
  have c1 := rlns_any base (by omega) w
  have c2 := fun w => rlns_any left (by omega) w
  have c3 := fun w => rlns_any right (by omega) w
  have hlX := plcL_len (lns base) (lns left)
  have hlY := plcL_len (lns base) (lns right)
  have hiX := Lib.hid (plcL_inc (lns base) (lns left))
  have hiY := Lib.hid (plcL_inc (lns base) (lns right))
  have c4 := fun (w : World) va vb ha hb => rplaces_any w va vb (lns base) (lns left) ha hb (by omega) (by omega)
  have c5 := fun (w : World) va vb ha hb => rplaces_any w va vb (lns base) (lns right) ha hb (by omega) (by omega)
  have HM : Hid (mergeL (lns base) (lns left) (lns right) = mgI (lns base) (lns left) (lns right) (((plcL (lns base) (lns left)).drop 0).zip ((plcL (lns base) (lns right)).drop 0)) 0 0 0 0 []) := rfl
  generalize mergeL (lns base) (lns left) (lns right) = full at *
  generalize plcL (lns base) (lns left) = X at *
  generalize plcL (lns base) (lns right) = Y at *
  generalize lns base = a at *
  generalize lns left = b at *
  generalize lns right = c at *
  have C1 := Lib.hid c1
  have C2 := Lib.hid c2
  have C3 := Lib.hid c3
  have C4 := Lib.hid c4
  have C5 := Lib.hid c5
  have HLX := Lib.hid hlX
  have HLY := Lib.hid hlY
  clear c1 c2 c3 c4 c5 hlX hlY
  go_enter Try.func15, Try.ntmps15
  go_wp2_with fail
  refine C1.out.mono ?_
  rintro e w1 ⟨va, rfl, oa, k1⟩
  go_wp2_with fail
  refine (C2.out _).mono ?_
  rintro e w2 ⟨vb, rfl, ob, k2⟩
  go_wp2_with fail
  refine (C3.out _).mono ?_
  rintro e w3 ⟨vc, rfl, oc, k3⟩
  have sa := (Strs.keep oa.sl (Keeps.of_below k2)).keep (Keeps.of_below k3)
  have sb := Strs.keep ob.sl (Keeps.of_below k3)
  have sc : Strs w3 vc c := oc.sl
  have kk3 := k1.trans ((k2.mono k1.size).trans (k3.mono (by have := k1.size; have := k2.size; omega)))
  go_wp2_with fail
  refine (C4.out w3 va vb sa sb).mono ?_
  rintro e w4 ⟨vx, rfl, ox, k4⟩
  go_wp2_with fail
  refine (C5.out w4 va vc (sa.keep (Keeps.of_below k4)) (sc.keep (Keeps.of_below k4))).mono ?_
  rintro e w5 ⟨vy, rfl, oy, k5⟩
  have kk5 := kk3.trans ((k4.mono kk3.size).trans (k5.mono (by have := kk3.size; have := k4.size; omega)))
  have k45 := Keeps.of_below (k4.trans (k5.mono k4.size))
  obtain ⟨Ax, cx, rfl⟩ := own_form ox
  obtain ⟨Ay, cy, rfl⟩ := own_form oy
  have b6 : Below w5.heap.size w5 (w5.alloc (.cells #[] 58)) := (Below.refl _ _).alloc (Nat.le_refl _) _
  have fa := (far_strs (sa.keep k45)).below b6
  have fb := (far_strs (sb.keep k45)).below b6
  have fc := (far_strs (sc.keep k45)).below b6
  have fx := (far_cells ((own_cellsAt ox).keep (Keeps.of_below k5))).below b6
  have fy := (far_cells (own_cellsAt oy)).below b6
  have hrow := Row.made w5 (Nat.le_refl w5.heap.size)
  obtain ⟨Aa, ca, rfl, a1, a2⟩ := (sa.keep k45).form
  obtain ⟨Ab, cb, rfl, b1, b2⟩ := (sb.keep k45).form
  obtain ⟨Ac, cc, rfl, e1, e2⟩ := (sc.keep k45).form
  clear C1 C2 C3 C4 C5 k1 k2 k3 k4 k5 k45 sa sb sc ox oy oa ob oc kk3
  have hB : w5.heap.size ≤ (w5.alloc (.cells #[] 58)).heap.size := by simp
  have kk6 : Below w.heap.size w (w5.alloc (.cells #[] 58)) := kk5.trans (b6.mono kk5.size)
  have hrel0 : RmRel (w5.alloc (.cells #[] 58)) w5.heap.size a b c X Y full (.slice (some ⟨w5.heap.size, 0, none⟩) 0 0) (.int .i64 0) (.int .i64 0) (.int .i64 0) (.int .i64 0) (w5.alloc (.cells #[] 58)) :=
    ⟨0, 0, 0, 0, [], rfl, rfl, rfl, rfl, by omega, by omega, by omega, by omega, hiX, hiY, HM, RgB.nil, hrow, Below.refl _ _⟩
  have hB0 := kk5.size
  clear hiX hiY HM hrow b6 kk5
  go_wp2_with fail
  generalize w5.alloc (.cells #[] 58) = w6 at *
  generalize w5.heap.size = B at *
  go_loopw [13, 14, 15, 16, 17] (fun vo vi vk vm vn wr => RmRel w6 B a b c X Y full vo vi vk vm vn wr) (fun _ _ _ _ vn _ => a.length - (intOf vn).toNat)
  case atStart => exact hrel0
  case round =>
    clear hrel0
    obtain ⟨n, i, j, k, L, rfl, rfl, rfl, rfl, hn, hin, hjb, hkc, HX, HY, HF, hN, hrow, hbel⟩ := hrel
    have hsz := hbel.size
    have fa := fa.below hbel
    have fb := fb.below hbel
    have fc := fc.below hbel
    have FX := fx.below hbel
    have FY := fy.below hbel
    clear fx fy
    by_cases hlt : n < a.length
    · have hlX := HLX.out
      have hlY := HLY.out
      obtain ⟨x, hx⟩ : ∃ x, X[n]? = some x := ⟨_, List.getElem?_eq_getElem (by omega)⟩
      obtain ⟨y, hy⟩ : ∃ y, Y[n]? = some y := ⟨_, List.getElem?_eq_getElem (by omega)⟩
      have dx : X.drop n = x :: X.drop (n + 1) := by
        obtain ⟨h1, h2⟩ := List.getElem?_eq_some_iff.1 hx
        rw [List.drop_eq_getElem_cons h1, h2]
      have dy : Y.drop n = y :: Y.drop (n + 1) := by
        obtain ⟨h1, h2⟩ := List.getElem?_eq_some_iff.1 hy
        rw [List.drop_eq_getElem_cons h1, h2]
      obtain ⟨bx, ox, rfl, cx1⟩ := int_cell FX.now hx
      obtain ⟨by_, oy, rfl, cy1⟩ := int_cell FY.now hy
      rw [dx] at HX HF
      rw [dy] at HY HF
      have hnx : n < X.length := by omega
      have hny : n < Y.length := by omega
      have HXX := Lib.hid hx
      have HYY := Lib.hid hy
      clear hlX hlY hx hy dx dy
      by_cases hx0 : x < 0
      · have HX2 := Lib.hid (inc_skip HX.out)
        have HY2 := Lib.hid (inc_skip HY.out)
        have HF2 := Lib.hid (mg_skip HF.out (.inl hx0))
        clear HX HY HF
        go_wp2
        go_roundw
        case rel => exact ⟨n + 1, i, j, k, L, by go_num, rfl, rfl, rfl, by omega, by omega, hjb, hkc, HX2, HY2, HF2, hN.mono (by omega), hrow, hbel⟩
        case measure => simp [intOf]; omega
      · by_cases hy0 : y < 0
        · have HX2 := Lib.hid (inc_skip HX.out)
          have HY2 := Lib.hid (inc_skip HY.out)
          have HF2 := Lib.hid (mg_skip HF.out (.inr hy0))
          clear HX HY HF
          go_wp2
          go_roundw
          case rel => exact ⟨n + 1, i, j, k, L, by go_num, rfl, rfl, rfl, by omega, by omega, hjb, hkc, HX2, HY2, HF2, hN.mono (by omega), hrow, hbel⟩
          case measure => simp [intOf]; omega
        · obtain ⟨p, rfl, p1, p2, p3⟩ := inc_take HX.out hx0
          obtain ⟨q, rfl, q1, q2, q3⟩ := inc_take HY.out hy0
          have HX2 := Lib.hid p3
          have HY2 := Lib.hid q3
          have HF2 := Lib.hid (mg_take HF.out)
          clear HX HY HF p3 q3
          obtain ⟨A1, d1, hs1, g1⟩ := run_at_both' (P := Try.prog) (R := Str1) 36 9 i0 Try.underlying36 hi hz1 (A := Aa) (n := a.length) (c := ca) a1 .i64 .i64 i n (by omega) (by omega)
          obtain ⟨A2, d2, hs2, g2⟩ := run_at_both' (P := Try.prog) (R := Str1) 36 9 i0 Try.underlying36 hi hz1 (A := Ab) (n := b.length) (c := cb) b1 .i64 .i64 j p (by omega) (by omega)
          obtain ⟨A3, d3, hs3, g3⟩ := run_at_both' (P := Try.prog) (R := Str1) 36 9 i0 Try.underlying36 hi hz1 (A := Ac) (n := c.length) (c := cc) e1 .i64 .i64 k q (by omega) (by omega)
          obtain ⟨A4, d4, hs4, g4⟩ := run_at_both' (P := Try.prog) (R := Str1) 36 9 i0 Try.underlying36 hi hz1 (A := Aa) (n := a.length) (c := ca) a1 .i64 .i64 n (n + 1) (by omega) (by omega)
          rw [show n + 1 - n = 1 by omega] at hs4 g4
          rw [show ((n + 1 : Nat) : Int) = (n : Int) + 1 from rfl] at hs4
          have fdr : ∀ {φ : World → Prop}, Far wr B φ → Far wr.drew B φ := fun h w' k => h w' ⟨k.size, k.block⟩
          have hN2 := hN.addG ((a.drop i).take (n - i)) ((b.drop j).take (p - j)) ((c.drop k).take (q - k))
          have hN3 := (hN2.addL ((a.drop n).take 1)).mono (M := 3000 * (n + 1)) (by simp only [List.length_take, List.length_drop]; omega)
          have cg := gap_any wr.drew B _ _ _ _ L _ _ _ (hrow.below ((Below.refl _ _).drew)) (by simp; omega) ((fdr fa).imp (g1 · a)) ((fdr fb).imp (g2 · b)) ((fdr fc).imp (g3 · c)) hN (by omega) (by simp only [List.length_take, List.length_drop]; omega) (by simp only [List.length_take, List.length_drop]; omega)
          have cag := fun w2 v2 (h : Row w2 B v2 _) hB2 (hx : Far w2 B fun w' => Strs w' _ a) => agreed_any w2 B v2 _ _ _ h hB2 (g4 w2 a hx.now) hN2 (by simp only [List.length_take, List.length_drop]; omega) (by simp only [List.length_take, List.length_drop]; omega)
          have CAG := Lib.hid cag
          have CG := Lib.hid cg
          have fad := fdr fa
          clear cag cg hN2 fa fb fc g1 g2 g3 g4 fdr
          have hpn : ¬ (p : Int) < 0 := by omega
          have hqn : ¬ (q : Int) < 0 := by omega
          go_wp2_with fail
          go_still_tail 19, (by kernel_rfl)
          go_wp2_with fail
          refine CG.out.mono ?_
          rintro e w2 ⟨v2, rfl, hrow2, hbel2, _, _⟩
          have hbel2 : Below B wr w2 := ⟨hbel2.os, hbel2.tape, hbel2.output, hbel2.size, hbel2.block⟩
          have fad2 := fad.below (w' := w2) ⟨hbel2.os, hbel2.tape, hbel2.output, hbel2.size, hbel2.block⟩
          have hsz2 := hbel2.size
          have cg2 := CAG.out w2 v2 hrow2 (by omega) fad2
          have CG2 := Lib.hid cg2
          clear cg2 CAG CG hrow2 fad fad2 hs1 hs2 hs3 cx1 cy1 hrow
          go_wp2_with fail
          refine CG2.out.mono ?_
          rintro e w3 ⟨v3, rfl, hrow3, hbel3, _, _⟩
          have hbel23 := hbel2.trans hbel3
          have hbel4 := hbel.trans hbel23
          obtain ⟨_, _, e, cx1⟩ := int_cell (FX.below hbel23).now HXX.out
          cases e
          obtain ⟨_, _, e, cy1⟩ := int_cell (FY.below hbel23).now HYY.out
          cases e
          clear CG2 hs4 hbel2 hbel3 hbel23 hbel hsz hsz2 FX FY
          have z1 : IntKind.i64.wrap ((p : Int) + 1) = (p : Int) + 1 := i64w (by omega) (by omega)
          have z2 : IntKind.i64.wrap ((q : Int) + 1) = (q : Int) + 1 := i64w (by omega) (by omega)
          have z3 : IntKind.i64.wrap ((n : Int) + 1) = (n : Int) + 1 := i64w (by omega) (by omega)
          go_wp2
          go_quiet (fail)
          clear z1 z2 z3
          go_wp2
          go_roundw
          case rel => exact ⟨n + 1, n + 1, p + 1, q + 1, _, by go_num, by go_num, by go_num, by go_num, by omega, by omega, by omega, by omega, HX2, HY2, HF2, hN3, hrow3.below (below_drewN' (Below.refl _ _) _), below_drewN' hbel4 _⟩
          case measure => simp [intOf]; omega
    · have dx : X.drop n = [] := List.drop_of_length_le (by have := HLX.out; omega)
      rw [dx] at HF
      have HE := Lib.hid (mg_end HF.out)
      obtain ⟨A1, d1, hs1, g1⟩ := run_at_from' (P := Try.prog) (R := Str1) 36 9 i0 Try.underlying36 hi hz1 (A := Aa) (n := a.length) (c := ca) a1 .i64 i (by omega)
      obtain ⟨A2, d2, hs2, g2⟩ := run_at_from' (P := Try.prog) (R := Str1) 36 9 i0 Try.underlying36 hi hz1 (A := Ab) (n := b.length) (c := cb) b1 .i64 j (by omega)
      obtain ⟨A3, d3, hs3, g3⟩ := run_at_from' (P := Try.prog) (R := Str1) 36 9 i0 Try.underlying36 hi hz1 (A := Ac) (n := c.length) (c := cc) e1 .i64 k (by omega)
      have fdr : ∀ {φ : World → Prop}, Far wr B φ → Far wr.drew B φ := fun h w' k => h w' ⟨k.size, k.block⟩
      have cg := gap_any wr.drew B _ _ _ _ L _ _ _ (hrow.below ((Below.refl _ _).drew)) (by simp; omega) ((fdr fa).imp (g1 · a)) ((fdr fb).imp (g2 · b)) ((fdr fc).imp (g3 · c)) hN (by omega) (by simp only [List.length_drop]; omega) (by simp only [List.length_drop]; omega)
      have CG := Lib.hid cg
      have kk7 := (kk6.trans (hbel.mono hB0)).drew
      clear cg fa fb fc g1 g2 g3 fdr FX FY HX HY HF dx hrow
      go_wp2_with fail
      go_still_tail 10, (by kernel_rfl)
      go_wp2_with fail
      refine CG.out.mono ?_
      rintro e w2 ⟨v2, rfl, hrow2, hbel2, _, _⟩
      have hbel3 := kk7.trans (hbel2.mono hB0)
      clear CG hs1 hs2 hs3
      go_wp2
      go_ret2
      exact ⟨v2, rfl, by rw [HE.out]; exact hrow2.rgs, hbel3⟩
end Go.Proofs.Ythobbcafemkhbaa
