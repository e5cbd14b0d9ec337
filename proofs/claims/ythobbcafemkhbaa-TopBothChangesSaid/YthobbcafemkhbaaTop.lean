/- cordwoodtop: top35Merged, top35Only, top35Count. -/
import Derived.Test.YthobbcafemkhbaaTmConfl
import Derived.Test.YthobbcafemkhbaaTmAwake
import Derived.Test.YthobbcafemkhbaaTmVldP
namespace Go.Proofs.Ythobbcafemkhbaa
open Go.RowKit
set_option linter.unusedVariables false

def want3 : List Rg := [(false, [], [yx, ya, yb, yy], [])]
theorem ex_merge3 : mergeL (lns ⟨#[97, 10, 98, 10]⟩) (lns ⟨#[120, 10, 97, 10, 98, 10]⟩) (lns ⟨#[97, 10, 98, 10, 121, 10]⟩) = want3 := by decide +kernel
theorem ex_clean3 : clnS want3 = (⟨#[120, 10, 97, 10, 98, 10, 121, 10]⟩, true) := by decide +kernel
theorem merge3_any (w : World) : Calls Try.prog 14 #[.string ⟨#[97, 10, 98, 10]⟩, .string ⟨#[120, 10, 97, 10, 98, 10]⟩, .string ⟨#[97, 10, 98, 10, 121, 10]⟩] w fun e w' => ∃ v, e = .returned (.tuple #[v, .int .i64 0]) ∧ Rgs w' v want3 ∧ Below w.heap.size w w' :=
  merge_gen _ _ _ (by decide) (by decide) (by decide) _ _ _ _ rfl rfl rfl ex_merge3 (by decide +kernel) (by decide +kernel) (by decide +kernel) w
theorem clean3_any (w : World) (v : Value) (h : Rgs w v want3) : Calls Try.prog 18 #[v] w fun e w' => e = .returned (.tuple #[.string ⟨#[120, 10, 97, 10, 98, 10, 121, 10]⟩, .bool true]) ∧ Below w.heap.size w w' := by
  have := clean_any w v want3 h (sz_small (by decide +kernel)) (by decide +kernel)
  rw [ex_clean3] at this
  exact this

set_option maxRecDepth 100000 in
set_option maxHeartbeats 1000000 in
theorem merged_any (w : World) : Calls Try.prog 31 #[] w fun e w' => e = .returned (.bool true) ∧ Below w.heap.size w w' := by
  have m1 := Lib.hid (merge3_any w)
  go_enter Try.func31, Try.ntmps31
  go_wp2_with fail
  refine m1.out.mono ?_
  rintro e w3 ⟨v3, rfl, r3, b3⟩
  have cc := Lib.hid (clean3_any w3 v3 r3)
  obtain ⟨A3, c3, rfl, _, _⟩ := r3.form
  clear m1 r3
  go_wp2_with fail
  refine cc.out.mono ?_
  rintro e w4 ⟨rfl, b4⟩
  have hb := b3.trans (b4.mono b3.size)
  go_wp2
  go_ret
  exact ⟨rfl, hb⟩

theorem contains_any (w : World) (v : Value) (l : List ByteArray) (x : ByteArray) (h : Strs w v l) : Calls Try.prog 56 #[v, .string x] w fun e w' => e = .returned (.bool (Lib.containsS l x)) ∧ w = w' := by
  obtain ⟨A, c, rfl, hc, hm⟩ := h.form
  by_cases h0 : 0 < l.length
  · obtain ⟨b, off, rfl, _⟩ := h.get h0
    have key : ∀ j, j < l.length → w.cell? ⟨b, off + j, none⟩ = some (.string (l.getD j ByteArray.empty)) := fun j hj => by
      obtain ⟨b', off', e, hcell⟩ := h.get hj
      cases e
      rw [hcell, List.getD_eq_getElem?_getD, List.getElem?_eq_getElem hj]
      rfl
    have := slices_Contains_string b off l.length c l x w (Nat.le_refl _) (by omega) key
    rw [List.take_length] at this
    exact this.mono fun _ _ ⟨h1, h2⟩ => ⟨h1, h2.symm⟩
  · have hl : l = [] := List.eq_nil_of_length_eq_zero (by omega)
    subst hl
    have hf : Lib.containsS [] x = false := by
      cases hx : Lib.containsS [] x
      · rfl
      · exact absurd ((Lib.containsS_iff _ _).1 hx) (by simp)
    rw [hf]
    exact (slices_Contains_string_empty A c x w).mono fun _ _ ⟨h1, h2⟩ => ⟨h1, h2.symm⟩

/-- How often a line occurs. -/
def cntX (x : ByteArray) (l : List ByteArray) : Nat := l.countP fun y => decide (y = x)
theorem cntX_succ {x : ByteArray} {l : List ByteArray} {k : Nat} (h : k < l.length) : cntX x (l.take (k + 1)) = cntX x (l.take k) + if l[k] = x then 1 else 0 := by
  unfold cntX
  rw [List.take_succ_eq_append_getElem h, List.countP_append]
  by_cases hx : l[k] = x <;> simp [hx]
theorem cntX_le (x : ByteArray) (l : List ByteArray) : cntX x l ≤ l.length := List.countP_le_length
theorem cntX_take (x : ByteArray) (l : List ByteArray) (k : Nat) : cntX x (l.take k) ≤ k := Nat.le_trans (cntX_le _ _) (List.length_take_le _ _)

set_option maxRecDepth 100000 in
set_option maxHeartbeats 1000000 in
theorem count_any (w : World) (s x : ByteArray) (hs : s.size ≤ 1000000000) (hn : (lns s).length ≤ 100000) :
    Calls Try.prog 34 #[.string s, .string x] w fun e w' => e = .returned (.int .i64 (cntX x (lns s) : Nat)) ∧ Below w.heap.size w w' := by
  have C1 := Lib.hid (rlns_any s hs w)
  generalize lns s = l at *
  go_enter Try.func34, Try.ntmps34
  go_wp2_with fail
  refine C1.out.mono ?_
  rintro e w1 ⟨va, rfl, oa, k1⟩
  have hx : Strs w1 va l := oa.sl
  obtain ⟨Aa, ca, rfl, a1, a2⟩ := hx.form
  clear C1 oa
  go_wp2_with fail
  go_loopw [5, 11] (fun n t wr => ∃ k : Nat, k ≤ l.length ∧ t = .int .i64 k ∧ n = .int .i64 (cntX x (l.take k) : Nat) ∧ wr = w1) (fun _ t _ => l.length - (intOf t).toNat)
  case atStart => exact ⟨0, by omega, rfl, rfl, rfl⟩
  case round =>
    obtain ⟨k, hk, rfl, rfl, rfl⟩ := hrel
    have hle := cntX_take x l k
    by_cases hlt : k < l.length
    · obtain ⟨b, off, rfl, x1⟩ := hx.get hlt
      have HS := Lib.hid (cntX_succ (x := x) hlt)
      generalize l[k] = y at *
      by_cases hy : y = x
      · have e1 := str_eq hy
        have HC : Hid (((cntX x (l.take k) : Nat) : Int) + 1 = ((cntX x (l.take (k + 1)) : Nat) : Int)) := by
          have := HS.out
          rw [if_pos hy] at this
          show _ = _; omega
        clear HS hy
        generalize cntX x (l.take k) = n at *
        go_wp2
        go_roundw
        case rel => exact ⟨k + 1, by omega, by go_num, by rw [HC.out], trivial⟩
        case measure => simp [intOf]; omega
      · have e1 := str_ne hy
        have HC : Hid (cntX x (l.take k) = cntX x (l.take (k + 1))) := by
          have := HS.out
          rw [if_neg hy] at this
          show _ = _; omega
        clear HS hy
        go_wp2
        go_roundw
        case rel => exact ⟨k + 1, by omega, by go_num, by rw [HC.out], trivial⟩
        case measure => simp [intOf]; omega
    · have hE := congrArg (cntX x) (List.take_of_length_le (show l.length ≤ k by omega))
      have HE := Lib.hid hE
      clear hE
      go_wp2
      go_ret
      exact ⟨by rw [HE.out]; rfl, k1⟩

def onlyP (others : List ByteArray) (x : ByteArray) : Bool := !Lib.containsS others x
theorem only_succ {p : ByteArray → Bool} {l : List ByteArray} {k : Nat} (h : k < l.length) : (l.take (k + 1)).filter p = (l.take k).filter p ++ (if p l[k] = true then [l[k]] else []) := by
  rw [List.take_succ_eq_append_getElem h, List.filter_append]
  by_cases hx : p l[k] = true <;> simp [hx]

set_option maxRecDepth 100000 in
set_option maxHeartbeats 2000000 in
theorem only_any (w : World) (s a b : ByteArray) (hs : s.size ≤ 1000000000) (ha : a.size ≤ 1000000000) (hb0 : b.size ≤ 1000000000) (hn : (lns s).length ≤ 100000) (hna : (lns a).length ≤ 100000) (hnb : (lns b).length ≤ 100000) :
    Calls Try.prog 33 #[.string s, .string a, .string b] w fun e w' => ∃ v, e = .returned v ∧ Strs w' v ((lns s).filter (onlyP (lns a ++ lns b))) ∧ Below w.heap.size w w' := by
  obtain ⟨i0, hi, hz0, hz1, hz2⟩ := info_parts Try.info_str
  have C1 := Lib.hid fun w' => rlns_any a ha w'
  have C2 := Lib.hid fun w' => rlns_any b hb0 w'
  have C3 := Lib.hid fun w' => rlns_any s hs w'
  generalize lns s = l at *
  generalize lns a = la at *
  generalize lns b = lb at *
  go_enter Try.func33, Try.ntmps33
  go_wp2_with fail
  refine (C1.out _).mono ?_
  rintro e w1 ⟨va, rfl, oa, k1⟩
  obtain ⟨Aa, ca, rfl, _, _⟩ := Strs.form oa.sl
  go_wp2_with fail
  refine (C2.out _).mono ?_
  rintro e w2 ⟨vb, rfl, ob, k2⟩
  obtain ⟨Ab, cb, rfl, _, _⟩ := Strs.form ob.sl
  have kk := k1.trans (k2.mono k1.size)
  have sb := strs_cells ob.sl
  obtain ⟨vs, o1, oe⟩ := oa.keep (grown_of_below k2) fun _ _ h => h
  have OE := Lib.hid oe
  have hks := kk.size
  clear oa ob k1 k2 C1 C2 oe
  go_wp2_with (at_builtin; go_must (refine wpList_append_any _ rfl (.tmp 12) (.tmp 14) _ rfl w.heap.size 9 i0 _ 1 16 Try.underlying36 hi hz0 hz1 hz2 rfl (by omega) (.slice Aa la.length ca) la.length vs rfl o1 Ab lb.length cb (lb.map .string) rfl (by simp) sb one_map (by omega) (by omega) (by omega) ?_)
               intro v3 w3 ho3 hg3 ha3
               obtain ⟨A3, c3, rfl⟩ := own_form ho3)
  have hk3 : Below w.heap.size w w3 := kk.grown hg3 (by omega) (fun k hk => (o1.lt k hk).1)
  have O3 : Ow w3 w.heap.size 9 1 Str1 (.slice A3 (la.length + lb.length) c3) (la ++ lb) := own_strs (xs := la ++ lb) (by rw [List.map_append, ← elems_cells OE.out]; exact ho3) (by simp)
  have hk3s := hk3.size
  have oE : Ow (w3.alloc (.cells #[] 9)) w.heap.size 9 1 Str1 (.slice (some ⟨w3.heap.size, 0, none⟩) 0 0) [] := ⟨[], (Blk.new w3 #[] 9).own hk3s (cap := 0) (by simp) (by simp) (by simp), rfl⟩
  have O3a := O3.keep (grown_of_below ((Below.refl _ _).alloc (Nat.le_refl _) (.cells #[] 9))) fun _ _ h => h
  have hk4 := hk3.alloc hk3s (.cells #[] 9)
  have hA3 := fun g (hg : (Value.slice A3 (la.length + lb.length) c3).ownBlock = some g) => Ow.lt' O3 hg
  clear hg3 ha3 ho3 o1 sb OE hks kk O3 hk3
  have hs4 : (w3.alloc (.cells #[] 9)).heap.size = w3.heap.size + 1 := by simp
  refine (C3.out _).mono ?_
  rintro e w5 ⟨v5, rfl, o5, k5⟩
  have hk5 := hk4.trans (k5.mono hk4.size)
  have hb5 : ∀ g, v5.ownBlock = some g → w3.heap.size + 1 ≤ g := fun g hg => by
    obtain ⟨vs, h1, _⟩ := o5
    have := (h1.lt g hg).1
    omega
  have R0 : Rows3 w5 w.heap.size (.slice (some ⟨w3.heap.size, 0, none⟩) 0 0) (.slice A3 (la.length + lb.length) c3) v5 (la ++ lb, [], l) :=
    ⟨oE.keep (grown_of_below k5) fun _ _ h => h, O3a.keep (grown_of_below k5) fun _ _ h => h, o5.mono_base (by omega),
      fun g h1 h2 => by
        have := hA3 g h2
        simp [Value.ownBlock] at h1
        omega,
      fun g h1 h2 => by
        have := hb5 g h2
        simp [Value.ownBlock] at h1
        omega,
      fun g h1 h2 => by
        have := hA3 g h1
        have := hb5 g h2
        omega⟩
  obtain ⟨A5, c5, rfl, _, _⟩ := Strs.form o5.sl
  clear oE O3a hA3 hb5 o5 k5 hk4 hs4 C3
  go_wp2_with fail
  go_loopw [8, 20] (fun vo t wr => ∃ k : Nat, k ≤ l.length ∧ t = .int .i64 k ∧ Rows3 wr w.heap.size vo (.slice A3 (la.length + lb.length) c3) (.slice A5 l.length c5) (la ++ lb, (l.take k).filter (onlyP (la ++ lb)), l) ∧ Below w.heap.size w wr) (fun _ t _ => l.length - (intOf t).toNat)
  case atStart => exact ⟨0, by omega, rfl, R0, hk5⟩
  case round =>
    clear R0 hk5
    obtain ⟨k, hk, rfl, R, hb⟩ := hrel
    have hbs := hb.size
    by_cases hlt : k < l.length
    · obtain ⟨b', off, e5, x1⟩ := Strs.get (show Strs wr (.slice A5 l.length c5) l from R.o2.sl) hlt
      subst e5
      have HS := Lib.hid (only_succ (p := onlyP (la ++ lb)) hlt)
      have sO : Strs wr (.slice A3 (la.length + lb.length) c3) (la ++ lb) := R.o1.sl
      have CC := Lib.hid (fun y => contains_any wr _ (la ++ lb) y sO)
      generalize l[k] = y at *
      have HPY : Hid (onlyP (la ++ lb) y = !Lib.containsS (la ++ lb) y) := rfl
      obtain ⟨cb, hcb⟩ : ∃ cb, Lib.containsS (la ++ lb) y = cb := ⟨_, rfl⟩
      have CC1 := Lib.hid (CC.out y)
      have CC2 := CC1.out
      rw [hcb] at CC2
      have CC3 := Lib.hid CC2
      rw [hcb] at HPY
      clear CC CC1 CC2 hcb sO
      cases cb
      · have HS2 : Hid ((l.take (k + 1)).filter (onlyP (la ++ lb)) = (l.take k).filter (onlyP (la ++ lb)) ++ [y]) := by
          have := HS.out
          rw [HPY.out] at this
          exact this
        clear HS HPY
        obtain ⟨Av, cv, rfl, _, _⟩ := Sl.form R.o0.sl
        have hlf : ((l.take k).filter (onlyP (la ++ lb))).length ≤ 100000 := Nat.le_trans (List.length_filter_le _ _) (by rw [List.length_take]; omega)
        have oa : Below wr.heap.size wr (wr.alloc (.cells #[.string y] 9)) := (Below.refl _ _).alloc (Nat.le_refl _) _
        have Ra := R.keep oa
        obtain ⟨vs, o1, oe⟩ := Ra.o0
        have OE := Lib.hid oe
        have HRA := Lib.hid Ra
        clear R Ra oe
        simp only at o1 hlf
        generalize hdone : (l.take k).filter (onlyP (la ++ lb)) = done at *
        clear hdone
        go_wp2_with (first
          | (go_at_call 56; refine CC3.out.mono ?_; rintro e w6 ⟨rfl, rfl⟩)
          | (at_builtin; go_must (refine wpList_append_any _ rfl (.tmp 28) (.tmp 30) _ rfl w.heap.size 9 i0 _ 1 16 Try.underlying36 hi hz0 hz1 hz2 rfl (by omega) (.slice Av done.length cv) done.length vs rfl o1 _ 1 1 [.string y] rfl rfl (CellsAt.of_new _ #[.string y] 9 (0, 0)) (by simp [Value.oneCell']) (by omega) (by omega) (by simp; omega) ?_)
             intro v6 w6 ho6 hg6 ha6
             obtain ⟨A6, c6, rfl⟩ := own_form ho6))
        have R6 := HRA.out.push0 (s := y) OE.out hg6 ho6 ha6
        have hb6 := (hb.alloc hbs (.cells #[.string y] 9)).grown hg6 (by simp; omega) (fun k hk => (o1.lt k hk).1)
        clear ho6 hg6 ha6 o1 HRA x1 hb CC3
        go_roundw
        case rel => exact ⟨k + 1, by omega, by go_num, by rw [HS2.out]; exact R6, hb6⟩
        case measure => simp [intOf]; omega
      · have HS2 : Hid ((l.take (k + 1)).filter (onlyP (la ++ lb)) = (l.take k).filter (onlyP (la ++ lb))) := by
          have := HS.out
          rw [HPY.out] at this
          show _ = _
          rw [this]
          simp
        obtain ⟨Av, cv, rfl, _, _⟩ := Sl.form R.o0.sl
        clear HS HPY
        go_wp2_with (go_at_call 56; refine CC3.out.mono ?_; rintro e w6 ⟨rfl, rfl⟩)
        go_roundw
        case rel => exact ⟨k + 1, by omega, by go_num, by rw [HS2.out]; exact R, hb⟩
        case measure => simp [intOf]; omega
    · have hE : l.take k = l := List.take_of_length_le (by omega)
      have hr : ∀ v, Strs wr v ((l.take k).filter (onlyP (la ++ lb))) → Strs wr v (l.filter (onlyP (la ++ lb))) := fun v h => by rwa [hE] at h
      have HR := Lib.hid hr
      obtain ⟨Av, cv, rfl, _, _⟩ := Sl.form R.o0.sl
      clear hE hr
      go_wp2
      go_ret
      exact ⟨_, rfl, HR.out _ R.o0.sl, hb⟩
end Go.Proofs.Ythobbcafemkhbaa
