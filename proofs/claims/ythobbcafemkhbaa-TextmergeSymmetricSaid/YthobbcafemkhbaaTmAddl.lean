/- textmerge.addLines. -/
import Derived.Test.YthobbcafemkhbaaTmCrow
namespace Go.Proofs.Ythobbcafemkhbaa
open Go.RowKit

section
variable {w w1 w2 : World} {B : Nat} {v v2 vl : Value} {L : List Rg} {ls : List ByteArray} {cells : List Value} {ob : Obj}
theorem crow_new (hst : Stab w (OwnOf v) fun w' => Elems 4 (RgR w') L cells) (hown : w.ownsRow B 58 4 v L.length cells) (hB : B ≤ w.heap.size) (hb1 : Below w.heap.size w w1)
    (hl : Ow w1 w.heap.size 9 1 Str1 vl ls)
    (hg2 : (w1.alloc ob).grownBy w2 v.ownBlock) (ho2 : w2.ownsRow B 58 4 v2 (L.length + 1) (cells ++ [.bool false, .slice none 0 0, vl, .slice none 0 0])) (ha2 : v2.ownBlock = v.ownBlock ∨ v2.ownBlock = some (w1.alloc ob).heap.size) :
    CRow w2 B v2 (L ++ [(false, [], ls, [])]) ∧ Below B w w2 ∧ FrX w w2 := by
  have hA1 : Agree (OwnOf v) w1 w2 := (Agree.alloc w1 ob).trans (Agree.of_grown hg2 fun g hg => hg)
  have hA : Agree (OwnOf v) w w2 := (Agree.of_below hb1 _).trans hA1
  have hsz := hb1.size
  have hmv : Moved w v v2 := Moved.of_at ha2 (by simp; omega)
  have hown1 := own_below hown hb1
  refine ⟨⟨_, by simpa using ho2, .inr ⟨L, ls, vl, cells, rfl, rfl, ?_, ?_⟩⟩, ?_, ?_⟩
  · obtain ⟨vs, o1, o2⟩ := id hl
    have := (hl.stab (M := OwnOf v) (own_own_ne o1 hown1 (by decide))) _ hA1
    exact this.mono_base hB
  · refine hst.shift hA fun b hb h1 => ?_
    rcases h1 with h1 | h1
    · exact hmv.old hb h1
    · obtain ⟨vs, o1, o2⟩ := hl
      have := (o1.lt b h1).1
      omega
  · exact ((hb1.mono hB).alloc (by omega) ob).grown hg2 (by simp; omega) fun k hk => (hown.lt k hk).1
  · exact (FrX.of_below hb1).trans ((FrX.of_below ((Below.refl _ _).alloc (Nat.le_refl _) ob)).trans (FrX.grown (hown1.alloc ob) (.inl rfl) hg2))
/-- Lines have been added to the last region. -/
theorem crow_more {D : List Rg} {c0 : List Value} {g n cap : Nat} {A' : Option Addr} {m c' : Nat} {xs : List ByteArray} (hn : n = D.length + 1)
    (hown : w.ownsRow B 58 4 (.slice (some ⟨g, 0, none⟩) n cap) n (c0 ++ [.bool false, .slice none 0 0, vl, .slice none 0 0])) (hc0 : c0.length = D.length * 4) (hB : B ≤ w.heap.size)
    (hl : Ow w B 9 1 Str1 vl ls) (hst : Stab w (fun b => OwnOf (.slice (some ⟨g, 0, none⟩) n cap) b ∨ OwnOf vl b) fun w' => Elems 4 (RgR w') D c0)
    (hg : w.grownBy w1 vl.ownBlock) (ho : w1.ownsRow B 9 1 (.slice A' m c') m ((ls ++ xs).map .string)) (hm : m = (ls ++ xs).length) (ha : (Value.slice A' m c').ownBlock = vl.ownBlock ∨ (Value.slice A' m c').ownBlock = some w.heap.size) :
    CRow (w1.setCell ⟨g, D.length * 4 + 2, none⟩ (.slice A' m c')) B (.slice (some ⟨g, 0, none⟩) n cap) (D ++ [(false, [], ls ++ xs, [])]) ∧ Below B w (w1.setCell ⟨g, D.length * 4 + 2, none⟩ (.slice A' m c')) ∧ FrX w (w1.setCell ⟨g, D.length * 4 + 2, none⟩ (.slice A' m c')) := by
  subst hn
  obtain ⟨vs, o1, o2⟩ := id hl
  have hown1 : w1.ownsRow B 58 4 (.slice (some ⟨g, 0, none⟩) (D.length + 1) cap) (D.length + 1) (c0 ++ [.bool false, .slice none 0 0, vl, .slice none 0 0]) :=
    own_stab hown (M := OwnOf vl) (own_own_ne hown o1 (by decide)) _ (Agree.of_grown hg fun _ h => h)
  obtain ⟨cur, hbk⟩ := own_blk hown1
  have hgB : B ≤ g := by
    obtain ⟨g', e, h⟩ := own_addr hown (by omega)
    cases e
    exact h
  have hA1 : Agree (fun b => b = g) w1 (w1.setCell ⟨g, D.length * 4 + 2, none⟩ (.slice A' m c')) := Agree.set1 w1 g _ _
  have hA : Agree (fun b => OwnOf (.slice (some ⟨g, 0, none⟩) (D.length + 1) cap) b ∨ OwnOf vl b) w (w1.setCell ⟨g, D.length * 4 + 2, none⟩ (.slice A' m c')) :=
    (Agree.of_grown hg fun _ h => .inr h).trans (hA1.mono fun b _ h => .inl (by rw [h]; rfl))
  have hset := own_set hown1 (j := D.length * 4 + 2) (.slice A' m c')
  have ecl : (c0 ++ [.bool false, .slice none 0 0, vl, .slice none 0 0]).set (D.length * 4 + 2) (.slice A' m c') = c0 ++ [.bool false, .slice none 0 0, .slice A' m c', .slice none 0 0] := by
    rw [← hc0, List.set_append_right _ _ (by omega), Nat.add_sub_cancel_left]
    rfl
  rw [ecl] at hset
  refine ⟨⟨_, by simpa using hset, .inr ⟨D, ls ++ xs, _, c0, rfl, rfl, ?_, ?_⟩⟩, ?_, ?_⟩
  · have hne := own_own_ne ho hown1 (by decide)
    exact ((own_strs ho hm).stab (M := fun b => b = g) fun g' hg' e => hne g' hg' (by rw [e]; rfl)) _ hA1
  · refine hst.shift hA fun b hb h1 => ?_
    rcases h1 with h1 | h1
    · exact .inl h1
    · rcases ha with h2 | h2
      · exact .inr (by unfold OwnOf at h1 ⊢; rw [← h2]; exact h1)
      · unfold OwnOf at h1
        rw [h2] at h1
        cases h1
        omega
  · exact ((Below.refl B w).grown hg hB fun k hk => (o1.lt k hk).1).setCell (p := ⟨g, D.length * 4 + 2, none⟩) hgB _
  · exact (FrX.grown o1 (.inr rfl) hg).trans (FrX.set hbk _)
end

set_option maxRecDepth 100000 in
set_option maxHeartbeats 1000000 in
theorem addLines_new (w : World) (B : Nat) (v vx : Value) (L : List Rg) (ls : List ByteArray) (h : CRow w B v L) (hcl : Clsd L) (hB : B ≤ w.heap.size) (hx : Strs w vx ls) (hlen : L.length ≤ 1000000) (hll : ls.length ≤ 1000000) (h0 : ls ≠ []) :
    Calls Try.prog 38 #[v, vx] w (CRowPost w B (addL L ls)) := by
  obtain ⟨i1, hi1, hy0, hy1, hy2⟩ := info_parts Try.info_reg
  obtain ⟨A, c, rfl, hc1, hc2⟩ := h.form
  have cc := Lib.hid (clone_any w _ ls hx hll)
  obtain ⟨Ax, cx, rfl, hx1, hx2⟩ := hx.form
  have hne : ((ls.length : Int) == 0) = false := by
    have := List.length_pos_iff.2 h0
    rw [beq_eq_false_iff_ne]; omega
  have hrg := h.rgs
  obtain ⟨cells, hown, hst⟩ := h.row
  have HE : Hid (addL L ls = L ++ [(false, [], ls, [])]) := by
    show _ = _
    rcases hcl with h1 | ⟨L', ⟨b, l, r⟩, h1⟩
    · subst h1; exact addL_empty h0
    · subst h1; exact addL_conf _ _ _ _ h0
  have key : ∀ w1 vl ob w2 v2, Below w.heap.size w w1 → Ow w1 w.heap.size 9 1 Str1 vl ls → (w1.alloc ob).grownBy w2 (Value.slice A L.length c).ownBlock →
      w2.ownsRow B 58 4 v2 (L.length + 1) (cells ++ [.bool false, .slice none 0 0, vl, .slice none 0 0]) → (v2.ownBlock = (Value.slice A L.length c).ownBlock ∨ v2.ownBlock = some (w1.alloc ob).heap.size) →
      CRowPost w B (addL L ls) (.returned v2) w2 := by
    intro w1 vl ob w2 v2 hb1 ho1 hg2 ho2 ha2
    obtain ⟨r1, r2, r3⟩ := crow_new hst hown hB hb1 ho1 hg2 ho2 ha2
    exact ⟨v2, rfl, by rw [HE.out]; exact r1, r2, r3⟩
  have KEY := Lib.hid key
  clear key hst HE h0 hx h
  by_cases hpos : 0 < L.length
  · obtain ⟨L', ⟨b, l, r⟩, h1⟩ := hcl.resolve_left (fun e => by subst e; simp at hpos)
    have hidx : ((L.length : Int) - 1).toNat = L.length - 1 := by omega
    have hl0 : ((L.length : Int) == 0) = false := by rw [beq_eq_false_iff_ne]; omega
    have hlast : L[L.length - 1].1 = true := by subst h1; simp
    obtain ⟨b0, off, vb, vl, vr, rfl, a1, _⟩ := hrg.get (i := L.length - 1) (by omega)
    rw [hlast] at a1
    clear h1 hrg hcl hlast
    go_enter Try.func38, Try.ntmps38
    go_wp2_with fail
    refine cc.out.mono ?_
    rintro e w1 ⟨vl, rfl, ho1, hb1⟩
    obtain ⟨A1, d1, rfl, _, _⟩ := Strs.form ho1.sl
    have hown1 := own_below hown hb1
    have hsz1 := hb1.size
    clear a1 cc
    go_wp2_with (at_builtin; go_must (refine wpList_append_any _ rfl (.tmp 22) (.tmp 26) _ rfl B 58 i1 _ 4 80 Try.underlying24 hi1 hy0 hy1 hy2 rfl (by omega) (.slice (some ⟨b0, off, none⟩) L.length c) L.length cells rfl (hown1.alloc _) _ 1 1 [.bool false, .slice none 0 0, .slice A1 ls.length d1, .slice none 0 0] rfl rfl (CellsAt.of_new _ _ _ _) (by simp [Value.oneCell']) (by omega) (by omega) (by simp; omega) ?_)
                 intro v2 w2 ho2 hg2 ha2)
    go_ret
    exact KEY.out _ _ _ _ _ hb1 ho1 hg2 ho2 ha2
  · have hz : L = [] := List.eq_nil_of_length_eq_zero (by omega)
    subst hz
    clear hcl hrg hpos
    go_enter Try.func38, Try.ntmps38
    go_wp2_with fail
    refine cc.out.mono ?_
    rintro e w1 ⟨vl, rfl, ho1, hb1⟩
    obtain ⟨A1, d1, rfl, _, _⟩ := Strs.form ho1.sl
    have hown1 := own_below hown hb1
    have hsz1 := hb1.size
    clear cc
    go_wp2_with (at_builtin; go_must (refine wpList_append_any _ rfl (.tmp 22) (.tmp 26) _ rfl B 58 i1 _ 4 80 Try.underlying24 hi1 hy0 hy1 hy2 rfl (by omega) (.slice A 0 c) 0 cells rfl (hown1.alloc _) _ 1 1 [.bool false, .slice none 0 0, .slice A1 ls.length d1, .slice none 0 0] rfl rfl (CellsAt.of_new _ _ _ _) (by simp [Value.oneCell']) (by omega) (by omega) (by simp; omega) ?_)
                 intro v2 w2 ho2 hg2 ha2)
    go_ret
    exact KEY.out _ _ _ _ _ hb1 ho1 hg2 ho2 ha2

theorem own_cell {w : World} {B : Nat} {e : TypeId} {sz n cap g : Nat} {cells : List Value} (h : w.ownsRow B e sz (.slice (some ⟨g, 0, none⟩) n cap) n cells) {j : Nat} {u : Value} (hj : cells[j]? = some u) : w.cell? ⟨g, j, none⟩ = some u ∧ w.frozen? ⟨g, j, none⟩ = false := by
  obtain ⟨b, off, e1, h1⟩ := own_cellsAt h j u hj
  cases e1
  obtain ⟨cur, hb⟩ := own_blk h
  rw [Nat.zero_add] at h1
  exact ⟨h1, hb.frozen j⟩

set_option maxRecDepth 100000 in
set_option maxHeartbeats 1000000 in
theorem addLines_more (w : World) (B : Nat) (v vx : Value) (L : List Rg) (ls : List ByteArray) (h : CRow w B v L) (hcl : ¬ Clsd L) (hB : B ≤ w.heap.size) (hx : Strs w vx ls) {N : Nat} (hN : RgB N L) (hN1 : N ≤ 1000000) (hll : ls.length ≤ 1000000) (h0 : ls ≠ []) :
    Calls Try.prog 38 #[v, vx] w (CRowPost w B (addL L ls)) := by
  obtain ⟨i0, hi, hz0, hz1, hz2⟩ := info_parts Try.info_str
  obtain ⟨A, c, rfl, hc1, hc2⟩ := h.form
  obtain ⟨Ax, cx, rfl, hx1, hx2⟩ := hx.form
  have hxc := strs_cells hx
  have hne : ((ls.length : Int) == 0) = false := by
    have := List.length_pos_iff.2 h0
    rw [beq_eq_false_iff_ne]; omega
  obtain ⟨cells, hown, ⟨h1, _⟩ | ⟨D, lo, vl, c0, rfl, rfl, hl, hst⟩⟩ := h
  · exact absurd h1 hcl
  have hD : (D ++ [((false, [], lo, []) : Rg)]).length = D.length + 1 := by simp
  have hlo : lo.length ≤ N := hN.2 _ (List.mem_append_right _ (List.mem_singleton.2 rfl))
  have hlD := hN.1
  rw [hD] at hown hc1 hlD hst
  have hc0 : c0.length = D.length * 4 := hst.now.length
  obtain ⟨g, rfl, hgB⟩ := own_addr hown (by omega)
  obtain ⟨k0, f0⟩ := own_cell hown (j := D.length * 4) (u := .bool false) (by rw [← hc0]; simp)
  obtain ⟨k2, f2⟩ := own_cell hown (j := D.length * 4 + 2) (u := vl) (by rw [← hc0]; simp)
  obtain ⟨vs, o1, o2⟩ := id hl
  have e1 := elems_cells o2
  subst e1
  have key : ∀ w1 A' m c', w.grownBy w1 vl.ownBlock → w1.ownsRow B 9 1 (.slice A' m c') m ((lo ++ ls).map .string) → m = (lo ++ ls).length → ((Value.slice A' m c').ownBlock = vl.ownBlock ∨ (Value.slice A' m c').ownBlock = some w.heap.size) →
      w1.cell? ⟨g, D.length * 4 + 2, none⟩ = some vl ∧ w1.frozen? ⟨g, D.length * 4 + 2, none⟩ = false ∧
      CRowPost w B (addL (D ++ [(false, [], lo, [])]) ls) (.returned (.slice (some ⟨g, 0, none⟩) (D.length + 1) c)) (w1.setCell ⟨g, D.length * 4 + 2, none⟩ (.slice A' m c')) := by
    intro w1 A' m c' hg ho hm ha
    have hown1 : w1.ownsRow B 58 4 (.slice (some ⟨g, 0, none⟩) (D.length + 1) c) (D.length + 1) (c0 ++ [.bool false, .slice none 0 0, vl, .slice none 0 0]) :=
      own_stab hown (M := OwnOf vl) (own_own_ne hown o1 (by decide)) _ (Agree.of_grown hg fun _ h => h)
    obtain ⟨q1, q2⟩ := own_cell hown1 (j := D.length * 4 + 2) (u := vl) (by rw [← hc0]; simp)
    obtain ⟨r1, r2, r3⟩ := crow_more rfl hown hc0 hB hl hst hg ho hm ha
    exact ⟨q1, q2, _, rfl, by rw [addL_plain _ _ _ _ h0]; exact r1, r2, r3⟩
  have KEY := Lib.hid key
  obtain ⟨Al, cl, rfl⟩ := own_form o1
  clear key hst hl hcl hx hD h0
  rw [show (D ++ [((false, [], lo, []) : Rg)]).length = D.length + 1 by simp]
  go_enter Try.func38, Try.ntmps38
  go_wp2_with (at_builtin; go_must (refine wpList_append_any _ rfl (.tmp 37) (.tmp 38) _ rfl B 9 i0 _ 1 16 Try.underlying36 hi hz0 hz1 hz2 rfl (by omega) (.slice Al lo.length cl) lo.length (lo.map .string) rfl o1 Ax ls.length cx (ls.map .string) rfl (by simp) hxc one_map (by omega) (by omega) hB ?_)
               intro v1 w1 ho1 hg1 ha1
               rw [← List.map_append] at ho1
               obtain ⟨A1, d1, rfl⟩ := own_form ho1
               obtain ⟨q1, q2, q3⟩ := KEY.out w1 A1 _ d1 hg1 ho1 (by simp) ha1
               have Q3 := Lib.hid q3
               clear q3 ha1 hg1 ho1)
  go_ret
  exact Q3.out

theorem clsd_or (L : List Rg) : Clsd L ∨ ¬ Clsd L := Classical.em _
theorem addLines_any (w : World) (B : Nat) (v vx : Value) (L : List Rg) (ls : List ByteArray) (h : CRow w B v L) (hB : B ≤ w.heap.size) (hx : Strs w vx ls) {N : Nat} (hN : RgB N L) (hN1 : N ≤ 1000000) (hll : ls.length ≤ 1000000) :
    Calls Try.prog 38 #[v, vx] w (CRowPost w B (addL L ls)) := by
  by_cases h0 : ls = []
  · subst h0
    obtain ⟨A, c, rfl, hc1, hc2⟩ := h.form
    obtain ⟨Ax, cx, rfl, hx1, hx2⟩ := hx.form
    rw [addL_nil]
    have HP := Lib.hid (CRowPost.same h)
    clear h hx
    go_enter Try.func38, Try.ntmps38
    go_wp2
    go_ret
    exact HP.out
  · rcases clsd_or L with hc | hc
    · exact addLines_new w B v vx L ls h hc hB hx (by have := hN.1; omega) hll h0
    · exact addLines_more w B v vx L ls h hc hB hx hN hN1 hll h0
end Go.Proofs.Ythobbcafemkhbaa
