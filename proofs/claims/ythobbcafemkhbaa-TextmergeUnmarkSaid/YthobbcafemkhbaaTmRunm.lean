/- cordwoodref19.Unmark. -/
import Derived.Test.YthobbcafemkhbaaTmCunm
import Derived.Test.YthobbcafemkhbaaTmRmark
namespace Go.Proofs.Ythobbcafemkhbaa
open Go.RowKit
set_option linter.unusedVariables false

abbrev nilS : Value := .slice none 0 0
def RuM (vo vb vl vr : Value) (b : Nat) : Prop := OwnOf vo b ∨ OwnOf vb b ∨ OwnOf vl b ∨ OwnOf vr b
/-- The regions that have been read, and the parts of the conflict that is being read; the box gx lies apart. -/
structure RuC (w : World) (B gx : Nat) (vo vb vl vr : Value) (out : List Rg) (c : Cur) : Prop where
  row : ∃ cells, w.ownsRow B 58 4 vo out.length cells ∧ Stab w (RuM vo vb vl vr) fun w' => Elems 4 (RgR w') out cells
  r3 : Rows3 w B vl vb vr c
  nx : vo.ownBlock ≠ some gx
  hx : B ≤ gx ∧ gx < w.heap.size
section
variable {w w' : World} {B gx : Nat} {vo vb vl vr v' : Value} {out : List Rg} {c : Cur} {s : ByteArray} {vs : List Value}
theorem RuC.keep (h : RuC w B gx vo vb vl vr out c) (k : Below w.heap.size w w') : RuC w' B gx vo vb vl vr out c := by
  obtain ⟨cells, h1, h2⟩ := h.row
  exact ⟨⟨cells, own_below h1 k, h2.go (Agree.of_below k _)⟩, h.r3.keep k, h.nx, h.hx.1, by have := k.size; have := h.hx.2; omega⟩
theorem RuC.toRow (h : RuC w B gx vo vb vl vr out c) : Row w B vo out := by
  obtain ⟨cells, h1, h2⟩ := h.row
  exact ⟨cells, h1, h2.mono fun _ _ h => .inl h⟩
theorem not_own_nil {b : Nat} : ¬ OwnOf (.slice none 0 0) b := by simp [OwnOf, Value.ownBlock]
theorem RuC.ofRow (h : Row w B vo out) (nx : vo.ownBlock ≠ some gx) (hx : B ≤ gx ∧ gx < w.heap.size) : RuC w B gx vo nilS nilS nilS out cur0 := by
  obtain ⟨cells, h1, h2⟩ := h
  refine ⟨⟨cells, h1, h2.mono fun b _ hb => ?_⟩, Rows3.nil _ _, nx, hx⟩
  rcases hb with hb | hb | hb | hb
  · exact hb
  · exact absurd hb not_own_nil
  · exact absurd hb not_own_nil
  · exact absurd hb not_own_nil
theorem RuC.set (h : RuC w B gx vo vb vl vr out c) {cs : Array Value} (hb : Blk w gx 58 cs) (hns : ∀ (o : Nat) s, cs[o]? ≠ some (.string s)) (o : Nat) (u : Value) : RuC (w.setCell ⟨gx, o, none⟩ u) B gx vo vb vl vr out c := by
  obtain ⟨cells, h1, h2⟩ := h.row
  refine ⟨⟨cells, (own_stab h1 (M := fun b => b = gx) (by rintro g hg rfl; exact h.nx hg)) _ (Agree.set1 w gx o u), h2.other elems_keepS (blk_ns hb hns) (Agree.set1 w gx o u)⟩, h.r3.box hb (by decide) o u, h.nx, h.hx.1, by have := h.hx.2; simpa [World.setCell] using this⟩
theorem kept_ne {e : TypeId} {n m : Nat} {v u : Value} {xs ys : List Value} {sz : Nat} (h : w.ownsRow B e sz v n xs) (h' : w.ownsRow B 9 1 u m ys) (hne : e ≠ 9) (hg : w.grownBy w' u.ownBlock) : w'.ownsRow B e sz v n xs := by
  refine h.kept hg ?_
  cases hv : v.ownBlock with
  | none => exact .inl rfl
  | some g => exact .inr fun e => own_own_ne h h' hne g hv e.symm
theorem moved_old {vp : Value} (hm : v'.ownBlock = vp.ownBlock ∨ v'.ownBlock = some w.heap.size) {b : Nat} (hb : b < w.heap.size) (h : OwnOf v' b) : OwnOf vp b := by
  rcases hm with h1 | h1
  · unfold OwnOf at h ⊢; rw [← h1]; exact h
  · unfold OwnOf at h; rw [h1] at h; cases h; omega
theorem RuC.left (h : RuC w B gx vo vb vl vr out c) (he : Elems 1 Str1 c.2.1 vs) (hv : w.ownsRow B 9 1 vl c.2.1.length vs) (hg : w.grownBy w' vl.ownBlock) (ho : w'.ownsRow B 9 1 v' (c.2.1.length + 1) (vs ++ [.string s])) (hm : v'.ownBlock = vl.ownBlock ∨ v'.ownBlock = some w.heap.size) :
    RuC w' B gx vo vb v' vr out (addC 1 c s) := by
  obtain ⟨cells, h1, h2⟩ := h.row
  refine ⟨⟨cells, kept_ne h1 hv (by decide) hg, h2.shift (Agree.of_grown hg fun g hg => .inr (.inr (.inl hg))) fun b hb hM => ?_⟩, h.r3.push0 he hg ho hm, h.nx, h.hx.1, by have := hg.size; have := h.hx.2; omega⟩
  rcases hM with hM | hM | hM | hM
  · exact .inl hM
  · exact .inr (.inl hM)
  · exact .inr (.inr (.inl (moved_old hm hb hM)))
  · exact .inr (.inr (.inr hM))
theorem RuC.base (h : RuC w B gx vo vb vl vr out c) (he : Elems 1 Str1 c.1 vs) (hv : w.ownsRow B 9 1 vb c.1.length vs) (hg : w.grownBy w' vb.ownBlock) (ho : w'.ownsRow B 9 1 v' (c.1.length + 1) (vs ++ [.string s])) (hm : v'.ownBlock = vb.ownBlock ∨ v'.ownBlock = some w.heap.size) :
    RuC w' B gx vo v' vl vr out (addC 2 c s) := by
  obtain ⟨cells, h1, h2⟩ := h.row
  refine ⟨⟨cells, kept_ne h1 hv (by decide) hg, h2.shift (Agree.of_grown hg fun g hg => .inr (.inl hg)) fun b hb hM => ?_⟩, h.r3.push1 he hg ho hm, h.nx, h.hx.1, by have := hg.size; have := h.hx.2; omega⟩
  rcases hM with hM | hM | hM | hM
  · exact .inl hM
  · exact .inr (.inl (moved_old hm hb hM))
  · exact .inr (.inr (.inl hM))
  · exact .inr (.inr (.inr hM))
theorem RuC.right (h : RuC w B gx vo vb vl vr out c) (he : Elems 1 Str1 c.2.2 vs) (hv : w.ownsRow B 9 1 vr c.2.2.length vs) (hg : w.grownBy w' vr.ownBlock) (ho : w'.ownsRow B 9 1 v' (c.2.2.length + 1) (vs ++ [.string s])) (hm : v'.ownBlock = vr.ownBlock ∨ v'.ownBlock = some w.heap.size) :
    RuC w' B gx vo vb vl v' out (addC 3 c s) := by
  obtain ⟨cells, h1, h2⟩ := h.row
  refine ⟨⟨cells, kept_ne h1 hv (by decide) hg, h2.shift (Agree.of_grown hg fun g hg => .inr (.inr (.inr hg))) fun b hb hM => ?_⟩, h.r3.push2 he hg ho hm, h.nx, h.hx.1, by have := hg.size; have := h.hx.2; omega⟩
  rcases hM with hM | hM | hM | hM
  · exact .inl hM
  · exact .inr (.inl hM)
  · exact .inr (.inr (.inl hM))
  · exact .inr (.inr (.inr (moved_old hm hb hM)))
end
theorem ns_box {b : Bool} {A1 A2 A3 : Option Addr} {n1 n2 n3 c1 c2 c3 : Nat} : ∀ (o : Nat) s, (#[.bool b, .slice A1 n1 c1, .slice A2 n2 c2, .slice A3 n3 c3] : Array Value)[o]? ≠ some (.string s)
  | 0, s => by simp
  | 1, s => by simp
  | 2, s => by simp
  | 3, s => by simp
  | o + 4, s => by simp
theorem blk4 {w : World} {g : Nat} {a b c d : Value} (h : Blk w g 58 #[a, b, c, d]) : w.cell? ⟨g, 0, none⟩ = some a ∧ w.cell? ⟨g, 1, none⟩ = some b ∧ w.cell? ⟨g, 2, none⟩ = some c ∧ w.cell? ⟨g, 3, none⟩ = some d ∧ w.frozen? ⟨g, 0, none⟩ = false ∧ w.frozen? ⟨g, 1, none⟩ = false ∧ w.frozen? ⟨g, 2, none⟩ = false ∧ w.frozen? ⟨g, 3, none⟩ = false :=
  ⟨h.cell rfl, h.cell rfl, h.cell rfl, h.cell rfl, h.frozen 0, h.frozen 1, h.frozen 2, h.frozen 3⟩

/-! ### plain -/
def plOk (x : Rg) : Prop := x.1 = false → x.2.1 = [] ∧ x.2.2.2 = [] ∧ x.2.2.1 ≠ []
theorem pl_addL {L : List Rg} {ls : List ByteArray} (h : ∀ x ∈ L, plOk x) (hls : ls ≠ []) : ∀ x ∈ addL L ls, plOk x := by
  rcases rg_cases L with e | ⟨L', b, l, r, e⟩ | ⟨L', b, l, r, e⟩
  · subst e; rw [addL_empty hls]
    intro x hx; rw [List.mem_singleton.1 hx]; exact fun _ => ⟨rfl, rfl, hls⟩
  · subst e; rw [addL_plain _ _ _ _ hls]
    intro x hx
    rcases List.mem_append.1 hx with hx | hx
    · exact h x (List.mem_append_left _ hx)
    · rw [List.mem_singleton.1 hx]; exact fun _ => ⟨rfl, rfl, by simp [hls]⟩
  · subst e; rw [addL_conf _ _ _ _ hls]
    intro x hx
    rcases List.mem_append.1 hx with hx | hx
    · exact h x hx
    · rw [List.mem_singleton.1 hx]; exact fun _ => ⟨rfl, rfl, hls⟩
theorem pl_conf {L : List Rg} {c : Cur} (h : ∀ x ∈ L, plOk x) : ∀ x ∈ L ++ [(true, c)], plOk x := fun x hx => by
  rcases List.mem_append.1 hx with hx | hx
  · exact h x hx
  · rw [List.mem_singleton.1 hx]; exact fun h => by cases h
theorem pl_sub {x : Rg} (h : plOk x) : ((∀ s ∈ x.2.1, s ∈ mkLines x) ∧ (∀ s ∈ x.2.2.1, s ∈ mkLines x) ∧ ∀ s ∈ x.2.2.2, s ∈ mkLines x) ∧ (x.2.1.length ≤ (mkLines x).length ∧ x.2.2.1.length ≤ (mkLines x).length ∧ x.2.2.2.length ≤ (mkLines x).length ∧ 1 ≤ (mkLines x).length) := by
  obtain ⟨c, b, l, r⟩ := x
  cases c
  · obtain ⟨h3, h4, h2⟩ := h rfl
    simp only at h2 h3 h4
    subst h3 h4
    have := List.length_pos_iff.2 h2
    exact ⟨⟨(fun _ h => by cases h), (fun s hs => hs), (fun _ h => by cases h)⟩, Nat.zero_le _, Nat.le_refl _, Nat.zero_le _, this⟩
  · have e : mkLines (true, b, l, r) = [mk0] ++ l ++ [mk1] ++ b ++ [mk2] ++ r ++ [mk3] := by unfold mkLines; simp
    rw [e]
    refine ⟨⟨fun s hs => by simp [show s ∈ b from hs], fun s hs => by simp [show s ∈ l from hs], fun s hs => by simp [show s ∈ r from hs]⟩, ?_, ?_, ?_, ?_⟩
    · show b.length ≤ _; simp; omega
    · show l.length ≤ _; simp; omega
    · show r.length ≤ _; simp; omega
    · simp
theorem mkAll_in {L : List Rg} {x : Rg} (h : x ∈ L) {s : ByteArray} (hs : s ∈ mkLines x) : s ∈ mkAll L := List.mem_flatMap.2 ⟨x, h, hs⟩
theorem mkAll_ge : ∀ {L : List Rg} {x : Rg}, x ∈ L → (mkLines x).length ≤ (mkAll L).length
  | y :: L, x, h => by
    have e : mkAll (y :: L) = mkLines y ++ mkAll L := by simp [mkAll]
    rw [e, List.length_append]
    rcases List.mem_cons.1 h with rfl | h
    · omega
    · have := mkAll_ge h; omega
theorem mkAll_cnt : ∀ {L : List Rg}, (∀ x ∈ L, 1 ≤ (mkLines x).length) → L.length ≤ (mkAll L).length
  | [], _ => Nat.zero_le _
  | y :: L, h => by
    have e : mkAll (y :: L) = mkLines y ++ mkAll L := by simp [mkAll]
    rw [e, List.length_append, List.length_cons]
    have h1 := h y List.mem_cons_self
    have h2 := mkAll_cnt fun x hx => h x (List.mem_cons_of_mem _ hx)
    omega
theorem nrm_le (s : ByteArray) : (nrm s).size ≤ s.size + 8 := by
  by_cases h : 0 ≤ mkN s
  · obtain ⟨k, hk, h1, _⟩ := mk_lt h
    rw [nrm_at hk h1, mks_size mks[k] (List.getElem_mem hk)]; omega
  · rw [nrm_no h]; omega
theorem map_nrm_le : ∀ (xs : List ByteArray), (textB (xs.map nrm)).size ≤ (textB xs).size + 8 * xs.length
  | [] => Nat.le_refl _
  | x :: xs => by
    have h1 := map_nrm_le xs
    have h2 := nrm_le x
    rw [textB_size, textB_size] at h1 ⊢
    simp only [List.map_cons, List.sum_cons, List.length_cons] at *
    omega
/-- How great what has been read is. -/
theorem ru_small {out : List Rg} {p l : List ByteArray} {i : Nat} (hE : mkAll out ++ p = (l.take i).map nrm) (hP : ∀ x ∈ out, plOk x) (hi : i ≤ l.length) (hl : l.length ≤ 100000) (hs : (textB l).size ≤ 10000000) :
    RgB i out ∧ SzR out ∧ out.length ≤ 100000 ∧ LnR 100000 out ∧ (textB (mkAll out)).size ≤ 100000000 := by
  have h1 : (mkAll out).length ≤ i := by
    have := congrArg List.length hE
    rw [List.length_append, List.length_map, List.length_take] at this
    omega
  have h2 : (textB (mkAll out)).size ≤ 20000000 := by
    have e := congrArg (fun q => (textB q).size) hE
    simp only [textB_append, ByteArray.size_append] at e
    have h3 := map_nrm_le (l.take i)
    have h4 : (textB (l.take i)).size ≤ (textB l).size := by
      have : l = l.take i ++ l.drop i := (List.take_append_drop i l).symm
      have := congrArg (fun q => (textB q).size) this
      simp only [textB_append, ByteArray.size_append] at this
      omega
    have h5 : (l.take i).length ≤ 100000 := by rw [List.length_take]; omega
    omega
  have hc := mkAll_cnt (L := out) fun x hx => (pl_sub (hP x hx)).2.2.2.2
  have hg : ∀ x ∈ out, (mkLines x).length ≤ i := fun x hx => Nat.le_trans (mkAll_ge hx) h1
  have hz : ∀ s ∈ mkAll out, s.size ≤ 1000000000 := fun s hs => by have := size_mem hs; omega
  refine ⟨⟨by omega, fun x hx => ?_⟩, fun x hx => ?_, by omega, fun x hx => ?_, by omega⟩
  · have := (pl_sub (hP x hx)).2.2.1
    have := hg x hx
    omega
  · obtain ⟨⟨a1, a2, a3⟩, _⟩ := pl_sub (hP x hx)
    exact ⟨fun s hs => hz s (mkAll_in hx (a1 s hs)), fun s hs => hz s (mkAll_in hx (a2 s hs)), fun s hs => hz s (mkAll_in hx (a3 s hs))⟩
  · obtain ⟨_, a1, a2, a3, _⟩ := pl_sub (hP x hx)
    have := hg x hx
    exact ⟨by omega, by omega, by omega⟩
def unmW (s : ByteArray) (R : Option (List Rg)) : List Rg × Int := match R with
  | some L => if markS L = (s, 0) then (L, 0) else ([], 3)
  | none => ([], 3)
theorem unmP_ref (s : ByteArray) : unmP s = unmW s (stG (fun _ => true) 0 cur0 [] ((lns s).drop 0)) := by
  unfold unmP
  rw [← unm_eq]
  unfold unmR unmW stR
  simp only [List.drop_zero]
  cases stG (fun _ => true) 0 cur0 [] (lns s) with
  | none => rfl
  | some L => by_cases hv : markS L = (s, 0) <;> simp [hv]
section
variable {x : ByteArray} {xs : List ByteArray} {st : Nat} {c : Cur} {out : List Rg}
theorem ru_bad {k : Nat} (h : mkN x = (k : Int)) (hk : k ≠ st) : stG (fun _ => true) st c out (x :: xs) = none := by
  rw [stG, if_pos (by omega), if_neg (by rintro ⟨h1, _⟩; omega)]
theorem ru_end (h : mkN x = (3 : Nat)) : stG (fun _ => true) 3 c out (x :: xs) = stG (fun _ => true) 0 cur0 (out ++ [(true, c)]) xs := by
  rw [stG, if_pos (by omega), if_pos ⟨h, rfl⟩, if_pos rfl]
theorem ru_next (h : mkN x = (st : Int)) (h3 : st ≠ 3) : stG (fun _ => true) st c out (x :: xs) = stG (fun _ => true) (st + 1) c out xs := by
  rw [stG, if_pos (by omega), if_pos ⟨h, rfl⟩, if_neg h3]
theorem ru_line0 (h : mkN x = -1) : stG (fun _ => true) 0 c out (x :: xs) = stG (fun _ => true) 0 c (addL out [x]) xs := by
  rw [stG, if_neg (by omega), if_pos rfl]
theorem ru_line (h : mkN x = -1) (h0 : st ≠ 0) : stG (fun _ => true) st c out (x :: xs) = stG (fun _ => true) st (addC st c x) out xs := by
  rw [stG, if_neg (by omega), if_neg h0]
end
/-- The state of the loop. -/
def RuRel (w1 : World) (gx : Nat) (l : List ByteArray) (R : Option (List Rg)) (vo vst vi : Value) (wr : World) : Prop :=
  ∃ (st i : Nat) (c : Cur) (out : List Rg) (vb vl vr : Value), vst = .int .i64 st ∧ vi = .int .i64 i ∧ i ≤ l.length ∧ RuC wr w1.heap.size gx vo vb vl vr out c ∧ Blk wr gx 58 #[.bool true, vb, vl, vr] ∧ curOk st c ∧
    (st = 0 → vb = nilS ∧ vl = nilS ∧ vr = nilS) ∧ R = stG (fun _ => true) st c out (l.drop i) ∧ mkAll out ++ parT st c = (l.take i).map nrm ∧ (∀ x ∈ out, plOk x) ∧ Below w1.heap.size w1 wr
theorem par_len {st : Nat} {c : Cur} (h : curOk st c) : c.1.length ≤ (parT st c).length ∧ c.2.1.length ≤ (parT st c).length ∧ c.2.2.length ≤ (parT st c).length := by
  obtain ⟨h0, h1, h2, h3⟩ := h
  match st, h0, h1, h2, h3 with
  | 0, _, h1, _, _ => rw [h1 rfl]; exact ⟨Nat.le_refl _, Nat.le_refl _, Nat.le_refl _⟩
  | 1, _, _, h2, _ =>
    obtain ⟨e1, e2⟩ := h2 rfl
    rw [e1, e2]; unfold parT; simp
  | 2, _, _, _, h3 => rw [h3 rfl]; unfold parT; simp; omega
  | 3, _, _, _, _ => unfold parT; simp; omega
theorem below_ad (w : World) (o : Obj) : Below w.heap.size w (w.alloc o).drew := ((Below.refl _ _).alloc (Nat.le_refl _) o).drew
set_option maxRecDepth 100000 in
set_option maxHeartbeats 4000000 in
theorem runm_any (w : World) (s : ByteArray) (hs : s.size ≤ 1000000) (hn : (lns s).length ≤ 100000) :
    Calls Try.prog 25 #[.string s] w fun e w' => ∃ v, e = .returned (.tuple #[v, .int .i64 (unmP s).2]) ∧ Rgs w' v (unmP s).1 ∧ Below w.heap.size w w' := by
  obtain ⟨i0, hi, hz0, hz1, hz2⟩ := info_parts Try.info_str
  obtain ⟨it, hi1, hy0, hy1, hy2⟩ := info_parts Try.info_reg
  have C1 := Lib.hid (rlns_any s (by omega) w)
  have HP := Lib.hid (unmP_ref s)
  have hTS : (textB (lns s)).size ≤ 1000000 := by rw [textB_lns]; exact hs
  generalize hRR : stG (fun _ => true) 0 cur0 [] ((lns s).drop 0) = R at HP
  have HR0 : Hid (R = stG (fun _ => true) 0 cur0 [] ((lns s).drop 0)) := hRR.symm
  clear hRR
  generalize lns s = l at *
  have HTS := Lib.hid hTS
  clear hTS
  go_enter Try.func25, Try.ntmps25
  go_wp2_with fail
  refine C1.out.mono ?_
  rintro e w1 ⟨va, rfl, oa, k1⟩
  clear C1
  have hx : Strs w1 va l := oa.sl
  obtain ⟨Aa, ca, rfl, a1, a2⟩ := hx.form
  have fa := far_strs hx
  clear oa hx
  have hk1 := k1.size
  have R0 := Row.made w1 (Nat.le_refl w1.heap.size)
  have bx0 := Blk.new (w1.alloc (.cells #[] 58)) #[.bool true, .slice none 0 0, .slice none 0 0, .slice none 0 0] 58
  rw [World.size_alloc] at bx0
  have hb0 : Below w1.heap.size w1 ((w1.alloc (.cells #[] 58)).alloc (.cells #[.bool true, .slice none 0 0, .slice none 0 0, .slice none 0 0] 58)) := ((Below.refl _ _).alloc (Nat.le_refl _) _).alloc (by simp) _
  have rc0 : RuC ((w1.alloc (.cells #[] 58)).alloc (.cells #[.bool true, .slice none 0 0, .slice none 0 0, .slice none 0 0] 58)) w1.heap.size (w1.heap.size + 1) (.slice (some ⟨w1.heap.size, 0, none⟩) 0 0) nilS nilS nilS [] cur0 :=
    RuC.ofRow (R0.below ((Below.refl _ _).alloc (Nat.le_refl _) _)) (by simp [Value.ownBlock]) ⟨by omega, by simp⟩
  have hrel0 : RuRel w1 (w1.heap.size + 1) l R (.slice (some ⟨w1.heap.size, 0, none⟩) 0 0) (.int .i64 0) (.int .i64 0) ((w1.alloc (.cells #[] 58)).alloc (.cells #[.bool true, .slice none 0 0, .slice none 0 0, .slice none 0 0] 58)) :=
    ⟨0, 0, cur0, [], _, _, _, rfl, rfl, by omega, rc0, bx0, curOk.zero, fun _ => ⟨rfl, rfl, rfl⟩, HR0.out, rfl, (fun _ h => by cases h), hb0⟩
  have HREL := Lib.hid hrel0
  clear hrel0 rc0 R0 bx0 HR0
  go_wp2_with fail
  generalize (w1.alloc (.cells #[] 58)).alloc (.cells #[.bool true, .slice none 0 0, .slice none 0 0, .slice none 0 0] 58) = w2 at *
  go_loopw [5, 7, 8] (fun vo vst vi wr => RuRel w1 (w1.heap.size + 1) l R vo vst vi wr) (fun _ _ vi _ => l.length - (intOf vi).toNat)
  case atStart => exact HREL.out
  case round =>
    clear HREL hb0
    obtain ⟨st, i, c, out, vb, vl, vr, rfl, rfl, hi', hst, hbx, hcu, hnil, hR, hE, hP, hb⟩ := hrel
    have hbs := hb.size
    have hgx := hst.hx
    have hst3 := hcu.1
    have hsm := ru_small hE hP hi' hn (by have := HTS.out; omega)
    have HSM := Lib.hid hsm
    have HCU := Lib.hid hcu
    have HNIL := Lib.hid hnil
    have HR := Lib.hid hR
    have HE := Lib.hid hE
    have HPL := Lib.hid hP
    clear hsm hcu hnil hR hE hP
    obtain ⟨Av, cv, rfl, _, _⟩ := hst.toRow.form
    obtain ⟨Al, cl, rfl, _, _⟩ := Sl.form hst.r3.o0.sl
    obtain ⟨Ab, cb, rfl, _, _⟩ := Sl.form hst.r3.o1.sl
    obtain ⟨Ar, cr, rfl, _, _⟩ := Sl.form hst.r3.o2.sl
    have fa := fa.below hb
    have hbw := k1.trans (hb.mono hk1)
    by_cases hlt : i < l.length
    · obtain ⟨b, off, rfl, x1⟩ := Strs.get fa.now hlt
      have hdr : l.drop i = l[i] :: l.drop (i + 1) := List.drop_eq_getElem_cons hlt
      have htk : (l.take (i + 1)).map nrm = (l.take i).map nrm ++ [nrm l[i]] := by rw [List.take_succ_eq_append_getElem hlt, List.map_append]; rfl
      have hone : (l.drop i).take 1 = [l[i]] := by rw [hdr]; rfl
      rw [hdr] at HR
      obtain ⟨A2, d2, hs2, g2⟩ := run_at_both' (P := Try.prog) (R := Str1) 36 9 i0 Try.underlying36 hi hz1 (A := some ⟨b, off, none⟩) (n := l.length) (c := ca) a1 .i64 .i64 i (i + 1) (by omega) (by omega)
      rw [show ((i + 1 : Nat) : Int) = (i : Int) + 1 from rfl] at hs2
      rw [show i + 1 - i = 1 by omega] at hs2 g2
      have CM := Lib.hid (fun w' => rmarker_any w' l[i])
      have HTK := Lib.hid htk
      have G2 : Hid (∀ w', Strs w' (.slice (some ⟨b, off, none⟩) l.length ca) l → Strs w' (.slice A2 1 d2) [l[i]]) := fun w' h => by
        have := g2 w' l h
        rw [hone] at this
        exact this
      clear g2 hdr hone htk
      generalize l[i] = x at *
      -- the call of marker
      rcases mk_cases x with hm | ⟨k, hk, hm, _⟩
      · rw [hm] at CM
        have HM := Lib.hid hm
        have hnr : Hid (nrm x = x) := nrm_no (by omega)
        clear hm
        go_wp2_with fail
        refine (CM.out _).mono ?_
        rintro e w5 ⟨rfl, b5⟩
        have hst := hst.keep b5
        have hbx := hbx.keep b5
        have hb := hb.trans (b5.mono hb.size)
        have fa := fa.below (b5.mono hbs)
        have x1 := cell_later b5 x1
        have hbs := hb.size
        have hgx := hst.hx
        clear CM b5
        obtain ⟨y0, y1, y2, y3, z0, z1, z2, z3⟩ := blk4 hbx
        rcases (by omega : st = 0 ∨ st = 1 ∨ st = 2 ∨ st = 3) with e0 | e0 | e0 | e0
        · have e1 : ((st : Int) == 0) = true := by rw [beq_iff_eq]; omega
          obtain ⟨n1, n2, n3⟩ := HNIL.out e0
          have HS0 := Lib.hid e0
          have hc0 := HCU.out.2.1 e0
          have HR2 : Hid (R = stG (fun _ => true) 0 cur0 (addL out [x]) (l.drop (i + 1))) := by
            have := HR.out
            rw [e0, hc0] at this
            exact this.trans (ru_line0 HM.out)
          have HE2 : Hid (mkAll (addL out [x]) ++ parT 0 cur0 = (l.take (i + 1)).map nrm) := by
            show _ = _
            rw [HTK.out, ← HE.out, mkAll_addL, hnr.out, e0]
            simp [parT]
          have HPL2 := Lib.hid (pl_addL (ls := [x]) HPL.out (by simp))
          have hrow := hst.toRow
          have CA := Lib.hid (agreed_any w5 w1.heap.size _ _ out [x] hrow hbs (G2.out w5 fa.now) HSM.out.1 (by have := hi'; omega) (by show 1 ≤ _; omega))
          have NX := Lib.hid hst.nx
          have HBX := Lib.hid hbx
          clear e0 HR HE HCU HNIL hst HSM hnr HTK HM G2 fa hbx hrow hc0 HPL
          go_wp2_with fail
          refine CA.out.mono ?_
          rintro e w6 ⟨v6, rfl, r6, b6, ag6, mv6⟩
          have hb6 := hb.trans b6
          have bx6 : Blk w6 (w1.heap.size + 1) 58 _ := (ag6.block _ hgx.2 NX.out).trans HBX.out
          have nx6 : v6.ownBlock ≠ some (w1.heap.size + 1) := fun h => NX.out (mv6.old hgx.2 h)
          have rc := RuC.ofRow (gx := w1.heap.size + 1) r6 nx6 ⟨hgx.1, bx6.lt⟩
          obtain ⟨n1', n2', n3'⟩ : (Value.slice Ab c.1.length cb = nilS) ∧ (Value.slice Al c.2.1.length cl = nilS) ∧ (Value.slice Ar c.2.2.length cr = nilS) := ⟨n1, n2, n3⟩
          rw [n1', n2', n3'] at bx6
          have HBX6 := Lib.hid bx6
          clear n1 n2 n3 n1' n2' n3' bx6 CA hs2 NX HBX y0 y1 y2 y3 z0 z1 z2 z3
          go_wp2
          go_roundw
          case rel => exact ⟨0, i + 1, cur0, _, nilS, nilS, nilS, by rw [HS0.out], by go_num, by omega, rc, HBX6.out, curOk.zero, fun _ => ⟨rfl, rfl, rfl⟩, HR2.out, HE2.out, HPL2.out, hb6⟩
          case measure => simp [intOf]; omega
        · have e1 : ((st : Int) == 0) = false := by rw [beq_eq_false_iff_ne]; omega
          have e2 : ((st : Int) == 1) = true := by rw [beq_iff_eq]; omega
          have HS0 := Lib.hid e0
          have HR2 : Hid (R = stG (fun _ => true) st (addC st c x) out (l.drop (i + 1))) := HR.out.trans (ru_line HM.out (by omega))
          have HE2 : Hid (mkAll out ++ parT st (addC st c x) = (l.take (i + 1)).map nrm) := by show _ = _; rw [HTK.out, ← HE.out, parT_add HCU.out (by omega), hnr.out, List.append_assoc]
          have HCU2 := Lib.hid (HCU.out.add (x := x) (by omega))
          obtain ⟨cells, hown, hel⟩ := hst.r3.o0
          have hvo := Lib.hid (Lib.ownBlock_ne hown hbx (by decide))
          have hlp : c.2.1.length ≤ 200000 := by have := par_len HCU.out; have h1 := congrArg List.length HE.out; rw [List.length_append, List.length_map, List.length_take] at h1; omega
          have HST := Lib.hid (hst.keep (below_ad w5 (.cells #[.string x] 9)))
          have HOW := Lib.hid ((hown.alloc (.cells #[.string x] 9)).drew)
          have HEL := Lib.hid hel
          have HBX := Lib.hid hbx
          have HB := Lib.hid hb
          clear e0 HR HE HCU HNIL hel hst HSM hnr HTK HM G2 hs2 fa hbx hb hbw
          go_wp2
          go_region_law ((refine step_append_any _ rfl _ _ _ rfl w1.heap.size 9 i0 _ 1 16 Try.underlying36 hi hz0 hz1 hz2 rfl (by omega) (.slice Al c.2.1.length cl) c.2.1.length cells rfl (World.ownsRow.drew (World.ownsRow.alloc hown _)) _ 1 1 [.string x] rfl rfl (CellsAt.of_new _ _ _ _) (by simp [Value.oneCell']) (by omega) (by omega) (by simp; omega) ?_; intro v' w6 hown2 hgr hat; obtain ⟨A', c', rfl⟩ := own_form hown2; obtain ⟨p0, p1, p2, p3, q0, q1, q2, q3⟩ := blk4 ((HBX.out.alloc _).drew.grown hgr (fun e => hvo.out e.symm))))
          all_goals
            go_wp2
            go_roundw
            case rel =>
              have bx6 := (HBX.out.alloc (.cells #[.string x] 9)).drew.grown hgr (fun e => hvo.out e.symm)
              have rc := RuC.set (RuC.left HST.out HEL.out HOW.out hgr hown2 hat) bx6 ns_box 2 (.slice A' (c.2.1.length + 1) c')
              have hb6 := ((((HB.out).alloc hbs (.cells #[.string x] 9)).drew).grown hgr (by simp; omega) (fun k hk => (hown.lt k hk).1)).setCell (p := ⟨w1.heap.size + 1, 2, none⟩) (by simp) (.slice A' (c.2.1.length + 1) c')
              exact ⟨st, i + 1, addC st c x, out, _, _, _, rfl, by go_num, by omega, by rw [HS0.out]; exact rc, bx6.set 2 (.slice A' (c.2.1.length + 1) c'), HCU2.out, (fun h => by have := HS0.out; omega), HR2.out, HE2.out, HPL.out, hb6⟩
            case measure => simp [intOf]; omega
        · have e1 : ((st : Int) == 0) = false := by rw [beq_eq_false_iff_ne]; omega
          have e2 : ((st : Int) == 1) = false := by rw [beq_eq_false_iff_ne]; omega
          have e3 : ((st : Int) == 2) = true := by rw [beq_iff_eq]; omega
          have HS0 := Lib.hid e0
          have HR2 : Hid (R = stG (fun _ => true) st (addC st c x) out (l.drop (i + 1))) := HR.out.trans (ru_line HM.out (by omega))
          have HE2 : Hid (mkAll out ++ parT st (addC st c x) = (l.take (i + 1)).map nrm) := by show _ = _; rw [HTK.out, ← HE.out, parT_add HCU.out (by omega), hnr.out, List.append_assoc]
          have HCU2 := Lib.hid (HCU.out.add (x := x) (by omega))
          obtain ⟨cells, hown, hel⟩ := hst.r3.o1
          have hvo := Lib.hid (Lib.ownBlock_ne hown hbx (by decide))
          have hlp : c.1.length ≤ 200000 := by have := par_len HCU.out; have h1 := congrArg List.length HE.out; rw [List.length_append, List.length_map, List.length_take] at h1; omega
          have HST := Lib.hid (hst.keep (below_ad w5 (.cells #[.string x] 9)))
          have HOW := Lib.hid ((hown.alloc (.cells #[.string x] 9)).drew)
          have HEL := Lib.hid hel
          have HBX := Lib.hid hbx
          have HB := Lib.hid hb
          clear e0 HR HE HCU HNIL hel hst HSM hnr HTK HM G2 hs2 fa hbx hb hbw
          go_wp2
          go_region_law ((refine step_append_any _ rfl _ _ _ rfl w1.heap.size 9 i0 _ 1 16 Try.underlying36 hi hz0 hz1 hz2 rfl (by omega) (.slice Ab c.1.length cb) c.1.length cells rfl (World.ownsRow.drew (World.ownsRow.alloc hown _)) _ 1 1 [.string x] rfl rfl (CellsAt.of_new _ _ _ _) (by simp [Value.oneCell']) (by omega) (by omega) (by simp; omega) ?_; intro v' w6 hown2 hgr hat; obtain ⟨A', c', rfl⟩ := own_form hown2; obtain ⟨p0, p1, p2, p3, q0, q1, q2, q3⟩ := blk4 ((HBX.out.alloc _).drew.grown hgr (fun e => hvo.out e.symm))))
          all_goals
            go_wp2
            go_roundw
            case rel =>
              have bx6 := (HBX.out.alloc (.cells #[.string x] 9)).drew.grown hgr (fun e => hvo.out e.symm)
              have rc := RuC.set (RuC.base HST.out HEL.out HOW.out hgr hown2 hat) bx6 ns_box 1 (.slice A' (c.1.length + 1) c')
              have hb6 := ((((HB.out).alloc hbs (.cells #[.string x] 9)).drew).grown hgr (by simp; omega) (fun k hk => (hown.lt k hk).1)).setCell (p := ⟨w1.heap.size + 1, 1, none⟩) (by simp) (.slice A' (c.1.length + 1) c')
              exact ⟨st, i + 1, addC st c x, out, _, _, _, rfl, by go_num, by omega, by rw [HS0.out]; exact rc, bx6.set 1 (.slice A' (c.1.length + 1) c'), HCU2.out, (fun h => by have := HS0.out; omega), HR2.out, HE2.out, HPL.out, hb6⟩
            case measure => simp [intOf]; omega
        · have e1 : ((st : Int) == 0) = false := by rw [beq_eq_false_iff_ne]; omega
          have e2 : ((st : Int) == 1) = false := by rw [beq_eq_false_iff_ne]; omega
          have e3 : ((st : Int) == 2) = false := by rw [beq_eq_false_iff_ne]; omega
          have HS0 := Lib.hid e0
          have HR2 : Hid (R = stG (fun _ => true) st (addC st c x) out (l.drop (i + 1))) := HR.out.trans (ru_line HM.out (by omega))
          have HE2 : Hid (mkAll out ++ parT st (addC st c x) = (l.take (i + 1)).map nrm) := by show _ = _; rw [HTK.out, ← HE.out, parT_add HCU.out (by omega), hnr.out, List.append_assoc]
          have HCU2 := Lib.hid (HCU.out.add (x := x) (by omega))
          obtain ⟨cells, hown, hel⟩ := hst.r3.o2
          have hvo := Lib.hid (Lib.ownBlock_ne hown hbx (by decide))
          have hlp : c.2.2.length ≤ 200000 := by have := par_len HCU.out; have h1 := congrArg List.length HE.out; rw [List.length_append, List.length_map, List.length_take] at h1; omega
          have HST := Lib.hid (hst.keep (below_ad w5 (.cells #[.string x] 9)))
          have HOW := Lib.hid ((hown.alloc (.cells #[.string x] 9)).drew)
          have HEL := Lib.hid hel
          have HBX := Lib.hid hbx
          have HB := Lib.hid hb
          clear e0 HR HE HCU HNIL hel hst HSM hnr HTK HM G2 hs2 fa hbx hb hbw
          go_wp2
          go_region_law ((refine step_append_any _ rfl _ _ _ rfl w1.heap.size 9 i0 _ 1 16 Try.underlying36 hi hz0 hz1 hz2 rfl (by omega) (.slice Ar c.2.2.length cr) c.2.2.length cells rfl (World.ownsRow.drew (World.ownsRow.alloc hown _)) _ 1 1 [.string x] rfl rfl (CellsAt.of_new _ _ _ _) (by simp [Value.oneCell']) (by omega) (by omega) (by simp; omega) ?_; intro v' w6 hown2 hgr hat; obtain ⟨A', c', rfl⟩ := own_form hown2; obtain ⟨p0, p1, p2, p3, q0, q1, q2, q3⟩ := blk4 ((HBX.out.alloc _).drew.grown hgr (fun e => hvo.out e.symm))))
          all_goals
            go_wp2
            go_roundw
            case rel =>
              have bx6 := (HBX.out.alloc (.cells #[.string x] 9)).drew.grown hgr (fun e => hvo.out e.symm)
              have rc := RuC.set (RuC.right HST.out HEL.out HOW.out hgr hown2 hat) bx6 ns_box 3 (.slice A' (c.2.2.length + 1) c')
              have hb6 := ((((HB.out).alloc hbs (.cells #[.string x] 9)).drew).grown hgr (by simp; omega) (fun k hk => (hown.lt k hk).1)).setCell (p := ⟨w1.heap.size + 1, 3, none⟩) (by simp) (.slice A' (c.2.2.length + 1) c')
              exact ⟨st, i + 1, addC st c x, out, _, _, _, rfl, by go_num, by omega, by rw [HS0.out]; exact rc, bx6.set 3 (.slice A' (c.2.2.length + 1) c'), HCU2.out, (fun h => by have := HS0.out; omega), HR2.out, HE2.out, HPL.out, hb6⟩
            case measure => simp [intOf]; omega
      · have hk4 : k < 4 := hk
        rw [hm] at CM
        have HM := Lib.hid hm
        have HNR := Lib.hid (nrm_at hk hm)
        clear hm
        by_cases hks : k = st
        · have hne : ((k : Int) != (st : Int)) = false := by rw [bne_eq_false_iff_eq]; omega
          by_cases h3 : st = 3
          · have e1 : ((k : Int) == 3) = true := by rw [beq_iff_eq]; omega
            have HR2 : Hid (R = stG (fun _ => true) 0 cur0 (out ++ [(true, c)]) (l.drop (i + 1))) := by
              have h1 := HR.out
              rw [h3] at h1
              exact h1.trans (ru_end (by have := HM.out; rw [hks, h3] at this; exact this))
            have HE2 : Hid (mkAll (out ++ [(true, c)]) ++ parT 0 cur0 = (l.take (i + 1)).map nrm) := by
              have hk3 : nrm x = mk3 := by
                have h1 := HNR.out
                have : k = 3 := by omega
                subst this
                exact h1
              show _ = _
              rw [HTK.out, ← HE.out, mkAll_snoc, hk3, h3, ← parT_end]
              show mkAll out ++ (parT 3 c ++ [mk3]) ++ [] = _
              rw [List.append_nil, List.append_assoc]
            have HPL2 := Lib.hid (pl_conf (c := c) HPL.out)
            clear hks h3 HM HNR HE HR HTK HCU HNIL G2 hs2
            go_wp2_with fail
            refine (CM.out _).mono ?_
            rintro e w5 ⟨rfl, b5⟩
            have hst := hst.keep b5
            have hbx := hbx.keep b5
            have hb := hb.trans (b5.mono hb.size)
            have hbs := hb.size
            have hgx := hst.hx
            clear CM b5
            obtain ⟨y0, y1, y2, y3, z0, z1, z2, z3⟩ := blk4 hbx
            obtain ⟨cells, hown, hstb⟩ := hst.toRow
            have hlo := HSM.out.1.1
            have key : ∀ ob w2 v2, (w5.alloc ob).grownBy w2 (Value.slice Av out.length cv).ownBlock →
                w2.ownsRow w1.heap.size 58 4 v2 (out.length + 1) (cells ++ [.bool true, .slice Ab c.1.length cb, .slice Al c.2.1.length cl, .slice Ar c.2.2.length cr]) →
                (v2.ownBlock = (Value.slice Av out.length cv).ownBlock ∨ v2.ownBlock = some (w5.alloc ob).heap.size) →
                Row w2 w1.heap.size v2 (out ++ [(true, c)]) ∧ Below w1.heap.size w5 w2 ∧ Blk w2 (w1.heap.size + 1) 58 #[.bool true, .slice Ab c.1.length cb, .slice Al c.2.1.length cl, .slice Ar c.2.2.length cr] ∧ v2.ownBlock ≠ some (w1.heap.size + 1) := fun ob w2 v2 k1 k2 k3 => by
              have sk : ∀ {u : Value} {xs : List ByteArray}, Ow w5 w1.heap.size 9 1 Str1 u xs → Stab w5 (OwnOf (Value.slice Av out.length cv)) fun w' => Strs w' u xs := fun h => by
                obtain ⟨vs, o1, o2⟩ := id h
                exact (h.stab (M := OwnOf (Value.slice Av out.length cv)) (own_own_ne o1 hown (by decide))).imp fun _ h => h.sl
              obtain ⟨m1, m2, m3, m4⟩ := row_end hstb hown hbs (Below.refl _ _) (reg_stab (c := true) (sk hst.r3.o1) (sk hst.r3.o0) (sk hst.r3.o2)) k1 k2 k3
              exact ⟨m1, m2, (hbx.alloc ob).grown k1 (fun e => hst.nx e.symm), fun h => hst.nx (m4.old hgx.2 h)⟩
            have KEY := Lib.hid key
            have HSTN := Lib.hid hst.nx
            have HBX := Lib.hid hbx
            clear key hstb hst HSM hbx hbw fa
            go_wp2_with (at_builtin; go_must (refine wpList_append_any _ rfl (.tmp 47) (.tmp 49) _ rfl w1.heap.size 58 it _ 4 80 Try.underlying24 hi1 hy0 hy1 hy2 rfl (by omega) (.slice Av out.length cv) out.length cells rfl (hown.alloc _) _ 1 1 [.bool true, .slice Ab c.1.length cb, .slice Al c.2.1.length cl, .slice Ar c.2.2.length cr] rfl rfl (CellsAt.of_new _ _ _ _) (by simp [Value.oneCell']) (by omega) (by omega) (by simp; omega) ?_)
                         intro v6 w6 ho6 hg6 ha6
                         obtain ⟨A6, c6, rfl⟩ := own_form ho6
                         obtain ⟨p0, p1, p2, p3, q0, q1, q2, q3⟩ := blk4 ((HBX.out.alloc _).grown hg6 (fun e => HSTN.out e.symm)))
            obtain ⟨r6, b6, bx6, nx6⟩ := KEY.out _ _ _ hg6 ho6 ha6
            have rc := RuC.ofRow (gx := w1.heap.size + 1) r6 nx6 ⟨hgx.1, bx6.lt⟩
            have rc1 := RuC.set rc bx6 ns_box 0 (.bool true)
            have bx7 := bx6.set 0 (.bool true)
            have rc2 := RuC.set rc1 bx7 ns_box 1 (.slice none 0 0)
            have bx8 := bx7.set 1 (.slice none 0 0)
            have rc3 := RuC.set rc2 bx8 ns_box 2 (.slice none 0 0)
            have bx9 := bx8.set 2 (.slice none 0 0)
            have rc4 := RuC.set rc3 bx9 ns_box 3 (.slice none 0 0)
            have bxa := bx9.set 3 (.slice none 0 0)
            have hb6 := (((((hb.trans b6).setCell (p := ⟨w1.heap.size + 1, 0, none⟩) (by simp) (.bool true)).setCell (p := ⟨w1.heap.size + 1, 1, none⟩) (by simp) (.slice none 0 0)).setCell (p := ⟨w1.heap.size + 1, 2, none⟩) (by simp) (.slice none 0 0)).setCell (p := ⟨w1.heap.size + 1, 3, none⟩) (by simp) (.slice none 0 0))
            clear rc rc1 rc2 rc3 bx6 bx7 bx8 bx9 KEY HSTN HBX y0 y1 y2 y3 z0 z1 z2 z3 p0 p1 p2 p3 q0 q1 q2 q3 hown ho6 hg6 ha6 r6 b6 nx6 x1
            go_wp2
            go_roundw
            case rel => exact ⟨0, i + 1, cur0, _, nilS, nilS, nilS, rfl, by go_num, by omega, rc4, bxa, curOk.zero, fun _ => ⟨rfl, rfl, rfl⟩, HR2.out, HE2.out, HPL2.out, hb6⟩
            case measure => simp [intOf]; omega
          · have e1 : ((k : Int) == 3) = false := by rw [beq_eq_false_iff_ne]; omega
            have HR2 : Hid (R = stG (fun _ => true) (st + 1) c out (l.drop (i + 1))) := HR.out.trans (ru_next (by have := HM.out; rw [hks] at this; exact this) h3)
            have HE2 : Hid (mkAll out ++ parT (st + 1) c = (l.take (i + 1)).map nrm) := by
              show _ = _
              subst hks
              rw [HTK.out, ← HE.out, parT_step HCU.out h3 hk HNR.out, List.append_assoc]
            have HCU2 := Lib.hid (HCU.out.step h3)
            have hk1' : ((k : Int) + 1) = ((st + 1 : Nat) : Int) := by omega
            have HK1 := Lib.hid hk1'
            have hk3 : k < 3 := by omega
            clear hks h3 HM HNR HE HR HTK HCU G2 hs2 hk1'
            go_wp2_with fail
            refine (CM.out _).mono ?_
            rintro e w5 ⟨rfl, b5⟩
            have hst := hst.keep b5
            have hbx := hbx.keep b5
            have hb := hb.trans (b5.mono hb.size)
            clear CM b5
            go_wp2
            go_roundw
            case rel => exact ⟨st + 1, i + 1, c, out, _, _, _, by rw [HK1.out], by go_num, by omega, hst, hbx, HCU2.out, (fun h => by omega), HR2.out, HE2.out, HPL.out, hb⟩
            case measure => simp [intOf]; omega
        · have hne : ((k : Int) != (st : Int)) = true := by simp; omega
          have HF : Hid (unmP s = ([], 3)) := by show _ = _; rw [HP.out, HR.out, ru_bad HM.out hks]; rfl
          clear HR hks HM
          go_wp2_with fail
          refine (CM.out _).mono ?_
          rintro e w5 ⟨rfl, b5⟩
          have hbw := hbw.trans (b5.mono hbw.size)
          go_wp2
          go_ret2
          exact ret_se HF.out (Row.made _ (Nat.le_refl _)).rgs (hbw.alloc hbw.size _)
    · obtain ⟨m1, m2, m3, m4, m5⟩ := HSM.out
      have hrow := hst.toRow
      have CK := Lib.hid (rmark_any wr _ out hrow.rgs m2 m3 m4 m5)
      have hrg := hrow.rgs
      have hR2 : R = if st = 0 then some out else none := by
        have := HR.out
        rw [List.drop_of_length_le (by omega), stG] at this
        exact this
      clear HSM HCU HNIL HR HE HPL m1 m2 m3 m4 m5 hrow hst hbx fa
      obtain ⟨ms, hms⟩ : ∃ ms, markS out = ms := ⟨_, rfl⟩
      rw [hms] at CK
      have HQ : Hid (st = 0 → unmP s = if ms = (s, 0) then (out, 0) else ([], 3)) := fun h0 => by
        rw [HP.out, hR2, if_pos h0, ← hms]; rfl
      have HQ0 : Hid (¬ st = 0 → unmP s = ([], 3)) := fun h0 => by rw [HP.out, hR2, if_neg h0]; rfl
      clear hR2 hms HP
      obtain ⟨mt, me⟩ := ms
      go_wp2_with fail
      refine CK.out.mono ?_
      rintro e w5 ⟨rfl, b5⟩
      have hbw := hbw.trans (b5.mono hbw.size)
      have hrg := hrg.keep (Keeps.of_below b5)
      clear CK b5
      by_cases h0 : st = 0
      · have e0 : ((st : Int) != 0) = false := by rw [bne_eq_false_iff_eq]; omega
        have HQ1 := Lib.hid (HQ.out h0)
        clear HQ HQ0 h0
        by_cases h1 : me = 0
        · have e1 : (me != 0) = false := by rw [bne_eq_false_iff_eq]; exact h1
          by_cases h2 : mt = s
          · have HF : Hid (unmP s = (out, 0)) := by show _ = _; rw [HQ1.out, if_pos (by rw [h1, h2])]
            subst h1 h2
            clear HQ1
            go_wp2
            go_ret2
            exact ret_se HF.out hrg hbw
          · have e2 := str_ne h2
            have HF : Hid (unmP s = ([], 3)) := by show _ = _; rw [HQ1.out, if_neg (fun e => h2 (congrArg Prod.fst e))]
            clear HQ1 h2 h1
            go_wp2
            go_ret2
            exact ret_se HF.out (Row.made _ (Nat.le_refl _)).rgs (hbw.alloc hbw.size _)
        · have e1 : (me != 0) = true := by simp [h1]
          have HF : Hid (unmP s = ([], 3)) := by show _ = _; rw [HQ1.out, if_neg (fun e => h1 (congrArg Prod.snd e))]
          clear HQ1 h1
          go_wp2
          go_ret2
          exact ret_se HF.out (Row.made _ (Nat.le_refl _)).rgs (hbw.alloc hbw.size _)
      · have e0 : ((st : Int) != 0) = true := by simp; omega
        have HF := Lib.hid (HQ0.out h0)
        clear HQ HQ0 h0
        go_wp2
        go_ret2
        exact ret_se HF.out (Row.made _ (Nat.le_refl _)).rgs (hbw.alloc hbw.size _)
end Go.Proofs.Ythobbcafemkhbaa
