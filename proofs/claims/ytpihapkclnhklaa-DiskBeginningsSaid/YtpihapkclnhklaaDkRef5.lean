/- cordwoodref05.Write. -/
import Derived.Test.YtpihapkclnhklaaDkRef4
namespace Go.Proofs.Ytpihapkclnhklaa
open Go.RowKit

/-- The cells of pending writes. -/
def wrCells : List (Int × ByteArray) → List Value
  | [] => []
  | x :: l => .int .i64 x.1 :: .string x.2 :: wrCells l
theorem wrCells_length : ∀ l, (wrCells l).length = l.length * 2
  | [] => rfl
  | x :: l => by simp [wrCells, wrCells_length l]; omega
theorem wrCells_append : ∀ a b, wrCells (a ++ b) = wrCells a ++ wrCells b
  | [], _ => rfl
  | x :: a, b => by simp [wrCells, wrCells_append a b]
theorem wrCells_one : ∀ l, ∀ u ∈ wrCells l, u.oneCell' = true
  | [], u, h => by cases h
  | x :: l, u, h => by
    rcases List.mem_cons.1 h with rfl | h
    · rfl
    · rcases List.mem_cons.1 h with rfl | h
      · rfl
      · exact wrCells_one l u h
theorem elems_wr : ∀ l : List (Int × ByteArray), (∀ x ∈ l, -9223372036854775808 ≤ x.1 ∧ x.1 ≤ 9223372036854775807) → Elems 2 WrR l (wrCells l)
  | [], _ => rfl
  | x :: l, h => ⟨[.int .i64 x.1, .string x.2], _, rfl, rfl, ⟨rfl, (h x List.mem_cons_self).1, (h x List.mem_cons_self).2⟩, elems_wr l fun y hy => h y (List.mem_cons_of_mem _ hy)⟩
theorem wr_elems : ∀ {l : List (Int × ByteArray)} {vs : List Value}, Elems 2 WrR l vs → vs = wrCells l ∧ ∀ x ∈ l, -9223372036854775808 ≤ x.1 ∧ x.1 ≤ 9223372036854775807
  | [], vs, h => ⟨h, fun _ h => by cases h⟩
  | x :: l, vs, ⟨us, vs', e, _, ⟨e2, h1, h2⟩, ht⟩ => by
    obtain ⟨r1, r2⟩ := wr_elems ht
    subst e e2 r1
    exact ⟨rfl, fun y hy => by rcases List.mem_cons.1 hy with rfl | hy; exact ⟨h1, h2⟩; exact r2 y hy⟩
theorem wrs_cells {w : World} {A : Option Addr} {n c : Nat} {l : List (Int × ByteArray)} (h : Wrs w (.slice A n c) l) : CellsAt w A (wrCells l) ∧ ∀ x ∈ l, -9223372036854775808 ≤ x.1 ∧ x.1 ≤ 9223372036854775807 := by
  obtain ⟨A', c', vs, e, h1, h2, h3, h4⟩ := h
  cases e
  obtain ⟨rfl, r⟩ := wr_elems h4
  exact ⟨h3, r⟩
/-- A row of pending writes that the call owns. -/
def OwW (w : World) (base : Nat) (v : Value) (l : List (Int × ByteArray)) : Prop := w.ownsRow base 45 2 v l.length (wrCells l)
section
variable {w w' : World} {base : Nat} {v : Value} {l : List (Int × ByteArray)}
theorem OwW.wrs (h : OwW w base v l) (hr : ∀ x ∈ l, -9223372036854775808 ≤ x.1 ∧ x.1 ≤ 9223372036854775807) : Wrs w v l := Ow.sl (e := 45) (base := base) ⟨_, h, elems_wr l hr⟩
theorem OwW.far (h : OwW w base v l) {p : Addr} (hp : p.block < base) (u : Value) : OwW (w.setCell p u) base v l :=
  (own_stab (M := fun g => g = p.block) h (fun g hg e => by have := (World.ownsRow.lt h g hg); omega)) _ (Agree.setCell (M := fun g => g = p.block) w rfl u)
theorem OwW.keep (h : OwW w base v l) (hb : Below w.heap.size w w') : OwW w' base v l := (own_stab (M := fun _ => False) h (fun _ _ h => h)) _ (Agree.of_below hb _)
end

theorem wr_bad {d : Dk} {i : Int} {s : ByteArray} (h : chk d ≠ 0) : wrE d i s = 1 ∧ wrD d i s = noDisk := by
  have e : wrE d i s = 1 := by unfold wrE; rw [if_pos h]
  exact ⟨e, by unfold wrD; rw [e, if_neg (by decide), if_neg (by decide)]⟩
theorem wr_out {d : Dk} {i : Int} {s : ByteArray} (h : chk d = 0) (h2 : i < 0 ∨ (d.secs.length : Int) ≤ i) : wrE d i s = 2 ∧ wrD d i s = noDisk := by
  have e : wrE d i s = 2 := by unfold wrE; rw [if_neg (by simp [h]), if_pos h2]
  exact ⟨e, by unfold wrD; rw [e, if_neg (by decide), if_neg (by decide)]⟩
theorem wr_mis {d : Dk} {i : Int} {s : ByteArray} (h : chk d = 0) (h2 : ¬ (i < 0 ∨ (d.secs.length : Int) ≤ i)) (h3 : ¬ (s.size : Int) = d.size) : wrE d i s = 11 ∧ wrD d i s = noDisk := by
  have e : wrE d i s = 11 := by unfold wrE; rw [if_neg (by simp [h]), if_neg h2, if_pos h3]
  exact ⟨e, by unfold wrD; rw [e, if_neg (by decide), if_neg (by decide)]⟩
theorem wr_lost {d : Dk} {i : Int} {s : ByteArray} (h : chk d = 0) (h2 : ¬ (i < 0 ∨ (d.secs.length : Int) ≤ i)) (h3 : (s.size : Int) = d.size) (h4 : d.left = 0) : wrE d i s = 20 ∧ wrD d i s = d := by
  have e : wrE d i s = 20 := by unfold wrE; rw [if_neg (by simp [h]), if_neg h2, if_neg (by simp [h3]), if_pos h4]
  exact ⟨e, by unfold wrD; rw [e, if_neg (by decide), if_pos rfl]⟩
theorem wr_ok {d : Dk} {i : Int} {s : ByteArray} (h : chk d = 0) (h2 : ¬ (i < 0 ∨ (d.secs.length : Int) ≤ i)) (h3 : (s.size : Int) = d.size) (h4 : ¬ d.left = 0) :
    wrE d i s = 0 ∧ wrD d i s = { d with pend := d.pend ++ [(i, s)], left := lessZ d.left } := by
  have e : wrE d i s = 0 := by unfold wrE; rw [if_neg (by simp [h]), if_neg h2, if_neg (by simp [h3]), if_neg h4]
  exact ⟨e, by unfold wrD; rw [e, if_pos rfl]⟩

set_option maxRecDepth 100000 in
set_option maxHeartbeats 4000000 in
theorem rwrite_any (W : World) (vs vp : Value) (d : Dk) (h : DskP W vs vp d) (hn : d.pend.length ≤ 100000) (i : Int) (hi0 : -9223372036854775808 ≤ i) (hi1 : i ≤ 9223372036854775807) (s : ByteArray) :
    Calls Try.prog 21 #[.agg #[.int .i64 d.size, vs, vp, .int .i64 d.left], .int .i64 i, .string s] W (DkPost W (wrD d i s) (wrE d i s)) := by
  obtain ⟨i1, hi1', hy0, hy1, hy2⟩ := info_parts Try.info_wr
  obtain ⟨A, c, rfl, hc, hm⟩ := h.sec.form
  obtain ⟨P, cp, rfl, hcp, hmp⟩ := h.pen.form
  have hbk0 := Blk.new W #[.int .i64 d.size, .slice A d.secs.length c, .slice P d.pend.length cp, .int .i64 d.left] 26
  have hbk := hbk0.alloc (.cells #[.int .i64 0, .slice none 0 0, .slice none 0 0, .int .i64 0] 26)
  have hbr := Blk.new (W.alloc (.cells #[.int .i64 d.size, .slice A d.secs.length c, .slice P d.pend.length cp, .int .i64 d.left] 26)) #[.int .i64 0, .slice none 0 0, .slice none 0 0, .int .i64 0] 26
  rw [World.size_alloc] at hbr
  have hd1 := ((Below.refl W.heap.size W).alloc (Nat.le_refl _) (.cells #[.int .i64 d.size, .slice A d.secs.length c, .slice P d.pend.length cp, .int .i64 d.left] 26)).alloc (by simp) (.cells #[.int .i64 0, .slice none 0 0, .slice none 0 0, .int .i64 0] 26)
  have hD1 := h.keep (Keeps.of_below hd1)
  clear hbk0
  go_enter Try.func21, Try.ntmps21
  go_upto_region 1 with (fail)
  generalize (W.alloc (.cells #[.int .i64 d.size, .slice A d.secs.length c, .slice P d.pend.length cp, .int .i64 d.left] 26)).alloc (.cells #[.int .i64 0, .slice none 0 0, .slice none 0 0, .int .i64 0] 26) = w1 at *
  have q0 := hbk.cell (j := 0) rfl
  have q1 := hbk.cell (j := 1) rfl
  have q2 := hbk.cell (j := 2) rfl
  have q3 := hbk.cell (j := 3) rfl
  have c1 := rcheck_any _ _ _ d hD1
  go_wp2_with fail
  refine c1.mono ?_
  clear c1 q0 q1 q2 q3
  rintro e w2 ⟨rfl, hb2⟩
  have hd2 := hd1.trans (hb2.mono hd1.size)
  have hbk2 := hbk.keep hb2
  have hbr2 := hbr.keep hb2
  have hD2 := hD1.keep (Keeps.of_below hb2)
  clear hbk hbr hd1 hD1 hb2
  obtain ⟨t0, t1, t2, t3, r0, r1, r2, r3⟩ := box8 hbr2 (Below.refl _ _)
  obtain ⟨q0, q1, q2, q3, s0, s1, s2, s3⟩ := box8 hbk2 (Below.refl _ _)
  have hdx := set4_below hd2 (show W.heap.size ≤ W.heap.size + 1 by omega) (.int .i64 0) (.slice none 0 0) (.slice none 0 0) (.int .i64 0)
  have hx := hbr2.set4 (.int .i64 0) (.slice none 0 0) (.slice none 0 0) (.int .i64 0)
  by_cases hk : chk d = 0
  · have HK := Lib.hid hk
    rw [hk]
    clear hk
    by_cases hout : i < 0 ∨ (d.secs.length : Int) ≤ i
    · have HE := Lib.hid (wr_out (s := s) HK.out hout)
      have hcase : i < 0 ∨ (¬ i < 0 ∧ (d.secs.length : Int) ≤ i) := by omega
      clear hout
      rcases hcase with h1 | ⟨h1, h2⟩
      all_goals
        go_wp2
        clear r0 r1 r2 r3 t0 t1 t2 t3 q0 q1 q2 q3 s0 s1 s2 s3
        generalize (((w2.setCell ⟨W.heap.size + 1, 0, none⟩ (.int .i64 0)).setCell ⟨W.heap.size + 1, 1, none⟩ (.slice none 0 0)).setCell ⟨W.heap.size + 1, 2, none⟩ (.slice none 0 0)).setCell ⟨W.heap.size + 1, 3, none⟩ (.int .i64 0) = wx at *
        obtain ⟨k0, k1, k2, k3⟩ := box4 hx (Below.refl _ _)
        exact bodyPost_ret (v := .tuple #[.agg #[.int .i64 0, .slice none 0 0, .slice none 0 0, .int .i64 0], .int .i64 2]) (by simp [results, Try.results21, go_sem, k0, k1, k2, k3]) rfl (DkPost.mk HE.out.1.symm HE.out.2.symm rfl rfl (Dsk.nodisk _) hdx)
    · have h1 : ¬ i < 0 := by omega
      have h2 : ¬ (d.secs.length : Int) ≤ i := by omega
      have HO := Lib.hid hout
      clear hout
      by_cases hsz : (s.size : Int) = d.size
      · have HZ := Lib.hid hsz
        have hzb : ((s.size : Int) != d.size) = false := by simp [hsz]
        clear hsz
        by_cases hl : d.left = 0
        · have HE := Lib.hid (wr_lost HK.out HO.out HZ.out hl)
          have hb : (d.left == 0) = true := by simp [hl]
          have hx := hbr2.set4 (.int .i64 d.size) (.slice A d.secs.length c) (.slice P d.pend.length cp) (.int .i64 d.left)
          have hdx := set4_below hd2 (show W.heap.size ≤ W.heap.size + 1 by omega) (.int .i64 d.size) (.slice A d.secs.length c) (.slice P d.pend.length cp) (.int .i64 d.left)
          clear hl
          go_wp2
          clear r0 r1 r2 r3 t0 t1 t2 t3 q0 q1 q2 q3 s0 s1 s2 s3
          generalize (((w2.setCell ⟨W.heap.size + 1, 0, none⟩ (.int .i64 d.size)).setCell ⟨W.heap.size + 1, 1, none⟩ (.slice A d.secs.length c)).setCell ⟨W.heap.size + 1, 2, none⟩ (.slice P d.pend.length cp)).setCell ⟨W.heap.size + 1, 3, none⟩ (.int .i64 d.left) = wx at *
          obtain ⟨k0, k1, k2, k3⟩ := box4 hx (Below.refl _ _)
          exact bodyPost_ret (v := .tuple #[.agg #[.int .i64 d.size, .slice A d.secs.length c, .slice P d.pend.length cp, .int .i64 d.left], .int .i64 20]) (by simp [results, Try.results21, go_sem, k0, k1, k2, k3]) rfl (DkPost.mk HE.out.1.symm HE.out.2.symm rfl rfl (h.keep (Keeps.of_below hdx)) hdx)
        · have HE := Lib.hid (wr_ok HK.out HO.out HZ.out hl)
          have hb : (d.left == 0) = false := by simp [hl]
          have C3 := Lib.hid (rless_any d.left h.f0 h.f1)
          have hlz := lessZ_range h.f0 h.f1
          clear hl hx hdx
          have hlt0 := hbk2.lt
          have hlt1 := hbr2.lt
          obtain ⟨hpc, hpr⟩ := wrs_cells (hD2.pen.keep (Keeps.alloc w2 (.cells #[] 45)))
          have ho0 := (Blk.new w2 #[] 45).own (base := w2.heap.size) (cap := 0) (sz := 2) (n := 0) (Nat.le_refl _) rfl (by unfold maxLen; omega) (by omega)
          have hd3 := hd2.alloc hd2.size (.cells #[] 45)
          have hbk3 := hbk2.alloc (.cells #[] 45)
          have hbr3 := hbr2.alloc (.cells #[] 45)
          have hwl := wrCells_length d.pend
          have HPR := Lib.hid hpr
          have HW1 := Lib.hid (wrCells_one d.pend)
          clear hpr
          go_wp2_with (at_builtin; go_must (refine wpList_append_any _ rfl (.tmp 32) (.tmp 34) _ rfl w2.heap.size 45 i1 _ 2 24 Try.underlying24 hi1' hy0 hy1 hy2 rfl (by omega) _ 0 [] rfl ho0 P d.pend.length cp (wrCells d.pend) rfl hwl hpc HW1.out (by omega) (by omega) (by simp) ?_))
          intro v3 w3 hown hgr hat
          have hown : w3.ownsRow w2.heap.size 45 2 v3 d.pend.length (wrCells d.pend) := by simpa using hown
          have hd4 := hd3.grown hgr hd3.size (fun g' h => by have := (ho0.lt g' h); have := hd2.size; omega)
          have hbk4 := hbk3.grown hgr (own_ne_type ho0 hbk3 (by decide)).symm
          have hbr4 := hbr3.grown hgr (own_ne_type ho0 hbr3 (by decide)).symm
          have hB4 := hd4.size
          have hBw := hgr.size
          rw [World.size_alloc] at hBw
          clear ho0 hgr hat hd3 hbk3 hbr3 hpc q0 q1 q2 q3 s0 s1 s2 s3 r0 r1 r2 r3 t0 t1 t2 t3
          go_wp2_with (at_builtin; go_must (refine wpList_append_any _ rfl (.tmp 35) (.tmp 39) _ rfl w2.heap.size 45 i1 _ 2 24 Try.underlying24 hi1' hy0 hy1 hy2 rfl (by omega) v3 d.pend.length (wrCells d.pend) rfl (hown.alloc _) _ 1 1 [.int .i64 i, .string s] rfl rfl (CellsAt.of_new _ _ _ _) (by simp [Value.oneCell']) (by omega) (by omega) (by simp; omega) ?_))
          intro v4 w4 hown2 hgr hat
          have hownW : OwW w4 w2.heap.size v4 (d.pend ++ [(i, s)]) := by
            unfold OwW
            rw [wrCells_append, List.length_append]
            exact hown2
          have hd5 := (hd4.alloc hB4 (.cells #[.int .i64 i, .string s] 45)).grown hgr (by simp; omega) (fun g' h => by have := (hown.lt g' h); have := hd2.size; omega)
          have hbk5 := (hbk4.alloc (.cells #[.int .i64 i, .string s] 45)).grown hgr (own_ne_type hown hbk4 (by decide)).symm
          have hbr5 := (hbr4.alloc (.cells #[.int .i64 i, .string s] 45)).grown hgr (own_ne_type hown hbr4 (by decide)).symm
          clear hown2 hgr hat hd4 hbk4 hbr4 hown hB4
          obtain ⟨t0, t1, t2, t3, r0, r1, r2, r3⟩ := box8 hbr5 (Below.refl _ _)
          obtain ⟨q0, q1, q2, q3, s0, s1, s2, s3⟩ := box8 hbk5 (Below.refl _ _)
          have hls : -9223372036854775808 ≤ d.left ∧ d.left ≤ 9223372036854775807 := ⟨h.f0, h.f1⟩
          obtain ⟨A4, c4, rfl⟩ := own_form hownW
          rw [show (d.pend ++ [(i, s)]).length = d.pend.length + 1 by simp] at hownW
          go_wp2_with (go_at_call 39; refine (C3.out _).mono ?_; rintro e w' ⟨rfl, rfl⟩)
          have hx := ((hbr5.far (p := ⟨W.heap.size, 2, none⟩) (by simp) (.slice A4 (d.pend.length + 1) c4)).far (p := ⟨W.heap.size, 3, none⟩) (by simp) (.int .i64 (lessZ d.left))).set4 (.int .i64 d.size) (.slice A d.secs.length c) (.slice A4 (d.pend.length + 1) c4) (.int .i64 (lessZ d.left))
          have hdx := set4_below ((hd5.setCell (p := ⟨W.heap.size, 2, none⟩) (Nat.le_refl _) (.slice A4 (d.pend.length + 1) c4)).setCell (p := ⟨W.heap.size, 3, none⟩) (Nat.le_refl _) (.int .i64 (lessZ d.left))) (show W.heap.size ≤ W.heap.size + 1 by omega) (.int .i64 d.size) (.slice A d.secs.length c) (.slice A4 (d.pend.length + 1) c4) (.int .i64 (lessZ d.left))
          have hvx := (((((OwW.far hownW (p := ⟨W.heap.size, 2, none⟩) hlt0 (.slice A4 (d.pend.length + 1) c4)).far (p := ⟨W.heap.size, 3, none⟩) hlt0 (.int .i64 (lessZ d.left))).far (p := ⟨W.heap.size + 1, 0, none⟩) hlt1 (.int .i64 d.size)).far (p := ⟨W.heap.size + 1, 1, none⟩) hlt1 (.slice A d.secs.length c)).far (p := ⟨W.heap.size + 1, 2, none⟩) hlt1 (.slice A4 (d.pend.length + 1) c4)).far (p := ⟨W.heap.size + 1, 3, none⟩) hlt1 (.int .i64 (lessZ d.left))
          clear hownW hbk5 hbr5 hd5 r0 r1 r2 r3 t0 t1 t2 t3 q0 q1 q2 q3 s0 s1 s2 s3
          generalize ((((((w4.setCell ⟨W.heap.size, 2, none⟩ (.slice A4 (d.pend.length + 1) c4)).setCell ⟨W.heap.size, 3, none⟩ (.int .i64 (lessZ d.left))).setCell ⟨W.heap.size + 1, 0, none⟩ (.int .i64 d.size)).setCell ⟨W.heap.size + 1, 1, none⟩ (.slice A d.secs.length c)).setCell ⟨W.heap.size + 1, 2, none⟩ (.slice A4 (d.pend.length + 1) c4)).setCell ⟨W.heap.size + 1, 3, none⟩ (.int .i64 (lessZ d.left))) = wx at *
          obtain ⟨k0, k1, k2, k3⟩ := box4 hx (Below.refl _ _)
          refine bodyPost_ret (v := .tuple #[.agg #[.int .i64 d.size, .slice A d.secs.length c, .slice A4 (d.pend.length + 1) c4, .int .i64 (lessZ d.left)], .int .i64 0]) (by simp [results, Try.results21, go_sem, k0, k1, k2, k3]) rfl (DkPost.mk HE.out.1.symm HE.out.2.symm rfl rfl ⟨h.sec.keep (Keeps.of_below hdx), ?_, h.z0, h.z1, hlz.1, hlz.2⟩ hdx)
          refine OwW.wrs (v := .slice A4 (d.pend.length + 1) c4) hvx fun x hx => ?_
          rcases List.mem_append.1 hx with hx | hx
          · exact HPR.out x hx
          · cases List.mem_singleton.1 hx
            exact ⟨hi0, hi1⟩
      · have HE := Lib.hid (wr_mis HK.out HO.out hsz)
        have hzb : ((s.size : Int) != d.size) = true := by simp [hsz]
        clear hsz
        go_wp2
        clear r0 r1 r2 r3 t0 t1 t2 t3 q0 q1 q2 q3 s0 s1 s2 s3
        generalize (((w2.setCell ⟨W.heap.size + 1, 0, none⟩ (.int .i64 0)).setCell ⟨W.heap.size + 1, 1, none⟩ (.slice none 0 0)).setCell ⟨W.heap.size + 1, 2, none⟩ (.slice none 0 0)).setCell ⟨W.heap.size + 1, 3, none⟩ (.int .i64 0) = wx at *
        obtain ⟨k0, k1, k2, k3⟩ := box4 hx (Below.refl _ _)
        exact bodyPost_ret (v := .tuple #[.agg #[.int .i64 0, .slice none 0 0, .slice none 0 0, .int .i64 0], .int .i64 11]) (by simp [results, Try.results21, go_sem, k0, k1, k2, k3]) rfl (DkPost.mk HE.out.1.symm HE.out.2.symm rfl rfl (Dsk.nodisk _) hdx)
  · have HE := Lib.hid (wr_bad (i := i) (s := s) hk)
    have hb : (chk d != 0) = true := by simp [hk]
    clear hk
    generalize chk d = full at *
    go_wp2
    clear r0 r1 r2 r3 t0 t1 t2 t3 q0 q1 q2 q3 s0 s1 s2 s3
    generalize (((w2.setCell ⟨W.heap.size + 1, 0, none⟩ (.int .i64 0)).setCell ⟨W.heap.size + 1, 1, none⟩ (.slice none 0 0)).setCell ⟨W.heap.size + 1, 2, none⟩ (.slice none 0 0)).setCell ⟨W.heap.size + 1, 3, none⟩ (.int .i64 0) = wx at *
    obtain ⟨k0, k1, k2, k3⟩ := box4 hx (Below.refl _ _)
    exact bodyPost_ret (v := .tuple #[.agg #[.int .i64 0, .slice none 0 0, .slice none 0 0, .int .i64 0], .int .i64 1]) (by simp [results, Try.results21, go_sem, k0, k1, k2, k3]) rfl (DkPost.mk HE.out.1.symm HE.out.2.symm rfl rfl (Dsk.nodisk _) hdx)
end Go.Proofs.Ytpihapkclnhklaa
