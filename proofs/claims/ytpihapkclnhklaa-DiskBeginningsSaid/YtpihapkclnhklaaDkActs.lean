/- Operations on disks: cordwoodlaw05.short, do. -/
import Derived.Test.YtpihapkclnhklaaDkLawDur
namespace Go.Proofs.Ytpihapkclnhklaa
open Go.RowKit

/-- An operation: Sync, or a write: its sector and its data. -/
abbrev ActT := Bool × Int × ByteArray
def ActR : List Value → ActT → Prop := fun us x => us = [.bool x.1, .int .i64 x.2.1, .string x.2.2] ∧ -9223372036854775808 ≤ x.2.1 ∧ x.2.1 ≤ 9223372036854775807
def Acts (w : World) (v : Value) (l : List ActT) : Prop := Sl w 3 ActR v l
theorem Acts.keep {w w' : World} {v : Value} {l : List ActT} (h : Acts w v l) (k : Keeps w w') : Acts w' v l := Sl.keep h k fun _ _ h => h
theorem Acts.form {w : World} {v : Value} {xs : List ActT} (h : Acts w v xs) : ∃ A c, v = .slice A xs.length c ∧ xs.length ≤ c ∧ c ≤ 9223372036854775807 := Sl.form h
theorem Acts.get {w : World} {l : List ActT} {A : Option Addr} {c n : Nat} (h : Acts w (.slice A n c) l) {i : Nat} (hi : i < l.length) :
    ∃ b off, A = some ⟨b, off, none⟩ ∧ w.cell? ⟨b, off + i * 3, none⟩ = some (.bool l[i].1) ∧ w.cell? ⟨b, off + i * 3 + 1, none⟩ = some (.int .i64 l[i].2.1) ∧ w.cell? ⟨b, off + i * 3 + 2, none⟩ = some (.string l[i].2.2) ∧
      -9223372036854775808 ≤ l[i].2.1 ∧ l[i].2.1 ≤ 9223372036854775807 := by
  obtain ⟨b, off, us, e, ⟨rfl, h1, h2⟩, _, hc⟩ := Sl.get h (List.getElem?_eq_getElem hi) (by omega)
  exact ⟨b, off, e, hc 0 _ rfl, hc 1 _ rfl, hc 2 _ rfl, h1, h2⟩

def shortL (l : List ActT) : Bool := l.all fun a => decide ((a.2.2.size : Int) ≤ 60)
def shortB (l : List ActT) : Bool := decide (l.length ≤ 12) && shortL l
theorem shortL_bad {l : List ActT} {k : Nat} (h : k < l.length) (hb : 60 < (l[k].2.2.size : Int)) : shortL (l.drop k) = false := by
  rw [List.drop_eq_getElem_cons h]
  simp only [shortL, List.all_cons]
  rw [decide_eq_false (by omega)]; rfl
theorem shortL_ok {l : List ActT} {k : Nat} (h : k < l.length) (hb : ¬ 60 < (l[k].2.2.size : Int)) : shortL (l.drop k) = shortL (l.drop (k + 1)) := by
  rw [List.drop_eq_getElem_cons h]
  simp only [shortL, List.all_cons]
  rw [decide_eq_true (by omega)]; rfl

set_option maxRecDepth 100000 in
set_option maxHeartbeats 1000000 in
theorem short_any (W : World) (v : Value) (l : List ActT) (h : Acts W v l) : Calls Try.prog 26 #[v] W fun e w' => e = .returned (.bool (shortB l)) ∧ Below W.heap.size W w' := by
  obtain ⟨A, c, rfl, hc, hm⟩ := h.form
  by_cases hl : 12 < (l.length : Int)
  · have HF := Lib.hid (show shortB l = false by unfold shortB; rw [decide_eq_false (by omega)]; rfl)
    go_enter Try.func26, Try.ntmps26
    go_wp2
    go_ret
    exact ⟨ret_bool HF.out.symm, Below.refl _ _⟩
  · have HF := Lib.hid (show shortB l = shortL (l.drop 0) by unfold shortB; rw [decide_eq_true (by omega)]; rfl)
    go_enter Try.func26, Try.ntmps26
    go_wp2
    go_loopw [10] (fun t wr => ∃ k : Nat, k ≤ l.length ∧ t = .int .i64 k ∧ Hid (shortB l = shortL (l.drop k)) ∧ Below W.heap.size W wr) (fun t _ => l.length - (intOf t).toNat)
    case atStart => exact ⟨0, by omega, rfl, HF, Below.refl _ _⟩
    case round =>
      clear HF
      obtain ⟨k, hk, rfl, HK, hb⟩ := hrel
      by_cases hlt : k < l.length
      · obtain ⟨b, off, rfl, a1, a2, a3, a4, a5⟩ := (h.keep (Keeps.of_below hb)).get hlt
        have hb2 := hb.alloc hb.size (.cells #[.bool l[k].1, .int .i64 l[k].2.1, .string l[k].2.2] 50)
        by_cases hs : 60 < (l[k].2.2.size : Int)
        · have HE := Lib.hid (HK.out.trans (shortL_bad hlt hs))
          generalize l[k] = x at *
          go_wp2
          go_ret
          exact ⟨ret_bool HE.out.symm, hb2⟩
        · have HE := Lib.hid (HK.out.trans (shortL_ok hlt hs))
          generalize l[k] = x at *
          go_wp2
          go_roundw
          case rel => exact ⟨k + 1, by omega, by go_num, HE, hb2⟩
          case measure => simp [intOf]; omega
      · have HE := Lib.hid (HK.out.trans (show shortL (l.drop k) = true by rw [List.drop_of_length_le (by omega)]; rfl))
        go_wp2
        go_ret
        exact ⟨ret_bool HE.out.symm, hb⟩

def doD (d : Dk) (a : ActT) : Dk := if a.1 = true then syD d else wrD d a.2.1 a.2.2
def doE (d : Dk) (a : ActT) : Int := if a.1 = true then syE d else wrE d a.2.1 a.2.2

set_option maxRecDepth 100000 in
set_option maxHeartbeats 1000000 in
theorem do_any (W : World) (A : Option Addr) (c : Nat) (P : Option Addr) (cp : Nat) (d : Dk) (h : DskP W (.slice A d.secs.length c) (.slice P d.pend.length cp) d) (hpl : d.pend.length ≤ 100000) (a : ActT) (h0 : -9223372036854775808 ≤ a.2.1) (h1 : a.2.1 ≤ 9223372036854775807) :
    Calls Try.prog 27 #[.agg #[.int .i64 d.size, .slice A d.secs.length c, .slice P d.pend.length cp, .int .i64 d.left], .agg #[.bool a.1, .int .i64 a.2.1, .string a.2.2]] W (DkPost W (doD d a) (doE d a)) := by
  obtain ⟨sy, i, s⟩ := a
  simp only at h0 h1 ⊢
  cases sy
  · show Calls _ _ _ _ (DkPost W (wrD d i s) (wrE d i s))
    have hv := ((Var.new h).alloc (.cells #[.bool false, .int .i64 i, .string s] 50)).alloc (.cells #[.int .i64 0, .slice none 0 0, .slice none 0 0, .int .i64 0] 26)
    have hba := (Blk.new (W.alloc (.cells #[.int .i64 d.size, .slice A d.secs.length c, .slice P d.pend.length cp, .int .i64 d.left] 26)) #[.bool false, .int .i64 i, .string s] 50).alloc (.cells #[.int .i64 0, .slice none 0 0, .slice none 0 0, .int .i64 0] 26)
    have hbr := Blk.new ((W.alloc (.cells #[.int .i64 d.size, .slice A d.secs.length c, .slice P d.pend.length cp, .int .i64 d.left] 26)).alloc (.cells #[.bool false, .int .i64 i, .string s] 50)) #[.int .i64 0, .slice none 0 0, .slice none 0 0, .int .i64 0] 26
    rw [World.size_alloc] at hba
    rw [World.size_alloc, World.size_alloc, show W.heap.size + 1 + 1 = W.heap.size + 2 from rfl] at hbr
    have hb := (((Below.refl W.heap.size W).alloc (Nat.le_refl _) (.cells #[.int .i64 d.size, .slice A d.secs.length c, .slice P d.pend.length cp, .int .i64 d.left] 26)).alloc (by simp) (.cells #[.bool false, .int .i64 i, .string s] 50)).alloc (by simp; omega) (.cells #[.int .i64 0, .slice none 0 0, .slice none 0 0, .int .i64 0] 26)
    go_enter Try.func27, Try.ntmps27
    go_upto_region 1 with (fail)
    generalize ((W.alloc (.cells #[.int .i64 d.size, .slice A d.secs.length c, .slice P d.pend.length cp, .int .i64 d.left] 26)).alloc (.cells #[.bool false, .int .i64 i, .string s] 50)).alloc (.cells #[.int .i64 0, .slice none 0 0, .slice none 0 0, .int .i64 0] 26) = w1 at *
    obtain ⟨q0, q1, q2, q3, _⟩ := hv.facts
    have a0 := hba.cell (j := 0) rfl
    have a1 := hba.cell (j := 1) rfl
    have a2 := hba.cell (j := 2) rfl
    have c1 := write_any _ _ _ d hv.dk hpl i h0 h1 s
    go_wp2_with fail
    refine c1.mono ?_
    clear c1 q0 q1 q2 q3 a0 a1 a2
    rintro e w2 ⟨vs, vp, rfl, hD, hb2⟩
    obtain ⟨A2, c2, P2, cp2, rfl, rfl, _, _, _, _⟩ := hD.form
    have hbr2 := hbr.keep hb2
    have hb3 := hb.trans (hb2.mono hb.size)
    clear hv hba hbr hb hb2
    have HD := Lib.hid hD
    clear hD
    generalize wrD d i s = d2 at *
    generalize wrE d i s = e2 at *
    obtain ⟨t0, t1, t2, t3, r0, r1, r2, r3⟩ := box8 hbr2 (Below.refl _ _)
    have hx := hbr2.set4 (.int .i64 d2.size) (.slice A2 d2.secs.length c2) (.slice P2 d2.pend.length cp2) (.int .i64 d2.left)
    have hdx := set4_below hb3 (show W.heap.size ≤ W.heap.size + 2 by omega) (.int .i64 d2.size) (.slice A2 d2.secs.length c2) (.slice P2 d2.pend.length cp2) (.int .i64 d2.left)
    have hvx := DskP.set4 HD.out hbr2 (a' := d2.size) (b' := d2.left) (A' := A2) (n' := d2.secs.length) (c' := c2) (P' := P2) (m' := d2.pend.length) (k' := cp2)
    go_wp2
    clear r0 r1 r2 r3 t0 t1 t2 t3
    generalize (((w2.setCell ⟨W.heap.size + 2, 0, none⟩ (.int .i64 d2.size)).setCell ⟨W.heap.size + 2, 1, none⟩ (.slice A2 d2.secs.length c2)).setCell ⟨W.heap.size + 2, 2, none⟩ (.slice P2 d2.pend.length cp2)).setCell ⟨W.heap.size + 2, 3, none⟩ (.int .i64 d2.left) = wx at *
    obtain ⟨k0, k1, k2, k3⟩ := box4 hx (Below.refl _ _)
    exact bodyPost_ret (v := .tuple #[.agg #[.int .i64 d2.size, .slice A2 d2.secs.length c2, .slice P2 d2.pend.length cp2, .int .i64 d2.left], .int .i64 e2]) (by simp [results, Try.results27, go_sem, k0, k1, k2, k3]) rfl (DkPost.mk rfl rfl rfl rfl hvx hdx)
  · show Calls _ _ _ _ (DkPost W (syD d) (syE d))
    have hv := ((Var.new h).alloc (.cells #[.bool true, .int .i64 i, .string s] 50)).alloc (.cells #[.int .i64 0, .slice none 0 0, .slice none 0 0, .int .i64 0] 26)
    have hba := (Blk.new (W.alloc (.cells #[.int .i64 d.size, .slice A d.secs.length c, .slice P d.pend.length cp, .int .i64 d.left] 26)) #[.bool true, .int .i64 i, .string s] 50).alloc (.cells #[.int .i64 0, .slice none 0 0, .slice none 0 0, .int .i64 0] 26)
    have hbr := Blk.new ((W.alloc (.cells #[.int .i64 d.size, .slice A d.secs.length c, .slice P d.pend.length cp, .int .i64 d.left] 26)).alloc (.cells #[.bool true, .int .i64 i, .string s] 50)) #[.int .i64 0, .slice none 0 0, .slice none 0 0, .int .i64 0] 26
    rw [World.size_alloc] at hba
    rw [World.size_alloc, World.size_alloc, show W.heap.size + 1 + 1 = W.heap.size + 2 from rfl] at hbr
    have hb := (((Below.refl W.heap.size W).alloc (Nat.le_refl _) (.cells #[.int .i64 d.size, .slice A d.secs.length c, .slice P d.pend.length cp, .int .i64 d.left] 26)).alloc (by simp) (.cells #[.bool true, .int .i64 i, .string s] 50)).alloc (by simp; omega) (.cells #[.int .i64 0, .slice none 0 0, .slice none 0 0, .int .i64 0] 26)
    go_enter Try.func27, Try.ntmps27
    go_upto_region 1 with (fail)
    generalize ((W.alloc (.cells #[.int .i64 d.size, .slice A d.secs.length c, .slice P d.pend.length cp, .int .i64 d.left] 26)).alloc (.cells #[.bool true, .int .i64 i, .string s] 50)).alloc (.cells #[.int .i64 0, .slice none 0 0, .slice none 0 0, .int .i64 0] 26) = w1 at *
    obtain ⟨q0, q1, q2, q3, _⟩ := hv.facts
    have a0 := hba.cell (j := 0) rfl
    have a1 := hba.cell (j := 1) rfl
    have a2 := hba.cell (j := 2) rfl
    have c1 := sync_any _ _ _ d hv.dk
    go_wp2_with fail
    refine c1.mono ?_
    clear c1 q0 q1 q2 q3 a0 a1 a2
    rintro e w2 ⟨vs, vp, rfl, hD, hb2⟩
    obtain ⟨A2, c2, P2, cp2, rfl, rfl, _, _, _, _⟩ := hD.form
    have hbr2 := hbr.keep hb2
    have hb3 := hb.trans (hb2.mono hb.size)
    clear hv hba hbr hb hb2
    have HD := Lib.hid hD
    clear hD
    generalize syD d = d2 at *
    generalize syE d = e2 at *
    obtain ⟨t0, t1, t2, t3, r0, r1, r2, r3⟩ := box8 hbr2 (Below.refl _ _)
    have hx := hbr2.set4 (.int .i64 d2.size) (.slice A2 d2.secs.length c2) (.slice P2 d2.pend.length cp2) (.int .i64 d2.left)
    have hdx := set4_below hb3 (show W.heap.size ≤ W.heap.size + 2 by omega) (.int .i64 d2.size) (.slice A2 d2.secs.length c2) (.slice P2 d2.pend.length cp2) (.int .i64 d2.left)
    have hvx := DskP.set4 HD.out hbr2 (a' := d2.size) (b' := d2.left) (A' := A2) (n' := d2.secs.length) (c' := c2) (P' := P2) (m' := d2.pend.length) (k' := cp2)
    go_wp2
    clear r0 r1 r2 r3 t0 t1 t2 t3
    generalize (((w2.setCell ⟨W.heap.size + 2, 0, none⟩ (.int .i64 d2.size)).setCell ⟨W.heap.size + 2, 1, none⟩ (.slice A2 d2.secs.length c2)).setCell ⟨W.heap.size + 2, 2, none⟩ (.slice P2 d2.pend.length cp2)).setCell ⟨W.heap.size + 2, 3, none⟩ (.int .i64 d2.left) = wx at *
    obtain ⟨k0, k1, k2, k3⟩ := box4 hx (Below.refl _ _)
    exact bodyPost_ret (v := .tuple #[.agg #[.int .i64 d2.size, .slice A2 d2.secs.length c2, .slice P2 d2.pend.length cp2, .int .i64 d2.left], .int .i64 e2]) (by simp [results, Try.results27, go_sem, k0, k1, k2, k3]) rfl (DkPost.mk rfl rfl rfl rfl hvx hdx)

/-- What an operation does to a valid disk that has r operations left. -/
theorem do_cases {d : Dk} (h : Valid d) {r : Nat} (hr : d.left = (r : Int)) (a : ActT) :
    (doE d a = 0 ∧ 0 < r ∧ Valid (doD d a) ∧ (doD d a).left = ((r - 1 : Nat) : Int) ∧ (doD d a).size = d.size ∧ (doD d a).secs.length = d.secs.length ∧ (doD d a).pend.length ≤ d.pend.length + 1) ∨
    (doE d a = 20 ∧ r = 0 ∧ doD d a = d) ∨ (doE d a = 2 ∨ doE d a = 11) := by
  have hk := chk_zero.2 h
  obtain ⟨sy, i, s⟩ := a
  cases sy
  · have e1 : doE d (false, i, s) = wrE d i s := rfl
    have e2 : doD d (false, i, s) = wrD d i s := rfl
    rw [e1, e2]
    by_cases ho : i < 0 ∨ (d.secs.length : Int) ≤ i
    · exact .inr (.inr (.inl (wr_out hk ho).1))
    · by_cases hs : (s.size : Int) = d.size
      · by_cases hl : d.left = 0
        · have := wr_lost hk ho hs hl
          exact .inr (.inl ⟨this.1, by omega, this.2⟩)
        · have := wr_ok hk ho hs hl
          refine .inl ⟨this.1, by omega, ?_⟩
          rw [this.2]
          have hz : lessZ d.left = ((r - 1 : Nat) : Int) := by unfold lessZ; rw [if_pos (by omega)]; omega
          exact ⟨h.write (by omega) (by omega) hs (by omega), hz, rfl, rfl, by simp⟩
      · exact .inr (.inr (.inr (wr_mis hk ho hs).1))
  · have e1 : doE d (true, i, s) = syE d := rfl
    have e2 : doD d (true, i, s) = syD d := rfl
    rw [e1, e2]
    by_cases hl : d.left = 0
    · have := sy_lost hk hl
      exact .inr (.inl ⟨this.1, by omega, this.2⟩)
    · have := sy_ok hk hl
      refine .inl ⟨this.1, by omega, ?_⟩
      rw [this.2]
      have hz : lessZ d.left = ((r - 1 : Nat) : Int) := by unfold lessZ; rw [if_pos (by omega)]; omega
      exact ⟨h.sync (by omega), hz, rfl, cur_length d, by simp⟩
end Go.Proofs.Ytpihapkclnhklaa
