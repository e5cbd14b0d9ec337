/- Law of the journal: acts in memory; cordwoodref01.Great, Same, Size. Law of the journal: acts in memory; ref05zeros, do. Law of the journal: Fine, reached. Law of the journal: reached. cordwoodlaw06.awake: the example of the chapter. Law of the journal: appends under a guard; lists joined. -/
import Derived.Test.YtockmhhiomdlkaaJoC
import Derived.Test.YtockmhhiomdlkaaDkB
import Derived.Test.YtockmhhiomdlkaaDkA
import Derived.Test.YtockmhhiomdlkaaJnAll
import Derived.Test.YtockmhhiomdlkaaJoB
namespace Go.Proofs.Ytockmhhiomdlkaa
set_option linter.unusedVariables false
set_option linter.unusedSimpArgs false
open Go.RowKit

/-! ### texts -/
theorem strB_bts (s : ByteArray) : strB (bts s) = s := strB_of s
theorem txs_of_strs {w : World} {v : Value} {xs : List ByteArray} (h : Strs w v xs) : Txs w v (xs.map bts) := by
  unfold Txs
  have : (xs.map bts).map strB = xs := by
    rw [List.map_map]
    conv => rhs; rw [← List.map_id xs]
    exact List.map_congr_left fun s _ => strB_bts s
  rw [this]; exact h
theorem map_strB_inj {l m : List Txt} : l.map strB = m.map strB ↔ l = m :=
  ⟨fun h => by
    have := congrArg (List.map bts) h
    rw [List.map_map, List.map_map] at this
    have e : ∀ l : List Txt, l.map (bts ∘ strB) = l := fun l => by
      conv => rhs; rw [← List.map_id l]
      exact List.map_congr_left fun s _ => bts_strB s
    rwa [e, e] at this, fun h => by rw [h]⟩
theorem Txs.getL {w : World} {l : List Txt} {A : Option Addr} {c n : Nat} (h : Txs w (.slice A n c) l) {i : Nat} (hi : i < l.length) : ∃ b off, A = some ⟨b, off, none⟩ ∧ w.cell? ⟨b, off + i, none⟩ = some (.string (strB l[i])) := by
  obtain ⟨b, off, e, h1⟩ := Strs.get h (i := i) (by rw [List.length_map]; exact hi)
  rw [List.getElem_map] at h1
  exact ⟨b, off, e, h1⟩
/-- Are texts beyond the bounds of the statements? -/
def grtT (l : List Txt) : Bool := decide (20 < l.length) || l.any fun t => decide (300 < t.length)
theorem grtT_false {l : List Txt} (h : grtT l = false) : l.length ≤ 20 ∧ ∀ t ∈ l, t.length ≤ 300 := by
  unfold grtT at h
  rw [Bool.or_eq_false_iff] at h
  refine ⟨by have := of_decide_eq_false h.1; omega, fun t ht => ?_⟩
  have := List.any_eq_false.1 h.2 t ht
  simp only [decide_eq_true_eq] at this
  omega
theorem grtT_ok {l : List Txt} (h : grtT l = false) : OkL l := ⟨by have := (grtT_false h).1; omega, fun t ht => by have := (grtT_false h).2 t ht; omega⟩
set_option maxRecDepth 100000 in
set_option maxHeartbeats 1000000 in
theorem rgreat_any (W : World) (A : Option Addr) (c : Nat) (l : List Txt) (h : Txs W (.slice A l.length c) l) : Calls Try.prog 12 #[.slice A l.length c] W fun e w' => e = .returned (.bool (grtT l)) ∧ Below W.heap.size W w' := by
  by_cases hl : 20 < (l.length : Int)
  · have HF := Lib.hid (show grtT l = true by unfold grtT; rw [decide_eq_true (by omega)]; rfl)
    go_enter Try.func12, Try.ntmps12
    go_wp2
    go_ret
    exact ⟨ret_bool HF.out.symm, Below.refl _ _⟩
  · have HF := Lib.hid (show grtT l = (l.drop 0).any (fun t => decide (300 < t.length)) by unfold grtT; rw [decide_eq_false (by omega)]; rfl)
    go_enter Try.func12, Try.ntmps12
    go_wp2
    go_loopw [3] (fun t wr => ∃ k : Nat, k ≤ l.length ∧ t = .int .i64 k ∧ Hid (grtT l = (l.drop k).any (fun t => decide (300 < t.length))) ∧ Below W.heap.size W wr) (fun t _ => l.length - (intOf t).toNat)
    case atStart => exact ⟨0, by omega, rfl, HF, Below.refl _ _⟩
    case round =>
      clear HF
      obtain ⟨k, hk, rfl, HK, hb⟩ := hrel
      by_cases hlt : k < l.length
      · obtain ⟨b, off, rfl, a1⟩ := (h.keep (Keeps.of_below hb)).getL hlt
        have hd : l.drop k = l[k] :: l.drop (k + 1) := List.drop_eq_getElem_cons hlt
        by_cases hs : 300 < ((strB l[k]).size : Int)
        · have HE : Hid (grtT l = true) := by
            show _ = _
            rw [HK.out, hd, List.any_cons, decide_eq_true (by rw [strB_size] at hs; omega)]; rfl
          clear HK hd
          generalize strB l[k] = x at *
          go_wp2
          go_ret
          exact ⟨ret_bool HE.out.symm, hb⟩
        · have HE : Hid (grtT l = (l.drop (k + 1)).any (fun t => decide (300 < t.length))) := by
            show _ = _
            rw [HK.out, hd, List.any_cons, decide_eq_false (by rw [strB_size] at hs; omega)]; rfl
          clear HK hd
          generalize strB l[k] = x at *
          go_wp2
          go_roundw
          case rel => exact ⟨k + 1, by omega, by go_num, HE, hb⟩
          case measure => simp [intOf]; omega
      · have HE : Hid (grtT l = false) := by
          show _ = _
          rw [HK.out, List.drop_of_length_le (by omega)]; rfl
        clear HK
        go_wp2
        go_ret
        exact ⟨ret_bool HE.out.symm, hb⟩
set_option maxRecDepth 100000 in
set_option maxHeartbeats 1000000 in
theorem rsame_any (W : World) (A : Option Addr) (c : Nat) (l : List Txt) (h : Txs W (.slice A l.length c) l) (B : Option Addr) (e : Nat) (m : List Txt) (h' : Txs W (.slice B m.length e) m) :
    Calls Try.prog 23 #[.slice A l.length c, .slice B m.length e] W fun en w' => en = .returned (.bool (decide (l = m))) ∧ Below W.heap.size W w' := by
  obtain ⟨_, _, el, hlc, hlm⟩ := Txs.form h
  cases el
  by_cases hl : (l.length : Int) = (m.length : Int)
  · have hln : l.length = m.length := by omega
    have HF := Lib.hid (show decide (l = m) = decide (l.drop 0 = m.drop 0) by simp)
    go_enter Try.func23, Try.ntmps23
    rw [← hln] at h' ⊢
    have HL := Lib.hid hln
    clear hln hl
    go_wp2
    go_loopw [5] (fun t wr => ∃ k : Nat, k ≤ l.length ∧ t = .int .i64 k ∧ Hid (decide (l = m) = decide (l.drop k = m.drop k)) ∧ Below W.heap.size W wr) (fun t _ => l.length - (intOf t).toNat)
    case atStart => exact ⟨0, by omega, rfl, HF, Below.refl _ _⟩
    case round =>
      clear HF
      obtain ⟨k, hk, rfl, HK, hb⟩ := hrel
      by_cases hlt : k < l.length
      · have hlt' : k < m.length := by have := HL.out; omega
        obtain ⟨b, off, rfl, a1⟩ := (h.keep (Keeps.of_below hb)).getL hlt
        obtain ⟨b', off', rfl, a1'⟩ := (h'.keep (Keeps.of_below hb)).getL hlt'
        have hd : l.drop k = l[k] :: l.drop (k + 1) := List.drop_eq_getElem_cons hlt
        have hd' : m.drop k = m[k] :: m.drop (k + 1) := List.drop_eq_getElem_cons hlt'
        have hinj : strB l[k] = strB m[k] ↔ l[k] = m[k] := ⟨fun e => by have := congrArg bts e; rwa [bts_strB, bts_strB] at this, fun e => by rw [e]⟩
        by_cases hs : strB l[k] = strB m[k]
        · have HE : Hid (decide (l = m) = decide (l.drop (k + 1) = m.drop (k + 1))) := by
            show _ = _
            rw [HK.out, hd, hd', hinj.1 hs]
            simp only [List.cons.injEq, true_and]
          clear HK hd hd' hinj
          rw [← hs] at a1'
          have hq := str_eq (rfl : strB l[k] = strB l[k])
          generalize strB l[k] = x at *
          clear hs
          go_wp2
          go_quiet (fail)
          go_wp2
          go_roundw
          case rel => exact ⟨k + 1, by omega, by go_num, HE, below_drewN' hb _⟩
          case measure => simp [intOf]; omega
        · have HE : Hid (decide (l = m) = false) := by
            show _ = _
            rw [HK.out, hd, hd', decide_eq_false]
            intro e
            exact hs (hinj.2 (List.cons.inj e).1)
          clear HK hd hd' hinj
          have hq := str_ne hs
          generalize strB l[k] = x at *
          generalize strB m[k] = y at *
          go_wp2
          go_quiet (fail)
          go_wp2
          go_ret
          exact ⟨ret_bool HE.out.symm, below_drewN' hb _⟩
      · have HE : Hid (decide (l = m) = true) := by
          show _ = _
          have := HL.out
          rw [HK.out, List.drop_of_length_le (by omega), List.drop_of_length_le (by omega)]; rfl
        clear HK
        go_wp2
        go_ret
        exact ⟨ret_bool HE.out.symm, hb⟩
  · have HF : Hid (decide (l = m) = false) := decide_eq_false (by rintro rfl; exact hl rfl)
    go_enter Try.func23, Try.ntmps23
    go_wp2
    go_ret
    exact ⟨ret_bool HF.out.symm, Below.refl _ _⟩

/-! ### numbers -/
theorem digL_size {n : Nat} (h : ¬ n < 128) : (digL n).length = (digL (n / 128)).length + 1 := by rw [digL_more h, List.length_cons]
set_option maxRecDepth 100000 in
set_option maxHeartbeats 1000000 in
theorem rsize_any (W : World) (n : Nat) (hn : n ≤ 1099511627776) : Calls Try.prog 27 #[.int .i64 n] W fun e w' => e = .returned (.int .i64 ((digL n).length : Nat)) ∧ W = w' := by
  have hd := digL_len n 5 (by omega)
  go_enter Try.func27, Try.ntmps27
  have h0 : ¬ (n : Int) < 0 := by omega
  have h1 : ¬ 1099511627776 < (n : Int) := by omega
  go_wp2
  go_loop [0, 3] (fun a b => ∃ m k : Nat, a = .int .i64 m ∧ b = .int .i64 k ∧ m ≤ 1099511627776 ∧ Hid (k + (digL m).length = (digL n).length + 1) ∧ k ≤ 10) (fun a _ => (intOf a).toNat)
  case atStart => exact ⟨n, 1, rfl, rfl, hn, Nat.add_comm _ _, by omega⟩
  case round =>
    obtain ⟨m, k, rfl, rfl, hm, HK, hk⟩ := hrel
    by_cases hlt : m < 128
    · have hlt' : ¬ (128 : Int) ≤ (m : Int) := by omega
      have HE : Hid ((k : Int) = ((digL n).length : Nat)) := by
        show _ = _
        have := HK.out
        rw [digL_last hlt] at this
        simp at this
        omega
      clear HK
      go_wp2
      go_ret
      exact ⟨ret_int HE.out, rfl⟩
    · have hlt' : (128 : Int) ≤ (m : Int) := by omega
      have hq : (m : Int).tdiv 128 = ((m / 128 : Nat) : Int) := tdiv_nat m 128
      have HE : Hid ((k + 1) + (digL (m / 128)).length = (digL n).length + 1 ∧ k + 1 ≤ 10) := by
        have := HK.out
        rw [digL_size hlt] at this
        have hp := digL_pos (m / 128)
        exact ⟨by omega, by omega⟩
      clear HK
      go_wp2
      go_round
      case rel => exact ⟨m / 128, k + 1, by go_num, by go_num, by omega, HE.out.1, HE.out.2⟩
      case measure => simp [intOf]; omega

/-! ### new disks -/
theorem nulB_zero (n : Nat) : nulB n = zeroS n := by
  unfold nulB zeroS strB
  simp
theorem newD_zD (n z : Nat) : newD n z = zD n z := by unfold newD zD; rw [nulB_zero]
end Go.Proofs.Ytockmhhiomdlkaa

namespace Go.Proofs.Ytockmhhiomdlkaa
set_option linter.unusedVariables false
set_option linter.unusedSimpArgs false
open Go.RowKit

/-- An act in memory. -/
def ActR (w : World) (us : List Value) (x : ActJ) : Prop := ∃ vr vp, us = [.int .i64 x.kind, vr, .int .i64 x.left, vp] ∧ Txs w vr x.recs ∧ Ints w vp x.ps ∧ (-9223372036854775808 ≤ x.kind ∧ x.kind ≤ 9223372036854775807) ∧ (-9223372036854775808 ≤ x.left ∧ x.left ≤ 9223372036854775807)
theorem ActR.keep {w w' : World} {us : List Value} {x : ActJ} (h : ActR w us x) (k : Keeps w w') : ActR w' us x := by
  obtain ⟨vr, vp, e, h1, h2, h3⟩ := h
  exact ⟨vr, vp, e, h1.keep k, h2.keep k, h3⟩
def Acts (w : World) (v : Value) (l : List ActJ) : Prop := Sl w 4 (ActR w) v l
theorem Acts.keep {w w' : World} {v : Value} {l : List ActJ} (h : Acts w v l) (k : Keeps w w') : Acts w' v l := Sl.keep h k fun _ _ h => h.keep k
theorem Acts.form {w : World} {v : Value} {xs : List ActJ} (h : Acts w v xs) : ∃ A c, v = .slice A xs.length c ∧ xs.length ≤ c ∧ c ≤ 9223372036854775807 := Sl.form h
/-- One act. -/
structure ActP (w : World) (rA : Option Addr) (rc : Nat) (iA : Option Addr) (ic : Nat) (a : ActJ) : Prop where
  recs : Txs w (.slice rA a.recs.length rc) a.recs
  ps : Ints w (.slice iA a.ps.length ic) a.ps
  k0 : -9223372036854775808 ≤ a.kind
  k1 : a.kind ≤ 9223372036854775807
  l0 : -9223372036854775808 ≤ a.left
  l1 : a.left ≤ 9223372036854775807
theorem ActP.keep {w w' : World} {rA iA : Option Addr} {rc ic : Nat} {a : ActJ} (h : ActP w rA rc iA ic a) (k : Keeps w w') : ActP w' rA rc iA ic a := ⟨h.recs.keep k, h.ps.keep k, h.k0, h.k1, h.l0, h.l1⟩
theorem Acts.get {w : World} {l : List ActJ} {A : Option Addr} {c n : Nat} (h : Acts w (.slice A n c) l) {i : Nat} (hi : i < l.length) :
    ∃ b off rA rc iA ic, A = some ⟨b, off, none⟩ ∧ w.cell? ⟨b, off + i * 4, none⟩ = some (.int .i64 l[i].kind) ∧ w.cell? ⟨b, off + i * 4 + 1, none⟩ = some (.slice rA l[i].recs.length rc) ∧ w.cell? ⟨b, off + i * 4 + 2, none⟩ = some (.int .i64 l[i].left) ∧ w.cell? ⟨b, off + i * 4 + 3, none⟩ = some (.slice iA l[i].ps.length ic) ∧ ActP w rA rc iA ic l[i] := by
  obtain ⟨b, off, us, e, ⟨vr, vp, rfl, h1, h2, ⟨h3, h4⟩, h5, h6⟩, _, hc⟩ := Sl.get h (List.getElem?_eq_getElem hi) (by omega)
  obtain ⟨rA, rc, rfl, _, _⟩ := Txs.form h1
  obtain ⟨iA, ic, rfl, _, _⟩ := h2.form
  exact ⟨b, off, rA, rc, iA, ic, e, hc 0 _ rfl, hc 1 _ rfl, hc 2 _ rfl, hc 3 _ rfl, h1, h2, h3, h4, h5, h6⟩

theorem Var.zero (w : World) : Var (w.alloc (.cells #[.int .i64 0, .slice none 0 0, .slice none 0 0, .int .i64 0] 25)) w.heap.size none 0 none 0 noDisk := Var.new (A := none) (c := 0) (P := none) (cp := 0) (d := noDisk) (Dsk.nodisk w)
set_option maxHeartbeats 1000000 in
theorem zerosL_any (W : World) (n z : Nat) (hn1 : 1 ≤ n) (hn2 : n ≤ 40) (hz1 : 1 ≤ z) (hz2 : z ≤ 40) :
    Calls Try.prog 31 #[.int .i64 n, .int .i64 z] W (CutPost W (zD n z)) := by
  have V2 : Var (W.alloc (.cells #[.int .i64 0, .slice none 0 0, .slice none 0 0, .int .i64 0] 25)) W.heap.size none 0 none 0 noDisk := Var.zero W
  have K1 := (Below.refl W.heap.size W).alloc (Nat.le_refl _) (.cells #[.int .i64 0, .slice none 0 0, .slice none 0 0, .int .i64 0] 25)
  have CN := rnew_ok (W.alloc (.cells #[.int .i64 0, .slice none 0 0, .slice none 0 0, .int .i64 0] 25)) n z hn1 hn2 hz1 hz2
  rw [newD_zD] at CN
  have CN := Lib.hid CN
  go_enter Try.func31, Try.ntmps31
  go_upto_region 1 with (fail)
  generalize W.alloc (.cells #[.int .i64 0, .slice none 0 0, .slice none 0 0, .int .i64 0] 25) = w1 at *
  go_wp2_with fail
  refine CN.out.mono ?_
  rintro e w2 ⟨vs, vp, rfl, hD, hb2⟩
  clear CN
  generalize zD n z = d at *
  obtain ⟨A, c, P, cp, rfl, rfl, hc, hcp, hm, hmp⟩ := hD.form
  have V3 := Var.new hD
  have V2b := (V2.keep hb2).alloc (.cells #[.int .i64 d.size, .slice A d.secs.length c, .slice P d.pend.length cp, .int .i64 d.left] 25)
  have hlt := (V2.keep hb2).blk.lt
  have K3 := (K1.trans (hb2.mono K1.size)).alloc (by have := (K1.trans (hb2.mono K1.size)).size; omega) (.cells #[.int .i64 d.size, .slice A d.secs.length c, .slice P d.pend.length cp, .int .i64 d.left] 25)
  clear V2 K1 hD hb2
  go_upto_region 2 with (fail)
  generalize w2.alloc (.cells #[.int .i64 d.size, .slice A d.secs.length c, .slice P d.pend.length cp, .int .i64 d.left] 25) = w3 at *
  generalize w2.heap.size = g3 at *
  obtain ⟨q0, q1, q2, q3, _⟩ := V3.facts
  obtain ⟨t0, t1, t2, t3, r0, r1, r2, r3⟩ := V2b.facts
  simp only [noDisk, List.length_nil] at t0 t1 t2 t3
  have VR := V2b.assign V3.dk
  have KR := put4_below (A := A) (c := c) (P := P) (cp := cp) (d := d) K3 (Nat.le_refl W.heap.size)
  clear V2b V3 K3
  go_wp2
  change bodyPost _ _ _ _ _ (put4 w3 W.heap.size A c P cp d)
  obtain ⟨k0, k1, k2, k3, _⟩ := VR.facts
  clear q0 q1 q2 q3 t0 t1 t2 t3 r0 r1 r2 r3
  generalize put4 w3 W.heap.size A c P cp d = wx at *
  exact bodyPost_ret (v := .agg #[.int .i64 d.size, .slice A d.secs.length c, .slice P d.pend.length cp, .int .i64 d.left]) (by simp [results, Try.results31, go_sem, k0, k1, k2, k3]) rfl ⟨_, _, rfl, VR.dk, KR⟩

theorem lt_pair {x : Dk × Int} {a : Dk} {b : Int} (h : x = (a, b)) {W : World} {e : Ending} {w : World} (k : DkPost W a b e w) : DkPost W x.1 x.2 e w := by rw [h]; exact k
set_option maxRecDepth 100000 in
set_option maxHeartbeats 4000000 in
theorem do_any (W : World) (A : Option Addr) (c : Nat) (P : Option Addr) (cp : Nat) (d : Dk) (h : DskP W (.slice A d.secs.length c) (.slice P d.pend.length cp) d) (hn : d.pend.length ≤ 10000) (rA : Option Addr) (rc : Nat) (iA : Option Addr) (ic : Nat) (a : ActJ) (ha : ActP W rA rc iA ic a) :
    Calls Try.prog 29 #[.agg #[.int .i64 d.size, .slice A d.secs.length c, .slice P d.pend.length cp, .int .i64 d.left], .agg #[.int .i64 a.kind, .slice rA a.recs.length rc, .int .i64 a.left, .slice iA a.ps.length ic]] W (DkPost W (doD d a).1 (doD d a).2) := by
  have V0 := (((Var.new h).alloc (.cells #[.int .i64 a.kind, .slice rA a.recs.length rc, .int .i64 a.left, .slice iA a.ps.length ic] 49)).alloc (.cells #[.int .i64 0, .slice none 0 0, .slice none 0 0, .int .i64 0] 25)).alloc (.cells #[.int .i64 d.size, .slice A d.secs.length c, .slice P d.pend.length cp, .int .i64 d.left] 25)
  have B1 := ((Blk.new (W.alloc (.cells #[.int .i64 d.size, .slice A d.secs.length c, .slice P d.pend.length cp, .int .i64 d.left] 25)) #[.int .i64 a.kind, .slice rA a.recs.length rc, .int .i64 a.left, .slice iA a.ps.length ic] 49).alloc (.cells #[.int .i64 0, .slice none 0 0, .slice none 0 0, .int .i64 0] 25)).alloc (.cells #[.int .i64 d.size, .slice A d.secs.length c, .slice P d.pend.length cp, .int .i64 d.left] 25)
  have V2 : Var (((W.alloc (.cells #[.int .i64 d.size, .slice A d.secs.length c, .slice P d.pend.length cp, .int .i64 d.left] 25)).alloc (.cells #[.int .i64 a.kind, .slice rA a.recs.length rc, .int .i64 a.left, .slice iA a.ps.length ic] 49)).alloc (.cells #[.int .i64 0, .slice none 0 0, .slice none 0 0, .int .i64 0] 25)) ((W.alloc (.cells #[.int .i64 d.size, .slice A d.secs.length c, .slice P d.pend.length cp, .int .i64 d.left] 25)).alloc (.cells #[.int .i64 a.kind, .slice rA a.recs.length rc, .int .i64 a.left, .slice iA a.ps.length ic] 49)).heap.size none 0 none 0 noDisk := Var.zero _
  have V2 := V2.alloc (.cells #[.int .i64 d.size, .slice A d.secs.length c, .slice P d.pend.length cp, .int .i64 d.left] 25)
  have V3 : Var ((((W.alloc (.cells #[.int .i64 d.size, .slice A d.secs.length c, .slice P d.pend.length cp, .int .i64 d.left] 25)).alloc (.cells #[.int .i64 a.kind, .slice rA a.recs.length rc, .int .i64 a.left, .slice iA a.ps.length ic] 49)).alloc (.cells #[.int .i64 0, .slice none 0 0, .slice none 0 0, .int .i64 0] 25)).alloc (.cells #[.int .i64 d.size, .slice A d.secs.length c, .slice P d.pend.length cp, .int .i64 d.left] 25)) (((W.alloc (.cells #[.int .i64 d.size, .slice A d.secs.length c, .slice P d.pend.length cp, .int .i64 d.left] 25)).alloc (.cells #[.int .i64 a.kind, .slice rA a.recs.length rc, .int .i64 a.left, .slice iA a.ps.length ic] 49)).alloc (.cells #[.int .i64 0, .slice none 0 0, .slice none 0 0, .int .i64 0] 25)).heap.size A c P cp d := Var.new (((h.keep (Keeps.alloc _ _)).keep (Keeps.alloc _ _)).keep (Keeps.alloc _ _))
  have K := ((((Below.refl W.heap.size W).alloc (Nat.le_refl _) (.cells #[.int .i64 d.size, .slice A d.secs.length c, .slice P d.pend.length cp, .int .i64 d.left] 25)).alloc (by simp) (.cells #[.int .i64 a.kind, .slice rA a.recs.length rc, .int .i64 a.left, .slice iA a.ps.length ic] 49)).alloc (by simp; omega) (.cells #[.int .i64 0, .slice none 0 0, .slice none 0 0, .int .i64 0] 25)).alloc (by simp; omega) (.cells #[.int .i64 d.size, .slice A d.secs.length c, .slice P d.pend.length cp, .int .i64 d.left] 25)
  have HA := ha.keep (Keeps.of_below K)
  rw [World.size_alloc] at B1
  rw [World.size_alloc, World.size_alloc, show W.heap.size + 1 + 1 = W.heap.size + 2 from rfl] at V2
  rw [World.size_alloc, World.size_alloc, World.size_alloc, show W.heap.size + 1 + 1 + 1 = W.heap.size + 3 from rfl] at V3
  go_enter Try.func29, Try.ntmps29
  go_upto_region 2 with (fail)
  generalize (((W.alloc (.cells #[.int .i64 d.size, .slice A d.secs.length c, .slice P d.pend.length cp, .int .i64 d.left] 25)).alloc (.cells #[.int .i64 a.kind, .slice rA a.recs.length rc, .int .i64 a.left, .slice iA a.ps.length ic] 49)).alloc (.cells #[.int .i64 0, .slice none 0 0, .slice none 0 0, .int .i64 0] 25)).alloc (.cells #[.int .i64 d.size, .slice A d.secs.length c, .slice P d.pend.length cp, .int .i64 d.left] 25) = w1 at *
  obtain ⟨q0, q1, q2, q3, _⟩ := V0.facts
  have a0 : w1.cell? ⟨W.heap.size + 1, 0, none⟩ = some (.int .i64 a.kind) := B1.cell (j := 0) rfl
  have a1 : w1.cell? ⟨W.heap.size + 1, 1, none⟩ = some (.slice rA a.recs.length rc) := B1.cell (j := 1) rfl
  have a2 : w1.cell? ⟨W.heap.size + 1, 2, none⟩ = some (.int .i64 a.left) := B1.cell (j := 2) rfl
  have a3 : w1.cell? ⟨W.heap.size + 1, 3, none⟩ = some (.slice iA a.ps.length ic) := B1.cell (j := 3) rfl
  have HD : Hid (doD d a = if (actD d a).2 ≠ 0 ∧ (actD d a).2 ≠ 20 then (d, (actD d a).2) else actD d a) := rfl
  obtain ⟨D0, hD0⟩ : ∃ x, x = actD d a := ⟨_, rfl⟩
  rw [← hD0] at HD
  have l0 := ha.l0
  have l1 := ha.l1
  by_cases k0 : a.kind = 0
  · have k0' : (a.kind == 0) = true := by simpa using k0
    have hD1 : D0 = appD d a.recs := by rw [hD0]; unfold actD; rw [if_pos k0]
    clear hD0
    have CT := append_any w1 _ _ d V0.dk hn rA rc a.recs HA.recs
    rw [← hD1] at CT
    clear hD1
    have CT := Lib.hid CT
    go_wp2_with fail
    refine CT.out.mono ?_
    rintro e w2 ⟨vs, vp, rfl, hd2, hb2⟩
    clear CT
    obtain ⟨D, N⟩ := D0
    simp only at hd2 HD ⊢
    obtain ⟨A2, c2, P2, cp2, rfl, rfl, _, _, _, _⟩ := hd2.form
    have V0' := V0.keep hb2
    have V2' := V2.keep hb2
    have V3' := V3.keep hb2
    have K2 := K.trans (hb2.mono K.size)
    have X0 := V0'.other (A2 := A2) (c2 := c2) (P2 := P2) (cp2 := cp2) (d2 := D) V3' (by omega)
    have X2 := V2'.other (A2 := A2) (c2 := c2) (P2 := P2) (cp2 := cp2) (d2 := D) V3' (by omega)
    have X3 := V3'.assign hd2
    have KX := put4_below (A := A2) (c := c2) (P := P2) (cp := cp2) (d := D) K2 (show W.heap.size ≤ W.heap.size + 3 by omega)
    obtain ⟨t0, t1, t2, t3, r0, r1, r2, r3⟩ := V3'.facts
    clear V0 V2 V3 V0' V2' V3' K K2 hb2 hd2 B1 HA q0 q1 q2 q3 a0 a1 a2 a3
    go_upto_region 12 with (fail)
    change Code.wp _ _ _ _ (put4 w2 (W.heap.size + 3) A2 c2 P2 cp2 D)
    clear t0 t1 t2 t3 r0 r1 r2 r3
    generalize put4 w2 (W.heap.size + 3) A2 c2 P2 cp2 D = w6 at *
    by_cases hN : N ≠ 0 ∧ N ≠ 20
    · have HE := Lib.hid (HD.out.trans (if_pos hN))
      have n1 : (N != 0) = true := by simpa using hN.1
      have n2 : (N != 20) = true := by simpa using hN.2
      clear HD hN
      obtain ⟨q0, q1, q2, q3, _⟩ := X0.facts
      obtain ⟨t0, t1, t2, t3, r0, r1, r2, r3⟩ := X2.facts
      simp only [noDisk, List.length_nil] at t0 t1 t2 t3
      have VR := X2.assign X0.dk
      have KR := put4_below (A := A) (c := c) (P := P) (cp := cp) (d := d) KX (show W.heap.size ≤ W.heap.size + 2 by omega)
      clear X0 X2 X3 KX
      go_wp2
      change bodyPost _ _ _ _ _ (put4 w6 (W.heap.size + 2) A c P cp d)
      obtain ⟨k0, k1, k2, k3, _⟩ := VR.facts
      clear q0 q1 q2 q3 t0 t1 t2 t3 r0 r1 r2 r3
      generalize put4 w6 (W.heap.size + 2) A c P cp d = wx at *
      exact bodyPost_ret (v := .tuple #[.agg #[.int .i64 d.size, .slice A d.secs.length c, .slice P d.pend.length cp, .int .i64 d.left], .int .i64 N]) (by simp [results, Try.results29, go_sem, k0, k1, k2, k3]) rfl (by rw [HE.out]; exact ⟨_, _, rfl, VR.dk, KR⟩)
    · have HE := Lib.hid (HD.out.trans (if_neg hN))
      clear HD
      by_cases hN0 : N = 0
      · subst hN0
        obtain ⟨q0, q1, q2, q3, _⟩ := X3.facts
        obtain ⟨t0, t1, t2, t3, r0, r1, r2, r3⟩ := X2.facts
        simp only [noDisk, List.length_nil] at t0 t1 t2 t3
        have VR := X2.assign X3.dk
        have KR := put4_below (A := A2) (c := c2) (P := P2) (cp := cp2) (d := D) KX (show W.heap.size ≤ W.heap.size + 2 by omega)
        clear X0 X2 X3 KX
        go_wp2
        change bodyPost _ _ _ _ _ (put4 w6 (W.heap.size + 2) A2 c2 P2 cp2 D)
        obtain ⟨k0, k1, k2, k3, _⟩ := VR.facts
        clear q0 q1 q2 q3 t0 t1 t2 t3 r0 r1 r2 r3
        generalize put4 w6 (W.heap.size + 2) A2 c2 P2 cp2 D = wx at *
        exact bodyPost_ret (v := .tuple #[.agg #[.int .i64 D.size, .slice A2 D.secs.length c2, .slice P2 D.pend.length cp2, .int .i64 D.left], .int .i64 0]) (by simp [results, Try.results29, go_sem, k0, k1, k2, k3]) rfl (by rw [HE.out]; exact ⟨_, _, rfl, VR.dk, KR⟩)
      · have hN20 : N = 20 := by
          rcases Classical.em (N = 20) with e | e
          · exact e
          · exact absurd ⟨hN0, e⟩ hN
        subst hN20
        obtain ⟨q0, q1, q2, q3, _⟩ := X3.facts
        obtain ⟨t0, t1, t2, t3, r0, r1, r2, r3⟩ := X2.facts
        simp only [noDisk, List.length_nil] at t0 t1 t2 t3
        have VR := X2.assign X3.dk
        have KR := put4_below (A := A2) (c := c2) (P := P2) (cp := cp2) (d := D) KX (show W.heap.size ≤ W.heap.size + 2 by omega)
        clear X0 X2 X3 KX
        go_wp2
        change bodyPost _ _ _ _ _ (put4 w6 (W.heap.size + 2) A2 c2 P2 cp2 D)
        obtain ⟨k0, k1, k2, k3, _⟩ := VR.facts
        clear q0 q1 q2 q3 t0 t1 t2 t3 r0 r1 r2 r3
        generalize put4 w6 (W.heap.size + 2) A2 c2 P2 cp2 D = wx at *
        exact bodyPost_ret (v := .tuple #[.agg #[.int .i64 D.size, .slice A2 D.secs.length c2, .slice P2 D.pend.length cp2, .int .i64 D.left], .int .i64 20]) (by simp [results, Try.results29, go_sem, k0, k1, k2, k3]) rfl (by rw [HE.out]; exact ⟨_, _, rfl, VR.dk, KR⟩)
  have k0' : (a.kind == 0) = false := by simpa using k0
  by_cases k1 : a.kind = 1
  · have k1' : (a.kind == 1) = true := by simpa using k1
    have hD1 : D0 = rewD d a.recs := by rw [hD0]; unfold actD; rw [if_neg k0, if_pos k1]
    clear hD0
    have CT := rewrite_any w1 _ _ d V0.dk hn rA rc a.recs HA.recs
    rw [← hD1] at CT
    clear hD1
    have CT := Lib.hid CT
    go_wp2_with fail
    refine CT.out.mono ?_
    rintro e w2 ⟨vs, vp, rfl, hd2, hb2⟩
    clear CT
    obtain ⟨D, N⟩ := D0
    simp only at hd2 HD ⊢
    obtain ⟨A2, c2, P2, cp2, rfl, rfl, _, _, _, _⟩ := hd2.form
    have V0' := V0.keep hb2
    have V2' := V2.keep hb2
    have V3' := V3.keep hb2
    have K2 := K.trans (hb2.mono K.size)
    have X0 := V0'.other (A2 := A2) (c2 := c2) (P2 := P2) (cp2 := cp2) (d2 := D) V3' (by omega)
    have X2 := V2'.other (A2 := A2) (c2 := c2) (P2 := P2) (cp2 := cp2) (d2 := D) V3' (by omega)
    have X3 := V3'.assign hd2
    have KX := put4_below (A := A2) (c := c2) (P := P2) (cp := cp2) (d := D) K2 (show W.heap.size ≤ W.heap.size + 3 by omega)
    obtain ⟨t0, t1, t2, t3, r0, r1, r2, r3⟩ := V3'.facts
    clear V0 V2 V3 V0' V2' V3' K K2 hb2 hd2 B1 HA q0 q1 q2 q3 a0 a1 a2 a3
    go_upto_region 12 with (fail)
    change Code.wp _ _ _ _ (put4 w2 (W.heap.size + 3) A2 c2 P2 cp2 D)
    clear t0 t1 t2 t3 r0 r1 r2 r3
    generalize put4 w2 (W.heap.size + 3) A2 c2 P2 cp2 D = w6 at *
    by_cases hN : N ≠ 0 ∧ N ≠ 20
    · have HE := Lib.hid (HD.out.trans (if_pos hN))
      have n1 : (N != 0) = true := by simpa using hN.1
      have n2 : (N != 20) = true := by simpa using hN.2
      clear HD hN
      obtain ⟨q0, q1, q2, q3, _⟩ := X0.facts
      obtain ⟨t0, t1, t2, t3, r0, r1, r2, r3⟩ := X2.facts
      simp only [noDisk, List.length_nil] at t0 t1 t2 t3
      have VR := X2.assign X0.dk
      have KR := put4_below (A := A) (c := c) (P := P) (cp := cp) (d := d) KX (show W.heap.size ≤ W.heap.size + 2 by omega)
      clear X0 X2 X3 KX
      go_wp2
      change bodyPost _ _ _ _ _ (put4 w6 (W.heap.size + 2) A c P cp d)
      obtain ⟨k0, k1, k2, k3, _⟩ := VR.facts
      clear q0 q1 q2 q3 t0 t1 t2 t3 r0 r1 r2 r3
      generalize put4 w6 (W.heap.size + 2) A c P cp d = wx at *
      exact bodyPost_ret (v := .tuple #[.agg #[.int .i64 d.size, .slice A d.secs.length c, .slice P d.pend.length cp, .int .i64 d.left], .int .i64 N]) (by simp [results, Try.results29, go_sem, k0, k1, k2, k3]) rfl (by rw [HE.out]; exact ⟨_, _, rfl, VR.dk, KR⟩)
    · have HE := Lib.hid (HD.out.trans (if_neg hN))
      clear HD
      by_cases hN0 : N = 0
      · subst hN0
        obtain ⟨q0, q1, q2, q3, _⟩ := X3.facts
        obtain ⟨t0, t1, t2, t3, r0, r1, r2, r3⟩ := X2.facts
        simp only [noDisk, List.length_nil] at t0 t1 t2 t3
        have VR := X2.assign X3.dk
        have KR := put4_below (A := A2) (c := c2) (P := P2) (cp := cp2) (d := D) KX (show W.heap.size ≤ W.heap.size + 2 by omega)
        clear X0 X2 X3 KX
        go_wp2
        change bodyPost _ _ _ _ _ (put4 w6 (W.heap.size + 2) A2 c2 P2 cp2 D)
        obtain ⟨k0, k1, k2, k3, _⟩ := VR.facts
        clear q0 q1 q2 q3 t0 t1 t2 t3 r0 r1 r2 r3
        generalize put4 w6 (W.heap.size + 2) A2 c2 P2 cp2 D = wx at *
        exact bodyPost_ret (v := .tuple #[.agg #[.int .i64 D.size, .slice A2 D.secs.length c2, .slice P2 D.pend.length cp2, .int .i64 D.left], .int .i64 0]) (by simp [results, Try.results29, go_sem, k0, k1, k2, k3]) rfl (by rw [HE.out]; exact ⟨_, _, rfl, VR.dk, KR⟩)
      · have hN20 : N = 20 := by
          rcases Classical.em (N = 20) with e | e
          · exact e
          · exact absurd ⟨hN0, e⟩ hN
        subst hN20
        obtain ⟨q0, q1, q2, q3, _⟩ := X3.facts
        obtain ⟨t0, t1, t2, t3, r0, r1, r2, r3⟩ := X2.facts
        simp only [noDisk, List.length_nil] at t0 t1 t2 t3
        have VR := X2.assign X3.dk
        have KR := put4_below (A := A2) (c := c2) (P := P2) (cp := cp2) (d := D) KX (show W.heap.size ≤ W.heap.size + 2 by omega)
        clear X0 X2 X3 KX
        go_wp2
        change bodyPost _ _ _ _ _ (put4 w6 (W.heap.size + 2) A2 c2 P2 cp2 D)
        obtain ⟨k0, k1, k2, k3, _⟩ := VR.facts
        clear q0 q1 q2 q3 t0 t1 t2 t3 r0 r1 r2 r3
        generalize put4 w6 (W.heap.size + 2) A2 c2 P2 cp2 D = wx at *
        exact bodyPost_ret (v := .tuple #[.agg #[.int .i64 D.size, .slice A2 D.secs.length c2, .slice P2 D.pend.length cp2, .int .i64 D.left], .int .i64 20]) (by simp [results, Try.results29, go_sem, k0, k1, k2, k3]) rfl (by rw [HE.out]; exact ⟨_, _, rfl, VR.dk, KR⟩)
  have k1' : (a.kind == 1) = false := by simpa using k1
  by_cases k2 : a.kind = 2
  · have k2' : (a.kind == 2) = true := by simpa using k2
    by_cases hl : d.left = -1 ∧ 0 ≤ a.left
    · have hD1 : D0 = ({ d with left := a.left.tmod 12 }, 0) := by rw [hD0]; unfold actD; rw [if_neg k0, if_neg k1, if_pos k2, if_pos hl]
      subst hD1
      have HE := Lib.hid (HD.out.trans (if_neg (by simp)))
      clear HD hD0
      obtain ⟨hl1, hl2⟩ := hl
      have l2 := Int.tmod_nonneg 12 hl2
      have l3 := Int.tmod_lt_of_pos a.left (show (0 : Int) < 12 by omega)
      have hte : a.left.tmod 12 = a.left % 12 := Int.tmod_eq_emod_of_nonneg hl2
      rw [hte] at l2 l3 HE
      have l4 : (d.left == -1) = true := by simpa using hl1
      obtain ⟨t0, t1, t2, t3, r0, r1, r2, r3⟩ := V3.facts
      have X0 := V0.far3 V3 (by omega) 3 (.int .i64 (a.left % 12))
      have X2 := V2.far3 V3 (by omega) 3 (.int .i64 (a.left % 12))
      have X3 := V3.left (a.left % 12) (by omega) (by omega)
      have KX := K.setCell (p := ⟨W.heap.size + 3, 3, none⟩) (show W.heap.size ≤ W.heap.size + 3 by omega) (.int .i64 (a.left % 12))
      go_upto_region 12 with (fail)
      clear V0 V2 V3 K B1 HA q0 q1 q2 q3 a0 a1 a2 a3 t0 t1 t2 t3 r0 r1 r2 r3
      generalize w1.setCell ⟨W.heap.size + 3, 3, none⟩ (.int .i64 (a.left % 12)) = w6 at *
      obtain ⟨D, hD⟩ : ∃ D : Dk, D = { d with left := a.left % 12 } := ⟨_, rfl⟩
      rw [← hD] at X3 HE
      have hs1 : d.secs = D.secs := by rw [hD]
      have hs2 : d.pend = D.pend := by rw [hD]
      clear hD
      obtain ⟨q0, q1, q2, q3, _⟩ := X3.facts
      obtain ⟨t0, t1, t2, t3, r0, r1, r2, r3⟩ := X2.facts
      simp only [noDisk, List.length_nil] at t0 t1 t2 t3
      have VR := X2.assign X3.dk
      have KR := put4_below (A := A) (c := c) (P := P) (cp := cp) (d := D) KX (show W.heap.size ≤ W.heap.size + 2 by omega)
      clear X0 X2 X3 KX
      go_wp2
      change bodyPost _ _ _ _ _ (put4 w6 (W.heap.size + 2) A c P cp D)
      obtain ⟨k0, k1, k2, k3, _⟩ := VR.facts
      clear q0 q1 q2 q3 t0 t1 t2 t3 r0 r1 r2 r3
      generalize put4 w6 (W.heap.size + 2) A c P cp D = wx at *
      exact bodyPost_ret (v := .tuple #[.agg #[.int .i64 D.size, .slice A D.secs.length c, .slice P D.pend.length cp, .int .i64 D.left], .int .i64 0]) (by simp [results, Try.results29, go_sem, k0, k1, k2, k3]) rfl (by rw [HE.out]; exact ⟨_, _, rfl, VR.dk, KR⟩)
    · have hD1 : D0 = (d, 0) := by rw [hD0]; unfold actD; rw [if_neg k0, if_neg k1, if_pos k2, if_neg hl]
      subst hD1
      have HE := Lib.hid (HD.out.trans (if_neg (by simp)))
      clear HD hD0
      have X0 := V0
      have X2 := V2
      have X3 := V3
      have KX := K
      by_cases hl1 : d.left = -1
      · have l4 : (d.left == -1) = true := by simpa using hl1
        have l5 : ¬ 0 ≤ a.left := fun e => hl ⟨hl1, e⟩
        clear hl hl1
        go_upto_region 12 with (fail)
        clear V0 V2 V3 K B1 HA q0 q1 q2 q3 a0 a1 a2 a3
        obtain ⟨q0, q1, q2, q3, _⟩ := X3.facts
        obtain ⟨t0, t1, t2, t3, r0, r1, r2, r3⟩ := X2.facts
        simp only [noDisk, List.length_nil] at t0 t1 t2 t3
        have VR := X2.assign X3.dk
        have KR := put4_below (A := A) (c := c) (P := P) (cp := cp) (d := d) KX (show W.heap.size ≤ W.heap.size + 2 by omega)
        clear X0 X2 X3 KX
        go_wp2
        change bodyPost _ _ _ _ _ (put4 w1 (W.heap.size + 2) A c P cp d)
        obtain ⟨k0, k1, k2, k3, _⟩ := VR.facts
        clear q0 q1 q2 q3 t0 t1 t2 t3 r0 r1 r2 r3
        generalize put4 w1 (W.heap.size + 2) A c P cp d = wx at *
        exact bodyPost_ret (v := .tuple #[.agg #[.int .i64 d.size, .slice A d.secs.length c, .slice P d.pend.length cp, .int .i64 d.left], .int .i64 0]) (by simp [results, Try.results29, go_sem, k0, k1, k2, k3]) rfl (by rw [HE.out]; exact ⟨_, _, rfl, VR.dk, KR⟩)
      · have l4 : (d.left == -1) = false := by simpa using hl1
        clear hl hl1
        go_upto_region 12 with (fail)
        clear V0 V2 V3 K B1 HA q0 q1 q2 q3 a0 a1 a2 a3
        obtain ⟨q0, q1, q2, q3, _⟩ := X3.facts
        obtain ⟨t0, t1, t2, t3, r0, r1, r2, r3⟩ := X2.facts
        simp only [noDisk, List.length_nil] at t0 t1 t2 t3
        have VR := X2.assign X3.dk
        have KR := put4_below (A := A) (c := c) (P := P) (cp := cp) (d := d) KX (show W.heap.size ≤ W.heap.size + 2 by omega)
        clear X0 X2 X3 KX
        go_wp2
        change bodyPost _ _ _ _ _ (put4 w1 (W.heap.size + 2) A c P cp d)
        obtain ⟨k0, k1, k2, k3, _⟩ := VR.facts
        clear q0 q1 q2 q3 t0 t1 t2 t3 r0 r1 r2 r3
        generalize put4 w1 (W.heap.size + 2) A c P cp d = wx at *
        exact bodyPost_ret (v := .tuple #[.agg #[.int .i64 d.size, .slice A d.secs.length c, .slice P d.pend.length cp, .int .i64 d.left], .int .i64 0]) (by simp [results, Try.results29, go_sem, k0, k1, k2, k3]) rfl (by rw [HE.out]; exact ⟨_, _, rfl, VR.dk, KR⟩)
  have k2' : (a.kind == 2) = false := by simpa using k2
  by_cases k3 : a.kind = 3
  · have k3' : (a.kind == 3) = true := by simpa using k3
    have hD1 : D0 = (cutD d a.ps, 0) := by rw [hD0]; unfold actD; rw [if_neg k0, if_neg k1, if_neg k2, if_pos k3]
    subst hD1
    have HE := Lib.hid (HD.out.trans (if_neg (by simp)))
    clear HD hD0
    have CT := Lib.hid (cut_any w1 _ _ _ d V0.dk (by omega) a.ps HA.ps)
    generalize cutD d a.ps = D at *
    go_wp2_with fail
    refine CT.out.mono ?_
    rintro e w2 ⟨vs, vp, rfl, hd2, hb2⟩
    clear CT
    obtain ⟨A2, c2, P2, cp2, rfl, rfl, _, _, _, _⟩ := hd2.form
    have V0' := V0.keep hb2
    have V2' := V2.keep hb2
    have V3' := V3.keep hb2
    have K2 := K.trans (hb2.mono K.size)
    have X0 := V0'.other (A2 := A2) (c2 := c2) (P2 := P2) (cp2 := cp2) (d2 := D) V3' (by omega)
    have X2 := V2'.other (A2 := A2) (c2 := c2) (P2 := P2) (cp2 := cp2) (d2 := D) V3' (by omega)
    have X3 := V3'.assign hd2
    have KX := put4_below (A := A2) (c := c2) (P := P2) (cp := cp2) (d := D) K2 (show W.heap.size ≤ W.heap.size + 3 by omega)
    obtain ⟨t0, t1, t2, t3, r0, r1, r2, r3⟩ := V3'.facts
    clear V0 V2 V3 V0' V2' V3' K K2 hb2 hd2 B1 HA q0 q1 q2 q3 a0 a1 a2 a3
    go_upto_region 12 with (fail)
    change Code.wp _ _ _ _ (put4 w2 (W.heap.size + 3) A2 c2 P2 cp2 D)
    clear t0 t1 t2 t3 r0 r1 r2 r3
    generalize put4 w2 (W.heap.size + 3) A2 c2 P2 cp2 D = w6 at *
    obtain ⟨q0, q1, q2, q3, _⟩ := X3.facts
    obtain ⟨t0, t1, t2, t3, r0, r1, r2, r3⟩ := X2.facts
    simp only [noDisk, List.length_nil] at t0 t1 t2 t3
    have VR := X2.assign X3.dk
    have KR := put4_below (A := A2) (c := c2) (P := P2) (cp := cp2) (d := D) KX (show W.heap.size ≤ W.heap.size + 2 by omega)
    clear X0 X2 X3 KX
    go_wp2
    change bodyPost _ _ _ _ _ (put4 w6 (W.heap.size + 2) A2 c2 P2 cp2 D)
    obtain ⟨k0, k1, k2, k3, _⟩ := VR.facts
    clear q0 q1 q2 q3 t0 t1 t2 t3 r0 r1 r2 r3
    generalize put4 w6 (W.heap.size + 2) A2 c2 P2 cp2 D = wx at *
    exact bodyPost_ret (v := .tuple #[.agg #[.int .i64 D.size, .slice A2 D.secs.length c2, .slice P2 D.pend.length cp2, .int .i64 D.left], .int .i64 0]) (by simp [results, Try.results29, go_sem, k0, k1, k2, k3]) rfl (by rw [HE.out]; exact ⟨_, _, rfl, VR.dk, KR⟩)
  have k3' : (a.kind == 3) = false := by simpa using k3
  have hD1 : D0 = (d, 0) := by rw [hD0]; unfold actD; rw [if_neg k0, if_neg k1, if_neg k2, if_neg k3]
  subst hD1
  have HE := Lib.hid (HD.out.trans (if_neg (by simp)))
  clear HD hD0
  have X0 := V0
  have X2 := V2
  have X3 := V3
  have KX := K
  go_upto_region 12 with (fail)
  clear V0 V2 V3 K B1 HA q0 q1 q2 q3 a0 a1 a2 a3
  obtain ⟨q0, q1, q2, q3, _⟩ := X3.facts
  obtain ⟨t0, t1, t2, t3, r0, r1, r2, r3⟩ := X2.facts
  simp only [noDisk, List.length_nil] at t0 t1 t2 t3
  have VR := X2.assign X3.dk
  have KR := put4_below (A := A) (c := c) (P := P) (cp := cp) (d := d) KX (show W.heap.size ≤ W.heap.size + 2 by omega)
  clear X0 X2 X3 KX
  go_wp2
  change bodyPost _ _ _ _ _ (put4 w1 (W.heap.size + 2) A c P cp d)
  obtain ⟨k0, k1, k2, k3, _⟩ := VR.facts
  clear q0 q1 q2 q3 t0 t1 t2 t3 r0 r1 r2 r3
  generalize put4 w1 (W.heap.size + 2) A c P cp d = wx at *
  exact bodyPost_ret (v := .tuple #[.agg #[.int .i64 d.size, .slice A d.secs.length c, .slice P d.pend.length cp, .int .i64 d.left], .int .i64 0]) (by simp [results, Try.results29, go_sem, k0, k1, k2, k3]) rfl (by rw [HE.out]; exact ⟨_, _, rfl, VR.dk, KR⟩)
end Go.Proofs.Ytockmhhiomdlkaa

namespace Go.Proofs.Ytockmhhiomdlkaa
set_option linter.unusedVariables false
set_option linter.unusedSimpArgs false
open Go.RowKit

def fineA (a : ActJ) : Bool := !(grtT a.recs) && decide (a.ps.length ≤ 30)
def fineB (n z : Int) (l : List ActJ) : Bool := decide (3 ≤ n ∧ n ≤ 30 ∧ 1 ≤ z ∧ z ≤ 16 ∧ l.length ≤ 12) && l.all fineA
theorem fineB_true {n z : Int} {l : List ActJ} (h : fineB n z l = true) : (3 ≤ n ∧ n ≤ 30 ∧ 1 ≤ z ∧ z ≤ 16 ∧ l.length ≤ 12) ∧ ∀ a ∈ l, grtT a.recs = false ∧ a.ps.length ≤ 30 := by
  unfold fineB at h
  rw [Bool.and_eq_true] at h
  refine ⟨of_decide_eq_true h.1, fun a ha => ?_⟩
  have := List.all_eq_true.1 h.2 a ha
  unfold fineA at this
  simpa using this
theorem fine_size {n z : Int} {l : List ActJ} (h : ¬ (3 ≤ n ∧ n ≤ 30 ∧ 1 ≤ z ∧ z ≤ 16 ∧ l.length ≤ 12)) : fineB n z l = false := by
  unfold fineB; rw [decide_eq_false h]; rfl
set_option maxRecDepth 100000 in
set_option maxHeartbeats 2000000 in
theorem fine_any (W : World) (n z : Int) (hz0 : -9223372036854775808 ≤ z) (B : Option Addr) (lc : Nat) (l : List ActJ) (h : Acts W (.slice B l.length lc) l) :
    Calls Try.prog 28 #[.agg #[.int .i64 n, .int .i64 z, .slice B l.length lc]] W fun e w' => e = .returned (.bool (fineB n z l)) ∧ Below W.heap.size W w' := by
  have K1 := (Below.refl W.heap.size W).alloc (Nat.le_refl _) (.cells #[.int .i64 n, .int .i64 z, .slice B l.length lc] 42)
  have hb := Blk.new W #[.int .i64 n, .int .i64 z, .slice B l.length lc] 42
  by_cases h0 : 3 ≤ n ∧ n ≤ 30 ∧ 1 ≤ z ∧ z ≤ 16 ∧ l.length ≤ 12
  · obtain ⟨h1, h2, h3, h4, h5⟩ := h0
    have g1 : ¬ n < 3 := by omega
    have g2 : ¬ 30 < n := by omega
    have g3 : ¬ z < 1 := by omega
    have g4 : ¬ 16 < z := by omega
    have g5 : ¬ 12 < (l.length : Int) := by omega
    have HF : Hid (fineB n z l = (l.drop 0).all fineA) := by
      show _ = _
      unfold fineB
      rw [decide_eq_true ⟨h1, h2, h3, h4, h5⟩]; rfl
    go_enter Try.func28, Try.ntmps28
    go_upto_region 1 with (fail)
    generalize W.alloc (.cells #[.int .i64 n, .int .i64 z, .slice B l.length lc] 42) = w1 at *
    obtain ⟨p0, p1, p2, _, _, _⟩ := blk3 hb
    go_wp2
    go_loopw [32] (fun t wr => ∃ k : Nat, k ≤ l.length ∧ t = .int .i64 k ∧ Hid (fineB n z l = (l.drop k).all fineA) ∧ Below W.heap.size W wr) (fun t _ => l.length - (intOf t).toNat)
    case atStart => exact ⟨0, by omega, rfl, HF, K1⟩
    case round =>
      clear HF p0 p1 p2
      obtain ⟨k, hk, rfl, HK, hbr⟩ := hrel
      by_cases hlt : k < l.length
      · obtain ⟨b, off, rA, rc, iA, ic, rfl, a0, a1, a2, a3, hp⟩ := (h.keep (Keeps.of_below hbr)).get hlt
        have hd : l.drop k = l[k] :: l.drop (k + 1) := List.drop_eq_getElem_cons hlt
        have HK2 := Lib.hid (HK.out.trans (congrArg (fun x : List ActJ => x.all fineA) hd))
        clear HK hd
        generalize l[k] = x at *
        have hb2 := hbr.alloc hbr.size (.cells #[.int .i64 x.kind, .slice rA x.recs.length rc, .int .i64 x.left, .slice iA x.ps.length ic] 49)
        have hx := Blk.new wr #[.int .i64 x.kind, .slice rA x.recs.length rc, .int .i64 x.left, .slice iA x.ps.length ic] 49
        have hpx := hp.keep (Keeps.alloc wr (.cells #[.int .i64 x.kind, .slice rA x.recs.length rc, .int .i64 x.left, .slice iA x.ps.length ic] 49))
        clear hp hbr
        go_upto_region 6 with (fail)
        generalize wr.alloc (.cells #[.int .i64 x.kind, .slice rA x.recs.length rc, .int .i64 x.left, .slice iA x.ps.length ic] 49) = w2 at *
        have x1 : w2.cell? ⟨wr.heap.size, 1, none⟩ = some (.slice rA x.recs.length rc) := hx.cell (j := 1) rfl
        have CG := Lib.hid (rgreat_any w2 rA rc x.recs hpx.recs)
        go_wp2_with fail
        refine CG.out.mono ?_
        rintro e w3 ⟨rfl, hb3⟩
        have x3 : w3.cell? ⟨wr.heap.size, 3, none⟩ = some (.slice iA x.ps.length ic) := (hx.keep hb3).cell (j := 3) rfl
        have K3 := hb2.trans (hb3.mono hb2.size)
        clear CG x1 hx hpx hb2 hb3 a0 a1 a2 a3
        cases hg : grtT x.recs with
        | true =>
          have HE : Hid (fineB n z l = false) := by
            show _ = _
            rw [HK2.out]
            simp only [List.all_cons]
            unfold fineA
            rw [hg]; rfl
          clear HK2 hg
          go_wp2
          go_ret
          exact ⟨ret_bool HE.out.symm, K3⟩
        | false =>
          by_cases hp30 : 30 < (x.ps.length : Int)
          · have HE : Hid (fineB n z l = false) := by
              show _ = _
              rw [HK2.out]
              simp only [List.all_cons]
              unfold fineA
              rw [hg, decide_eq_false (by omega : ¬ x.ps.length ≤ 30)]; rfl
            clear HK2 hg
            go_wp2
            go_ret
            exact ⟨ret_bool HE.out.symm, K3⟩
          · have HE : Hid (fineB n z l = (l.drop (k + 1)).all fineA) := by
              show _ = _
              rw [HK2.out]
              simp only [List.all_cons]
              unfold fineA
              rw [hg, decide_eq_true (by omega : x.ps.length ≤ 30)]; rfl
            clear HK2 hg
            go_wp2
            go_roundw
            case rel => exact ⟨k + 1, by omega, by go_num, HE, K3⟩
            case measure => simp [intOf]; omega
      · have HE : Hid (fineB n z l = true) := by
          show _ = _
          rw [HK.out, List.drop_of_length_le (by omega)]; rfl
        clear HK
        go_wp2
        go_ret
        exact ⟨ret_bool HE.out.symm, hbr⟩
  · have HE := Lib.hid (fine_size h0)
    by_cases g1 : n < 3
    all_goals by_cases g2 : 30 < n
    all_goals by_cases g3 : z < 1
    all_goals by_cases g4 : 16 < z
    all_goals by_cases g5 : 12 < (l.length : Int)
    all_goals first
      | (exfalso; exact h0 ⟨by omega, by omega, by omega, by omega, by omega⟩)
      | (clear h0
         go_enter Try.func28, Try.ntmps28
         go_upto_region 1 with (fail)
         generalize W.alloc (.cells #[.int .i64 n, .int .i64 z, .slice B l.length lc] 42) = w1 at *
         obtain ⟨p0, p1, p2, _, _, _⟩ := blk3 hb
         go_wp2
         go_ret
         exact ⟨ret_bool HE.out.symm, K1⟩)
end Go.Proofs.Ytockmhhiomdlkaa

namespace Go.Proofs.Ytockmhhiomdlkaa
set_option linter.unusedVariables false
set_option linter.unusedSimpArgs false
open Go.RowKit

/-- An answer of reached. -/
def ReachE (W : World) (D : Dk) (ok : Bool) (e : Ending) (w : World) : Prop := ∃ vs vp, e = .returned (.tuple #[.agg #[.int .i64 D.size, vs, vp, .int .i64 D.left], .bool ok]) ∧ DskP w vs vp D ∧ Below W.heap.size W w
def rchD (n z : Int) (l : List ActJ) : Dk := if fineB n z l = true then reachD n.toNat z.toNat l else noDisk
theorem reach_jst {n z : Nat} (hn : 3 ≤ n) (hn2 : n ≤ 1000) (hz : 1 ≤ z) (hz2 : z ≤ 512) (l : List ActJ) : ∃ s un, Jst (reachD n z l) s un ∧ (reachD n z l).size = z ∧ (reachD n z l).secs.length = n := by
  obtain ⟨h1, h2, h3, h4⟩ := fmt_jst hn hn2 hz hz2
  unfold reachD
  generalize (fmtD (zD n z)).1 = d at *
  clear h1
  have key : ∀ (l : List ActJ) (d : Dk) (s : List Txt) (un : Option (List Txt)), Jst d s un → d.size = z → d.secs.length = n → ∃ s un, Jst (l.foldl (fun d a => (doD d a).1) d) s un ∧ (l.foldl (fun d a => (doD d a).1) d).size = z ∧ (l.foldl (fun d a => (doD d a).1) d).secs.length = n := by
    intro l
    induction l with
    | nil => intro d s un h h1 h2; exact ⟨s, un, h, h1, h2⟩
    | cons a l ih =>
      intro d s un h h1 h2
      have hs := h.step a
      exact ih _ _ _ hs.1 (hs.2.1.trans h1) (hs.2.2.1.trans h2)
  exact key l d _ _ h2 h3 h4
set_option maxRecDepth 100000 in
set_option maxHeartbeats 4000000 in
theorem reached_any (W : World) (n z : Int) (hz0 : -9223372036854775808 ≤ z) (B : Option Addr) (lc : Nat) (l : List ActJ) (h : Acts W (.slice B l.length lc) l) :
    Calls Try.prog 26 #[.agg #[.int .i64 n, .int .i64 z, .slice B l.length lc]] W (ReachE W (rchD n z l) (fineB n z l)) := by
  obtain ⟨_, _, el, hlc, hlm⟩ := h.form
  cases el
  have hb0 := (Blk.new W #[.int .i64 n, .int .i64 z, .slice B l.length lc] 42).alloc (.cells #[.int .i64 0, .slice none 0 0, .slice none 0 0, .int .i64 0] 25)
  have V2 : Var ((W.alloc (.cells #[.int .i64 n, .int .i64 z, .slice B l.length lc] 42)).alloc (.cells #[.int .i64 0, .slice none 0 0, .slice none 0 0, .int .i64 0] 25)) (W.alloc (.cells #[.int .i64 n, .int .i64 z, .slice B l.length lc] 42)).heap.size none 0 none 0 noDisk := Var.zero _
  rw [World.size_alloc] at V2
  have K1 := ((Below.refl W.heap.size W).alloc (Nat.le_refl _) (.cells #[.int .i64 n, .int .i64 z, .slice B l.length lc] 42)).alloc (by simp) (.cells #[.int .i64 0, .slice none 0 0, .slice none 0 0, .int .i64 0] 25)
  have HRD : Hid (rchD n z l = if fineB n z l = true then reachD n.toNat z.toNat l else noDisk) := rfl
  go_enter Try.func26, Try.ntmps26
  go_upto_region 1 with (fail)
  generalize (W.alloc (.cells #[.int .i64 n, .int .i64 z, .slice B l.length lc] 42)).alloc (.cells #[.int .i64 0, .slice none 0 0, .slice none 0 0, .int .i64 0] 25) = w1 at *
  have HL1 := h.keep (Keeps.of_below K1)
  have CF := Lib.hid (fine_any w1 n z hz0 B lc l HL1)
  obtain ⟨p0, p1, p2, _, _, _⟩ := blk3 hb0
  go_wp2_with fail
  refine CF.out.mono ?_
  rintro e w2 ⟨rfl, hb2⟩
  have hbb := hb0.keep hb2
  have V2' := V2.keep hb2
  have K2 := K1.trans (hb2.mono K1.size)
  clear CF p0 p1 p2 hb0 V2 K1 HL1 hb2
  cases hf : fineB n z l with
  | false =>
    have HFb := Lib.hid hf
    rw [hf] at HRD
    have HE := Lib.hid (HRD.out.trans (if_neg (by simp)))
    have VR := V2'.assign (A' := none) (c' := 0) (P' := none) (cp' := 0) (d' := noDisk) (Dsk.nodisk w2)
    have KR := put4_below (A := none) (c := 0) (P := none) (cp := 0) (d := noDisk) K2 (show W.heap.size ≤ W.heap.size + 1 by omega)
    obtain ⟨t0, t1, t2, t3, r0, r1, r2, r3⟩ := V2'.facts
    simp only [noDisk, List.length_nil] at t0 t1 t2 t3
    clear HRD hbb V2' K2
    go_wp2
    change bodyPost _ _ _ _ _ (put4 w2 (W.heap.size + 1) none 0 none 0 noDisk)
    obtain ⟨k0, k1, k2, k3, _⟩ := VR.facts
    clear t0 t1 t2 t3 r0 r1 r2 r3
    generalize put4 w2 (W.heap.size + 1) none 0 none 0 noDisk = wx at *
    exact bodyPost_ret (v := .tuple #[.agg #[.int .i64 0, .slice none 0 0, .slice none 0 0, .int .i64 0], .bool false]) (by simp only [noDisk, List.length_nil] at k0 k1 k2 k3; simp [results, Try.results26, go_sem, k0, k1, k2, k3]) rfl (by rw [HE.out, HFb.out]; exact ⟨_, _, rfl, VR.dk, KR⟩)
  | true =>
    have HFb := Lib.hid hf
    obtain ⟨⟨f1, f2, f3, f4, f5⟩, f6⟩ := fineB_true hf
    rw [hf] at HRD
    have HE := Lib.hid (HRD.out.trans (if_pos rfl))
    clear HRD hf
    obtain ⟨m, rfl⟩ := Int.eq_ofNat_of_zero_le (show 0 ≤ n by omega)
    obtain ⟨y, rfl⟩ := Int.eq_ofNat_of_zero_le (show 0 ≤ z by omega)
    rw [Int.toNat_natCast, Int.toNat_natCast] at HE
    obtain ⟨j1, j2, j3, j4⟩ := fmt_jst (n := m) (z := y) (by omega) (by omega) (by omega) (by omega)
    clear j3 j4
    have CZ := Lib.hid (zerosL_any w2 m y (by omega) (by omega) (by omega) (by omega))
    have HFM : Hid (reachD m y l = (l.drop 0).foldl (fun d a => (doD d a).1) (fmtD (zD m y)).1) := rfl
    obtain ⟨p0, p1, p2, _, _, _⟩ := blk3 hbb
    have HZP : Hid ((zD m y).pend.length ≤ 10000) := by show _ ≤ _; simp [zD]
    generalize zD m y = d0 at *
    go_wp2_with fail
    refine CZ.out.mono ?_
    rintro e w3 ⟨vs, vp, rfl, hD, hb3⟩
    have CFm := format_any w3 vs vp d0 hD HZP.out
    rw [j1] at CFm
    have CFm := Lib.hid CFm
    clear CZ p0 p1 p2 hD j1
    generalize (fmtD d0).1 = d1 at *
    have hbb3 := hbb.keep hb3
    have V23 := V2'.keep hb3
    have K3 := K2.trans (hb3.mono K2.size)
    clear hbb V2' K2 hb3
    go_wp2_with fail
    refine CFm.out.mono ?_
    rintro e w4 ⟨vs4, vp4, rfl, hD4, hb4⟩
    obtain ⟨A, c, P, cp, rfl, rfl, hc, hcp, hm, hmp⟩ := hD4.form
    clear CFm
    have V4 := Var.new hD4
    have V24 := (V23.keep hb4).alloc (.cells #[.int .i64 d1.size, .slice A d1.secs.length c, .slice P d1.pend.length cp, .int .i64 d1.left] 25)
    have hbb4 := (hbb3.keep hb4).alloc (.cells #[.int .i64 d1.size, .slice A d1.secs.length c, .slice P d1.pend.length cp, .int .i64 d1.left] 25)
    have hlt := (V23.keep hb4).blk.lt
    have K4 := (K3.trans (hb4.mono K3.size)).alloc (by have := (K3.trans (hb4.mono K3.size)).size; omega) (.cells #[.int .i64 d1.size, .slice A d1.secs.length c, .slice P d1.pend.length cp, .int .i64 d1.left] 25)
    clear V23 hbb3 K3 hD4 hb4
    go_upto_region 6 with (fail)
    generalize w4.alloc (.cells #[.int .i64 d1.size, .slice A d1.secs.length c, .slice P d1.pend.length cp, .int .i64 d1.left] 25) = w5 at *
    generalize w4.heap.size = g4 at *
    obtain ⟨p0, p1, p2, _, _, _⟩ := blk3 hbb4
    have hg4 : W.heap.size + 1 < g4 := hlt
    go_wp2
    clear p0 p1 p2
    go_loopw [27] (fun t wr => ∃ (k : Nat) (D : Dk) (A2 : Option Addr) (c2 : Nat) (P2 : Option Addr) (cp2 : Nat), k ≤ l.length ∧ t = .int .i64 k ∧ Var wr g4 A2 c2 P2 cp2 D ∧ Var wr (W.heap.size + 1) none 0 none 0 noDisk ∧ Hid (reachD m y l = (l.drop k).foldl (fun d a => (doD d a).1) D) ∧ Hid (∃ s un, Jst D s un) ∧ Below W.heap.size W wr) (fun t _ => l.length - (intOf t).toNat)
    case atStart => exact ⟨0, d1, A, c, P, cp, by omega, rfl, V4, V24, HFM, ⟨_, _, j2⟩, K4⟩
    case round =>
      clear V4 V24 K4 HFM hbb4 j2
      obtain ⟨k, D, A2, c2, P2, cp2, hk, rfl, VD, VZ, HK, HJ, hbr⟩ := hrel
      by_cases hlt : k < l.length
      · obtain ⟨b, off, rA, rc, iA, ic, rfl, a0, a1, a2, a3, hp⟩ := (h.keep (Keeps.of_below hbr)).get hlt
        have hd : l.drop k = l[k] :: l.drop (k + 1) := List.drop_eq_getElem_cons hlt
        have HK2 := Lib.hid (HK.out.trans (congrArg (fun x : List ActJ => x.foldl (fun d a => (doD d a).1) D) hd))
        clear HK hd
        generalize l[k] = x at *
        have hb2 := hbr.alloc hbr.size (.cells #[.int .i64 x.kind, .slice rA x.recs.length rc, .int .i64 x.left, .slice iA x.ps.length ic] 49)
        have hx := Blk.new wr #[.int .i64 x.kind, .slice rA x.recs.length rc, .int .i64 x.left, .slice iA x.ps.length ic] 49
        have hpx := hp.keep (Keeps.alloc wr (.cells #[.int .i64 x.kind, .slice rA x.recs.length rc, .int .i64 x.left, .slice iA x.ps.length ic] 49))
        have VD2 := VD.alloc (.cells #[.int .i64 x.kind, .slice rA x.recs.length rc, .int .i64 x.left, .slice iA x.ps.length ic] 49)
        have VZ2 := VZ.alloc (.cells #[.int .i64 x.kind, .slice rA x.recs.length rc, .int .i64 x.left, .slice iA x.ps.length ic] 49)
        clear hp hbr VD VZ
        go_upto_region 9 with (fail)
        generalize wr.alloc (.cells #[.int .i64 x.kind, .slice rA x.recs.length rc, .int .i64 x.left, .slice iA x.ps.length ic] 49) = w6 at *
        obtain ⟨s, un, hj⟩ := HJ.out
        have hjs := hj.step x
        have HJ2 : Hid (∃ s un, Jst (doD D x).1 s un) := ⟨_, _, hjs.1⟩
        have CD := Lib.hid (do_any w6 A2 c2 P2 cp2 D VD2.dk (by have := hj.valid.2.2; omega) rA rc iA ic x hpx)
        clear hj hjs HJ a0 a1 a2 a3
        obtain ⟨x0, x1, x2, x3⟩ : w6.cell? ⟨wr.heap.size, 0, none⟩ = some (.int .i64 x.kind) ∧ w6.cell? ⟨wr.heap.size, 1, none⟩ = some (.slice rA x.recs.length rc) ∧ w6.cell? ⟨wr.heap.size, 2, none⟩ = some (.int .i64 x.left) ∧ w6.cell? ⟨wr.heap.size, 3, none⟩ = some (.slice iA x.ps.length ic) := ⟨hx.cell (j := 0) rfl, hx.cell (j := 1) rfl, hx.cell (j := 2) rfl, hx.cell (j := 3) rfl⟩
        obtain ⟨q0, q1, q2, q3, _⟩ := VD2.facts
        have HK3 : Hid (reachD m y l = (l.drop (k + 1)).foldl (fun d a => (doD d a).1) (doD D x).1) := HK2.out
        clear HK2
        generalize (doD D x).1 = D2 at *
        generalize (doD D x).2 = N2 at *
        go_wp2_with fail
        refine CD.out.mono ?_
        rintro e w7 ⟨vs7, vp7, rfl, hD7, hb7⟩
        obtain ⟨A3, c3, P3, cp3, rfl, rfl, _, _, _, _⟩ := hD7.form
        have VD7 := VD2.keep hb7
        have VZ7 := VZ2.keep hb7
        have VX := VD7.assign hD7
        have VY := VZ7.other (A2 := A3) (c2 := c3) (P2 := P3) (cp2 := cp3) (d2 := D2) VD7 (by omega)
        have KX := put4_below (A := A3) (c := c3) (P := P3) (cp := cp3) (d := D2) (hb2.trans (hb7.mono hb2.size)) (show W.heap.size ≤ g4 by omega)
        obtain ⟨t0, t1, t2, t3, r0, r1, r2, r3⟩ := VD7.facts
        clear CD x0 x1 x2 x3 q0 q1 q2 q3 VD2 VZ2 VD7 VZ7 hb2 hb7 hD7 hx hpx
        go_upto_region 10 with (fail)
        change Code.wp _ _ _ _ (put4 w7 g4 A3 c3 P3 cp3 D2)
        clear t0 t1 t2 t3 r0 r1 r2 r3
        generalize put4 w7 g4 A3 c3 P3 cp3 D2 = w8 at *
        go_wp2
        go_roundw
        case rel => exact ⟨k + 1, D2, A3, c3, P3, cp3, by omega, by go_num, VX, VY, HK3, HJ2, KX⟩
        case measure => simp [intOf]; omega
      · have HE2 : Hid (rchD (m : Int) (y : Int) l = D) := by
          show _ = _
          rw [HE.out, HK.out, List.drop_of_length_le (by omega)]; rfl
        clear HK HE HJ
        obtain ⟨q0, q1, q2, q3, _⟩ := VD.facts
        obtain ⟨t0, t1, t2, t3, r0, r1, r2, r3⟩ := VZ.facts
        simp only [noDisk, List.length_nil] at t0 t1 t2 t3
        have VR := VZ.assign VD.dk
        have KR := put4_below (A := A2) (c := c2) (P := P2) (cp := cp2) (d := D) hbr (show W.heap.size ≤ W.heap.size + 1 by omega)
        clear VD VZ hbr
        go_wp2
        change bodyPost _ _ _ _ _ (put4 wr (W.heap.size + 1) A2 c2 P2 cp2 D)
        obtain ⟨k0, k1, k2, k3, _⟩ := VR.facts
        clear q0 q1 q2 q3 t0 t1 t2 t3 r0 r1 r2 r3
        generalize put4 wr (W.heap.size + 1) A2 c2 P2 cp2 D = wx at *
        exact bodyPost_ret (v := .tuple #[.agg #[.int .i64 D.size, .slice A2 D.secs.length c2, .slice P2 D.pend.length cp2, .int .i64 D.left], .bool true]) (by simp [results, Try.results26, go_sem, k0, k1, k2, k3]) rfl (by rw [HE2.out, HFb.out]; exact ⟨_, _, rfl, VR.dk, KR⟩)
end Go.Proofs.Ytockmhhiomdlkaa

namespace Go.Proofs.Ytockmhhiomdlkaa
set_option linter.unusedVariables false
set_option linter.unusedSimpArgs false
open Go.RowKit

theorem read_any (W : World) (vs vp : Value) (d : Dk) (h : DskP W vs vp d) (hpl : d.pend.length ≤ 100000) (i : Int) (hi0 : -9223372036854775808 ≤ i) (hi1 : i ≤ 9223372036854775807) :
    Calls Try.prog 32 #[.agg #[.int .i64 d.size, vs, vp, .int .i64 d.left], .int .i64 i] W (RdPost W (rdB d i) (rdE d i)) := by
  by_cases hz : rdE d i = 0
  · have hk : chk d = 0 := by
      apply Classical.byContradiction
      intro hk
      rw [(rd_bad hk).1] at hz
      cases hz
    have hr : ¬ (i < 0 ∨ (d.secs.length : Int) ≤ i) := by
      intro ho
      rw [(rd_out hk ho).1] at hz
      cases hz
    obtain ⟨m, rfl⟩ := Int.eq_ofNat_of_zero_le (show 0 ≤ i by omega)
    rw [hz]
    exact read_in W vs vp d h m hk (by omega) hpl
  · exact read_err W vs vp d h i hi0 hi1 hz


set_option maxRecDepth 100000 in
set_option maxHeartbeats 4000000 in
theorem awake_any (W : World) : Calls Try.prog 13 #[] W fun e w' => e = .returned (.bool true) ∧ Below W.heap.size W w' := by
  have CZ := Lib.hid (zerosL_any W 9 4 (by omega) (by omega) (by omega) (by omega))
  have X0 : Hid ((fmtD (zD 9 4)).2 = 0) := exJ0
  have X1 : Hid ((appD (fmtD (zD 9 4)).1 [[97, 98]]).2 = 0) := exJ1
  have X1' : Hid ((appD (fmtD (zD 9 4)).1 [[97, 98]]).1 = exJ) := rfl
  have X2 : Hid (rdE exJ 1 = 0 ∧ rdB exJ 1 = ⟨#[1, 4, 1, 2]⟩) := exJ2
  have X3 : Hid (rdE exJ 2 = 0 ∧ rdB exJ 2 = ⟨#[97, 98, 0, 0]⟩) := exJ3
  have X4 : Hid (roomD exJ = (2, 0)) := exJ4
  have X5 : Hid ((fmtD (zD 9 4)).1.pend.length = 0 ∧ exJ.pend.length = 0) := exJ5
  have X6 : Hid ((zD 9 4).pend.length = 0) := rfl
  generalize exJ = d2 at *
  generalize zD 9 4 = d0 at *
  go_enter Try.func13, Try.ntmps13
  go_wp2_with fail
  refine CZ.out.mono ?_
  rintro e w1 ⟨vs, vp, rfl, hD, hb1⟩
  have CFm := format_any w1 vs vp d0 hD (by have := X6.out; omega)
  rw [X0.out] at CFm
  have CFm := Lib.hid CFm
  clear CZ hD X0 X6
  generalize (fmtD d0).1 = d1 at *
  go_wp2_with fail
  refine CFm.out.mono ?_
  rintro e w2 ⟨vs2, vp2, rfl, hD2, hb2⟩
  obtain ⟨A, c, P, cp, rfl, rfl, hc, hcp, hm, hmp⟩ := hD2.form
  have V := Var.new hD2
  have K0 := hb1.trans (hb2.mono hb1.size)
  have K := K0.alloc K0.size (.cells #[.int .i64 d1.size, .slice A d1.secs.length c, .slice P d1.pend.length cp, .int .i64 d1.left] 25)
  have hlt : W.heap.size ≤ w2.heap.size := K0.size
  clear CFm hb1 hb2 hD2 K0
  go_upto_region 2 with (fail)
  generalize w2.alloc (.cells #[.int .i64 d1.size, .slice A d1.secs.length c, .slice P d1.pend.length cp, .int .i64 d1.left] 25) = w3 at *
  generalize w2.heap.size = g at *
  obtain ⟨q0, q1, q2, q3, _⟩ := V.facts
  have ht : Txs (w3.alloc (.cells #[.string ⟨#[97, 98]⟩] 9)) (.slice (some ⟨w3.heap.size, 0, none⟩) 1 1) [[97, 98]] :=
    ⟨_, 1, [.string ⟨#[97, 98]⟩], rfl, Nat.le_refl _, by unfold maxLen; omega, by simpa using CellsAt.of_new w3 #[.string ⟨#[97, 98]⟩] 9 (0, 0), Elems.one rfl rfl⟩
  have Va := V.alloc (.cells #[.string ⟨#[97, 98]⟩] 9)
  have CA := append_any _ _ _ d1 Va.dk (by have := X5.out.1; omega) (some ⟨w3.heap.size, 0, none⟩) 1 [[97, 98]] ht
  rw [X1.out, X1'.out] at CA
  have CA := Lib.hid CA
  have Ka := K.alloc K.size (.cells #[.string ⟨#[97, 98]⟩] 9)
  clear X1 X1' ht V K
  go_wp2_with fail
  refine CA.out.mono ?_
  rintro e w4 ⟨vs4, vp4, rfl, hD4, hb4⟩
  clear CA q0 q1 q2 q3
  obtain ⟨A2, c2, P2, cp2, rfl, rfl, _, _, _, _⟩ := hD4.form
  have V4 := Va.keep hb4
  have VX := V4.assign hD4
  have KX := put4_below (A := A2) (c := c2) (P := P2) (cp := cp2) (d := d2) (Ka.trans (hb4.mono Ka.size)) hlt
  obtain ⟨t0, t1, t2, t3, r0, r1, r2, r3⟩ := V4.facts
  clear Va V4 Ka hb4 hD4
  go_upto_region 3 with (fail)
  change Code.wp _ _ _ _ (put4 w4 g A2 c2 P2 cp2 d2)
  clear t0 t1 t2 t3 r0 r1 r2 r3
  generalize put4 w4 g A2 c2 P2 cp2 d2 = w5 at *
  have CR := read_any w5 _ _ d2 VX.dk (by have := X5.out.2; omega) 1 (by omega) (by omega)
  rw [X2.out.1, X2.out.2] at CR
  have CR := Lib.hid CR
  obtain ⟨q0, q1, q2, q3, _⟩ := VX.facts
  go_wp2_with fail
  refine CR.out.mono ?_
  rintro e w6 ⟨rfl, hb6⟩
  have V6 := VX.keep hb6
  have K6 := KX.trans (hb6.mono KX.size)
  clear CR q0 q1 q2 q3 VX KX hb6
  have CR := read_any w6 _ _ d2 V6.dk (by have := X5.out.2; omega) 2 (by omega) (by omega)
  rw [X3.out.1, X3.out.2] at CR
  have CR := Lib.hid CR
  obtain ⟨q0, q1, q2, q3, _⟩ := V6.facts
  go_wp2_with fail
  refine CR.out.mono ?_
  rintro e w7 ⟨rfl, hb7⟩
  have V7 := V6.keep hb7
  have K7 := K6.trans (hb7.mono K6.size)
  clear CR q0 q1 q2 q3 V6 K6 hb7
  have CR := room_any w7 _ _ d2 V7.dk
  rw [X4.out] at CR
  have CR := Lib.hid CR
  obtain ⟨q0, q1, q2, q3, _⟩ := V7.facts
  go_wp2_with fail
  refine CR.out.mono ?_
  rintro e w8 ⟨rfl, hb8⟩
  have K8 := K7.trans (hb8.mono K7.size)
  clear CR q0 q1 q2 q3 V7 K7 hb8
  have h1 := str_eq (rfl : (⟨#[1, 4, 1, 2]⟩ : ByteArray) = ⟨#[1, 4, 1, 2]⟩)
  have h2 := str_eq (rfl : (⟨#[97, 98, 0, 0]⟩ : ByteArray) = ⟨#[97, 98, 0, 0]⟩)
  go_wp2
  go_ret
  exact ⟨rfl, K8⟩
end Go.Proofs.Ytockmhhiomdlkaa

namespace Go.Proofs.Ytockmhhiomdlkaa
set_option linter.unusedVariables false
set_option linter.unusedSimpArgs false
open Go.RowKit

theorem wpList_append_anyG {ops : Array Oper} {rest : List Oper} {o : Oper} {a : Go.Act} {Q : Exit → Go.Act → World → Prop} {P : Program} {w : World} (hgd : Region.wanted o (yielded ops a.tmps) = true) (s x : Operand) (t : TypeId)
    (ho : o.op = .call { callee := .builtin .append, args := #[s, x], argTypes := #[t, t] })
    (base : Nat) (e : TypeId) (i : TypeInfo) (z : Value) (size bytes : Nat) (ht : P.underlying t = some (.slice e)) (hi : P.info? e = some i) (hz : i.zero = some z)
    (hsize : i.size = size) (hby : i.bytes = bytes) (hzs : z.cells.size = size) (hsz : 0 < size)
    (v : Value) (n : Nat) (xs : List Value) (hs : a.eval s = v) (hown : w.ownsRow base e size v n xs)
    (A : Option Addr) (m c : Nat) (news : List Value) (hx : a.eval x = .slice A m c) (hl : news.length = m * size) (hr : CellsAt w A news) (h1 : ∀ u ∈ news, u.oneCell' = true)
    (h63 : n + m ≤ 9223372036854775807) (hbytes : (n + m) * bytes ≤ 140737488355328) (hbase : base ≤ w.heap.size)
    (h : ∀ v' w', w'.ownsRow base e size v' (n + m) (xs ++ news) → w.grownBy w' v.ownBlock → (v'.ownBlock = v.ownBlock ∨ v'.ownBlock = some w.heap.size) → wpList P ops Q rest (a.put o.dst v') w') :
    wpList P ops Q (o :: rest) a w := by
  refine wpList_step fun K hK => ?_
  rw [if_pos hgd]
  have h63' : n + m ≤ maxLen := by unfold maxLen; omega
  rcases A with _ | ad
  · have hn : news = [] := by
      cases news with
      | nil => rfl
      | cons u us =>
        obtain ⟨_, _, e, _⟩ := hr 0 u rfl
        cases e
    subst hn
    have hm : m = 0 := by
      have h2 : m * size = 0 := hl.symm
      rcases Nat.mul_eq_zero.1 h2 with h | h
      · exact h
      · omega
    subst hm
    have hrun : (Builtin.append_ #[t, t] o.type #[v, .slice none 0 c]).run P w = .ok v w := by
      rcases hown.2 with ⟨rfl, rfl⟩ | ⟨g, cap, cur, rfl, _, _, hnc, _⟩
      · simp [Builtin.append_, run_underlying ht, sizeOf, typeInfo, hi, Builtin.lenOf, Builtin.firstCells]
      · simp [Builtin.append_, run_underlying ht, sizeOf, typeInfo, hi, Builtin.lenOf, Builtin.firstCells, hnc, storeCells]
    unfold Oper.wp execOp
    simp only [ho, resolve, invoke, builtin, Sem.run_bind, Sem.run_pure, Result.andThen_ok, List.map_toArray, List.map_cons, List.map_nil, hs, hx, hrun]
    exact hK _ _ (h v w (by simpa using hown) (World.grownBy.refl w _) (.inl rfl))
  · obtain ⟨v', w', hrun, h2, h3, _, h5⟩ := run_append_own_at (P := P) w base t o.type e i z size bytes ht hi hz hsize hby hzs hsz v n xs hown ad m c news hl hr.kit h1 h63' hbytes hbase
    unfold Oper.wp execOp
    simp only [ho, resolve, invoke, builtin, Sem.run_bind, Sem.run_pure, Result.andThen_ok, List.map_toArray, List.map_cons, List.map_nil, hs, hx, hrun]
    exact hK _ _ (h v' w' h2 h3 h5)

/-- A row of texts of the call's own. -/
theorem own_empty (w : World) (t : TypeId) (sz : Nat) : (w.alloc (.cells #[] t)).ownsRow w.heap.size t sz (.slice (some ⟨w.heap.size, 0, none⟩) 0 0) 0 [] :=
  ⟨by simp, .inr ⟨w.heap.size, 0, #[], rfl, Nat.le_refl _, Blk.new w #[] t, Nat.le_refl _, by unfold maxLen; omega, by simp, by simp⟩⟩
theorem txs_one {w : World} {A : Option Addr} {n c : Nat} {l : List Txt} (h : Txs w (.slice A n c) l) : CellsAt w A (l.map fun t => .string (strB t)) := by
  have := strs_cells' (show Strs w (.slice A n c) (l.map strB) from h)
  rwa [List.map_map] at this
theorem txs_ownS {w : World} {B n : Nat} {v : Value} {l : List Txt} (hn : n = l.length) (h : w.ownsRow B 9 1 v n (l.map fun t => .string (strB t))) : Txs w v l := by
  subst hn
  refine strs_of_own (base := B) (xs := l.map strB) ?_
  rw [List.length_map, List.map_map]
  exact h
/-! ### how many records there can be -/
theorem frA_count {a : Txt} {sz H : Nat} (hs : 1 ≤ sz) : ∀ (f k : Nat) (acc r : List Txt) (u : Nat), frA a sz H f k acc = some (r, u) → k ≤ u ∧ r.length ≤ acc.length + 1000 * (u - k)
  | 0, k, acc, r, u, h => by
    have e : (acc, k) = (r, u) := Option.some.inj h
    cases e
    omega
  | f + 1, k, acc, r, u, h => by
    by_cases hc : k < H ∧ a[k * sz]? ≠ some 0
    · rw [frA_go hc] at h
      cases hd : decFr (a.drop (k * sz)) with
      | mk l q =>
        obtain ⟨c, ok⟩ := q
        rw [hd] at h
        simp only at h
        cases ok with
        | false => simp at h
        | true =>
          rw [if_pos rfl] at h
          have h1 := frA_count hs f _ _ _ _ h
          have h2 := (decFr_dec hd).1.1
          have h3 := need_pos (decFr_len hd).1 hs
          rw [List.length_append] at h1
          refine ⟨by omega, ?_⟩
          have h4 : u - k = (u - (k + need c sz)) + need c sz := by omega
          rw [h4, Nat.mul_add]
          have h5 : 1000 * 1 ≤ 1000 * need c sz := Nat.mul_le_mul_left 1000 h3
          omega
    · rw [frA_stop hc] at h
      have e : (acc, k) = (r, u) := Option.some.inj h
      cases e
      omega
theorem Opn.count {d : Dk} {act : Nat} {r : List Txt} {u : Nat} (h : Opn d act r u) : r.length ≤ 500000 := by
  have h1 := h.act
  have hs := h.v.s1
  have hn := h.n
  have hf := first_bd (n := (cur d).length) (by rw [cur_length]; exact h.n) h1.a
  have hh := half_le h.v
  have h2 := frA_count (by omega) _ _ _ _ _ h1.r
  have hL : (((cur d).drop (firstS (cur d).length act)).take (halfN (cur d).length)).length = halfN (cur d).length := by rw [List.length_take, List.length_drop]; omega
  have h3 := (area_end (by omega) (((cur_siz h.v).drop _).take _) hL h1.r).1
  rw [cur_length] at h3
  simp at h2
  omega
theorem Jst.count {d : Dk} {s : List Txt} {un : Option (List Txt)} (h : Jst d s un) {r : List Txt} (hr : recD d = (r, 0)) : r.length ≤ 500000 := by
  obtain ⟨act, r', u, ho, _⟩ := h.opn
  have := ho.rec_
  rw [hr] at this
  cases this
  exact ho.count
end Go.Proofs.Ytockmhhiomdlkaa
