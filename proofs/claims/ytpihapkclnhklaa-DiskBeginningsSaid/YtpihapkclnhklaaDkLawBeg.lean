/- The walk of the law DiskBeginnings: it returns true for any byte, list of strings and list of numbers. -/
import Derived.Test.YtpihapkclnhklaaDkLawPow
namespace Go.Proofs.Ytpihapkclnhklaa
open Go.RowKit

/-! the plain law: each byte of the sector is null or a byte of one of the strings -/
def matchB (z i : Nat) (c : Int) (s : ByteArray) : Bool := decide (s.size = z) && decide ((s.data.toList[i]?.map fun x => (x.toNat : Int)) = some c)
def fndB (ls : List ByteArray) (z i : Nat) (c : Int) (j : Nat) : Bool := (c == 0) || (ls.take j).any (matchB z i c)
theorem bget {s : ByteArray} {i : Nat} (h : i < s.size) : s.data.toList[i]? = some s[i] := by
  rw [Array.getElem?_toList]; exact Array.getElem?_eq_getElem h
theorem fndB_succ {ls : List ByteArray} {z i j : Nat} {c : Int} (h : j < ls.length) : fndB ls z i c (j + 1) = (fndB ls z i c j || matchB z i c ls[j]) := by
  unfold fndB
  rw [List.take_succ_eq_append_getElem h, List.any_append, List.any_cons, List.any_nil, Bool.or_false, Bool.or_assoc]
theorem matchB_yes {z i : Nat} {c : Int} {s : ByteArray} (h : s.size = z) (hi : i < s.size) (hc : (s[i].toNat : Int) = c) : matchB z i c s = true := by
  unfold matchB; rw [bget hi, decide_eq_true h, Option.map_some, hc]; simp
theorem matchB_no {z i : Nat} {c : Int} {s : ByteArray} (hi : i < s.size) (hc : ¬ (s[i].toNat : Int) = c) : matchB z i c s = false := by
  unfold matchB; rw [bget hi, Option.map_some, decide_eq_false (p := some (s[i].toNat : Int) = some c) (fun e => hc (Option.some.inj e)), Bool.and_false]
theorem matchB_size {z i : Nat} {c : Int} {s : ByteArray} (h : ¬ s.size = z) : matchB z i c s = false := by
  unfold matchB; rw [decide_eq_false h]; rfl
def goodB (ls : List ByteArray) (z : Nat) (u : ByteArray) : Prop := u.size = z ∧ ∀ i c, u.data.toList[i]? = some c → fndB ls z i (c.toNat : Int) ls.length = true
theorem good_nul (ls : List ByteArray) (z : Nat) : goodB ls z (nulB z) := ⟨nulB_size z, fun i c h => by
  have hc : c = 0 := by
    simp only [nulB, Array.toList_replicate] at h
    exact List.eq_of_mem_replicate (List.mem_of_getElem? h)
  rw [hc]; unfold fndB; rfl⟩
theorem good_mem {ls : List ByteArray} {z : Nat} {s : ByteArray} (hm : s ∈ ls) (hz : s.size = z) : goodB ls z s := ⟨hz, fun i c h => by
  unfold fndB
  rw [List.take_of_length_le (Nat.le_refl _), List.any_eq_true.2 ⟨s, hm, by unfold matchB; rw [h, decide_eq_true hz]; simp⟩, Bool.or_true]⟩
theorem torn_list (k : Nat) (s u : ByteArray) : (torn k s u).data.toList = s.data.toList.take k ++ u.data.toList.drop k := by
  unfold torn
  rw [ByteArray.data_append, ByteArray.data_extract, ByteArray.data_extract, Array.toList_append, Array.toList_extract, Array.toList_extract]
  rw [List.extract_eq_take_drop, List.extract_eq_take_drop, List.drop_zero, Nat.sub_zero]
  have e : ∀ l : List UInt8, l.length = u.size → (l.drop k).take (u.size - k) = l.drop k := fun l h => List.take_of_length_le (by rw [List.length_drop, h]; exact Nat.le_refl _)
  rw [e _ (Array.length_toList)]
theorem good_torn {ls : List ByteArray} {z : Nat} {s u : ByteArray} (hs : goodB ls z s) (hu : goodB ls z u) {k : Nat} (hk : k ≤ z) : goodB ls z (torn k s u) := by
  refine ⟨by rw [torn_size (by rw [hs.1, hu.1]) (by rw [hu.1]; exact hk)]; exact hu.1, fun i c h => ?_⟩
  rw [torn_list] at h
  have hl : (s.data.toList.take k).length = k := by rw [List.length_take, Array.length_toList]; have : s.data.size = z := hs.1; omega
  by_cases hi : i < k
  · rw [List.getElem?_append_left (by omega), List.getElem?_take_of_lt hi] at h
    exact hs.2 i c h
  · rw [List.getElem?_append_right (by omega), List.getElem?_drop, hl, show k + (i - k) = i by omega] at h
    exact hu.2 i c h
theorem good_cut {ls : List ByteArray} {z : Nat} (hz : 1 ≤ z) : ∀ (p : List (Int × ByteArray)) (u : ByteArray) (ps : List Int), goodB ls z u → (∀ w ∈ p, w.1 = 0 ∧ goodB ls z w.2) → ∃ u', cutW (z : Int) [u] p ps = [u'] ∧ goodB ls z u'
  | [], u, _, h, _ => ⟨u, rfl, h⟩
  | w :: p, u, ps, h, hp => by
    obtain ⟨h0, h1⟩ := hp w List.mem_cons_self
    have hq : pick (ps.headD 0) (z : Int) ≤ z := by have := pick_le (ps.headD 0) (z : Int) (by omega); omega
    obtain ⟨u', e, g⟩ := good_cut hz p (torn (pick (ps.headD 0) (z : Int)) w.2 u) ps.tail (good_torn h1 h hq) (fun w' hw => hp w' (List.mem_cons_of_mem _ hw))
    refine ⟨u', ?_, g⟩
    rw [cutW, h0]
    exact e
/-- What the law knows of its disk between two writes. -/
structure BegD (ls : List ByteArray) (z k : Nat) (D : Dk) : Prop where
  v : Valid D
  zz : D.size = (z : Int)
  s : D.secs = [nulB z]
  w : ∀ w ∈ D.pend, w.1 = 0 ∧ w.2 ∈ ls
  p : D.pend.length ≤ k
  l : D.left = -1
theorem BegD.cut {ls : List ByteArray} {z k : Nat} {D : Dk} (h : BegD ls z k D) (hz : 1 ≤ z) (ps : List Int) : goodB ls z (rdB (cutD D ps) ((0 : Nat) : Int)) := by
  have hc := h.v.cut ps
  have hl : 0 < (cutD D ps).secs.length := by have := hc.n1; omega
  obtain ⟨u, e, g⟩ := good_cut (ls := ls) hz D.pend (nulB z) ps (good_nul ls z) (fun w hw => ⟨(h.w w hw).1, good_mem (h.w w hw).2 (by have := (h.v.ws w hw).2.2; have := h.zz; omega)⟩)
  have e2 : cutD D ps = ⟨(z : Int), [u], [], -1⟩ := by rw [← cutD_ok (chk_zero.2 h.v), h.zz, h.s, e]
  have e3 : rdB (cutD D ps) ((0 : Nat) : Int) = u := by
    rw [rd_cur hc hl]
    simp only [e2, cur, List.foldl_nil, List.getElem_cons_zero]
  rw [e3]
  exact g
theorem BegD.new (ls : List ByteArray) {z : Nat} (h1 : 1 ≤ z) (h2 : z ≤ 40) : BegD ls z 0 (newD 1 z) :=
  ⟨newD_valid (by omega) (by omega) h1 (by omega), rfl, rfl, (fun w hw => by simp only [newD] at hw; cases hw), Nat.le_refl 0, rfl⟩
theorem BegD.one {ls : List ByteArray} {z k : Nat} {D : Dk} (h : BegD ls z k D) : D.secs.length = 1 := by rw [h.s]; rfl
theorem BegD.next {ls : List ByteArray} {z k : Nat} {D : Dk} (h : BegD ls z k D) : BegD ls z (k + 1) D := ⟨h.v, h.zz, h.s, h.w, Nat.le_succ_of_le h.p, h.l⟩
theorem BegD.step {ls : List ByteArray} {z k : Nat} {D : Dk} (h : BegD ls z k D) {s : ByteArray} (hm : s ∈ ls) : (wrE D 0 s = 0 ∧ BegD ls z (k + 1) (wrD D 0 s)) ∨ wrE D 0 s = 11 := by
  have h1 := h.one
  have ho : ¬ ((0 : Int) < 0 ∨ (D.secs.length : Int) ≤ 0) := by omega
  by_cases hs : (s.size : Int) = D.size
  · have hw := wr_ok (chk_zero.2 h.v) ho hs (by rw [h.l]; decide)
    refine .inl ⟨hw.1, ?_⟩
    rw [hw.2]
    have hl : lessZ D.left = -1 := by rw [h.l]; rfl
    rw [hl]
    refine ⟨h.v.write (by omega) (by omega) hs (by omega), h.zz, h.s, fun w hw => ?_, by simp only [List.length_append, List.length_singleton]; have := h.p; omega, rfl⟩
    rcases List.mem_append.1 hw with hw | hw
    · exact h.w w hw
    · cases List.mem_singleton.1 hw
      exact ⟨rfl, hm⟩
  · exact .inr (wr_mis (chk_zero.2 h.v) ho hs).1

def BegRel (W : World) (ls : List ByteArray) (z g : Nat) (t : Value) (wr : World) : Prop :=
  ∃ (k : Nat) (D : Dk) (A : Option Addr) (c : Nat) (P : Option Addr) (cp : Nat), k ≤ ls.length ∧ t = .int .i64 k ∧ Hid (BegD ls z k D) ∧ Var wr g A c P cp D ∧ Below W.heap.size W wr
theorem BegRel.mk {W : World} {ls : List ByteArray} {z g : Nat} {t : Value} {wr : World} (k : Nat) (D : Dk) (A : Option Addr) (c : Nat) (P : Option Addr) (cp : Nat) (h1 : k ≤ ls.length) (h2 : t = .int .i64 k) (h3 : Hid (BegD ls z k D)) (h4 : Var wr g A c P cp D) (h5 : Below W.heap.size W wr) :
    BegRel W ls z g t wr := ⟨k, D, A, c, P, cp, h1, h2, h3, h4, h5⟩

set_option maxRecDepth 100000 in
set_option maxHeartbeats 8000000 in
theorem law_beginnings (W : World) (b : Int) (hb0 : 0 ≤ b) (hb1 : b ≤ 255) (v : Value) (ls : List ByteArray) (hl : Strs W v ls) (vi : Value) (ps : List Int) (hps : Ints W vi ps) :
    Calls Try.prog 5 #[.int .u8 b, v, vi] W fun e w' => e = .returned (.bool true) ∧ Below W.heap.size W w' := by
  obtain ⟨I, ci, rfl, hci, hmi⟩ := hl.form
  obtain ⟨J, cj, rfl, hcj, hmj⟩ := hps.form
  by_cases hg : 12 < (ls.length : Int) ∨ 20 < (ps.length : Int)
  · have hcase : 12 < (ls.length : Int) ∨ (¬ 12 < (ls.length : Int) ∧ 20 < (ps.length : Int)) := by omega
    clear hg
    have hb5 := Below.refl W.heap.size W
    rcases hcase with h1 | ⟨h1, h2⟩
    all_goals
      go_enter Try.func5, Try.ntmps5
      have aw := awake_any W
      go_wp2_with fail
      refine aw.mono ?_
      clear aw
      rintro e w9 ⟨rfl, hb9⟩
      have hb10 := hb5.trans (hb9.mono hb5.size)
      go_wp2
      go_ret
      exact ⟨rfl, hb10⟩
  · have hl12 : ¬ 12 < (ls.length : Int) := by omega
    have hp20 : ¬ 20 < (ps.length : Int) := by omega
    clear hg
    obtain ⟨i', rfl⟩ := Int.eq_ofNat_of_zero_le hb0
    obtain ⟨z, hz⟩ : ∃ z, z = 1 + i' % 40 := ⟨_, rfl⟩
    have hz1 : 1 ≤ z := by omega
    have hz2 : z ≤ 40 := by omega
    have hzz : 1 + (i' : Int) % 40 = (z : Int) := by omega
    clear hz
    have cn := new_ok W 1 z (by omega) (by omega) hz1 hz2
    rw [show ((1 : Nat) : Int) = 1 from rfl] at cn
    go_enter Try.func5, Try.ntmps5
    go_wp2_with fail
    refine cn.mono ?_
    clear cn
    rintro e w4 ⟨vs, vp, rfl, hD, hb6⟩
    have HB0 := Lib.hid (BegD.new ls hz1 hz2)
    generalize newD 1 z = d at *
    obtain ⟨A, c, P, cp, rfl, rfl, _, _, _, _⟩ := hD.form
    have hv := Var.new hD
    have hg := hb6.size
    have hb8 := hb6.alloc hg (.cells #[.int .i64 d.size, .slice A d.secs.length c, .slice P d.pend.length cp, .int .i64 d.left] 26)
    clear hb6 hD
    go_upto_region 7 with (fail)
    generalize w4.alloc (.cells #[.int .i64 d.size, .slice A d.secs.length c, .slice P d.pend.length cp, .int .i64 d.left] 26) = w5 at *
    generalize w4.heap.size = g at *
    go_wp2
    try simp only [hzz]
    clear hzz hb0 hb1
    go_loopw [42] (fun t wr => BegRel W ls z g t wr) (fun t _ => ls.length - (intOf t).toNat)
    case atStart => exact BegRel.mk (W := W) (ls := ls) (z := z) (g := g) 0 d A c P cp (by omega) rfl HB0 hv hb8
    case round =>
      clear hv hb8 HB0
      obtain ⟨k, D, A, c, P, cp, hk, rfl, HB, hv, hb⟩ := hrel
      have hpl : D.pend.length ≤ 100000 := by have := HB.out.p; omega
      by_cases hlt : k < ls.length
      · obtain ⟨b, off, rfl, a1⟩ := (hl.keep (Keeps.of_below hb)).get hlt
        have HST := Lib.hid (HB.out.step (List.getElem_mem hlt))
        generalize ls[k] = s at *
        have c1 := write_any wr _ _ D hv.dk hpl 0 (by omega) (by omega) s
        obtain ⟨q0, q1, q2, q3, _⟩ := hv.facts
        go_wp2_with fail
        clear a1 q0 q1 q2 q3
        rcases HST.out with ⟨e1, e2⟩ | e1
        · have HB2 := Lib.hid e2
          rw [e1] at c1
          clear e1 e2 HST
          generalize wrD D 0 s = D2 at *
          refine c1.mono ?_
          clear c1
          rintro e w2 ⟨vs2, vp2, rfl, hD2, hb3⟩
          obtain ⟨A2, c2, P2, cp2, rfl, rfl, _, _, _, _⟩ := hD2.form
          have hvk := hv.keep hb3
          have hne : g ≠ w2.heap.size := by have := hvk.blk.lt; omega
          have hv3 := hvk.alloc (.cells #[.int .i64 D2.size, .slice A2 D2.secs.length c2, .slice P2 D2.pend.length cp2, .int .i64 D2.left] 26)
          have hx := Var.new hD2
          have hb4 := hb.trans (hb3.mono hb.size)
          have hb5 := hb4.alloc hb4.size (.cells #[.int .i64 D2.size, .slice A2 D2.secs.length c2, .slice P2 D2.pend.length cp2, .int .i64 D2.left] 26)
          clear hvk hv hb hb3 hb4 hD2
          go_upto_region 11 with (fail)
          generalize w2.alloc (.cells #[.int .i64 D2.size, .slice A2 D2.secs.length c2, .slice P2 D2.pend.length cp2, .int .i64 D2.left] 26) = w3 at *
          generalize w2.heap.size = gx at *
          obtain ⟨q0, q1, q2, q3, f0, f1, f2, f3⟩ := hv3.facts
          obtain ⟨p0, p1, p2, p3, _⟩ := hx.facts
          have hvx := hv3.assign hx.dk
          have hbx := put4_below (A := A2) (c := c2) (P := P2) (cp := cp2) (d := D2) hb5 hg
          go_wp2
          go_roundw
          case rel => exact BegRel.mk (W := W) (ls := ls) (z := z) (g := g) (k + 1) D2 A2 c2 P2 cp2 (by omega) (by go_num) HB2 hvx hbx
          case measure => simp [intOf]; omega
        · rw [e1] at c1
          clear e1 HST
          generalize wrD D 0 s = D2 at *
          refine c1.mono ?_
          clear c1
          rintro e w2 ⟨vs2, vp2, rfl, hD2, hb3⟩
          obtain ⟨A2, c2, P2, cp2, rfl, rfl, _, _, _, _⟩ := hD2.form
          have hvk := hv.keep hb3
          have hne : g ≠ w2.heap.size := by have := hvk.blk.lt; omega
          have hv3 := hvk.alloc (.cells #[.int .i64 D2.size, .slice A2 D2.secs.length c2, .slice P2 D2.pend.length cp2, .int .i64 D2.left] 26)
          have hx := Var.new hD2
          have hb4 := hb.trans (hb3.mono hb.size)
          have hb5 := hb4.alloc hb4.size (.cells #[.int .i64 D2.size, .slice A2 D2.secs.length c2, .slice P2 D2.pend.length cp2, .int .i64 D2.left] 26)
          clear hvk hv hb hb3 hb4 hD2
          go_upto_region 11 with (fail)
          generalize w2.alloc (.cells #[.int .i64 D2.size, .slice A2 D2.secs.length c2, .slice P2 D2.pend.length cp2, .int .i64 D2.left] 26) = w3 at *
          generalize w2.heap.size = gx at *
          have HB2 := Lib.hid HB.out.next
          go_wp2
          go_roundw
          case rel => exact BegRel.mk (W := W) (ls := ls) (z := z) (g := g) (k + 1) D A c P cp (by omega) (by go_num) HB2 hv3 hb5
          case measure => simp [intOf]; omega
      · have HG := HB.out.cut hz1 ps
        have hvc := HB.out.v.cut ps
        have hlc := cutD_len HB.out.v ps
        have hl0 : 0 < (cutD D ps).secs.length := by have := hvc.n1; omega
        have hp0 : (cutD D ps).pend.length ≤ 100000 := by omega
        have HVC := Lib.hid hvc
        clear hvc hlc
        have cc := cut_any wr _ _ (.slice J ps.length cj) D hv.dk hpl ps (hps.keep (Keeps.of_below hb))
        obtain ⟨q0, q1, q2, q3, _⟩ := hv.facts
        go_wp2_with fail
        refine cc.mono ?_
        clear cc q0 q1 q2 q3
        generalize cutD D ps = DC at *
        rintro e w6 ⟨vs6, vp6, rfl, hD6, hb6⟩
        obtain ⟨A6, c6, P6, cp6, rfl, rfl, _, _, _, _⟩ := hD6.form
        have hb7 := hb.trans (hb6.mono hb.size)
        have cr := read_in w6 _ _ DC hD6 0 (chk_zero.2 HVC.out) hl0 hp0
        rw [show ((0 : Nat) : Int) = 0 from rfl] at cr HG
        clear hv hb hb6 hD6
        go_wp2_with fail
        refine cr.mono ?_
        clear cr hl0 hp0 HVC
        generalize rdB DC 0 = tb at *
        rintro e w7 ⟨rfl, hb8⟩
        have hb9 := hb7.trans (hb8.mono hb7.size)
        clear hb7 hb8
        have htz : ((tb.size : Int) != (z : Int)) = false := by rw [bne_eq_false_iff_eq, HG.1]
        have HGH := Lib.hid HG
        clear HG
        go_wp2
        clear htz
        go_loopw [72] (fun t wr => ∃ i : Nat, i ≤ z ∧ t = .int .i64 i ∧ Below W.heap.size W wr) (fun t _ => z - (intOf t).toNat)
        case atStart => exact ⟨0, by omega, rfl, hb9⟩
        case round =>
          clear hb9
          obtain ⟨i, hi, rfl, hb⟩ := hrel
          by_cases hlt2 : i < z
          · have hti : i < tb.size := by have := HGH.out.1; omega
            have HEND := Lib.hid (HGH.out.2 i tb[i] (bget hti))
            have H0 : Hid (fndB ls z i (tb[i].toNat : Int) 0 = ((tb[i].toNat : Int) == 0)) := by show _ = _; simp [fndB]
            have hl5 := (hl.keep (Keeps.of_below hb))
            go_wp2
            go_loopw [17, 81] (fun s t wr => ∃ j : Nat, j ≤ ls.length ∧ t = .int .i64 j ∧ s = .bool (fndB ls z i (tb[i].toNat : Int) j) ∧ Below W.heap.size W wr) (fun _ t _ => ls.length - (intOf t).toNat)
            case atStart => exact ⟨0, by omega, rfl, by rw [H0.out], hb⟩
            case round =>
              clear hb hl5 H0
              obtain ⟨j, hj, rfl, rfl, hb⟩ := hrel
              by_cases hlt3 : j < ls.length
              · obtain ⟨b, off, rfl, a1⟩ := (hl.keep (Keeps.of_below hb)).get hlt3
                have HS := Lib.hid (fndB_succ (z := z) (i := i) (c := (tb[i].toNat : Int)) hlt3)
                generalize ls[j] = x at *
                cases hfb : fndB ls z i (tb[i].toNat : Int) j
                · by_cases hxz : x.size = z
                  · have hix : i < x.size := by omega
                    have hzb : ((x.size : Int) == (z : Int)) = true := by rw [hxz]; simp
                    by_cases hc : (x[i].toNat : Int) = (tb[i].toNat : Int)
                    · have hcb : ((x[i].toNat : Int) == (tb[i].toNat : Int)) = true := by simp [hc]
                      have HR : Hid (fndB ls z i (tb[i].toNat : Int) (j + 1) = true) := by show _ = _; rw [HS.out, hfb, matchB_yes hxz hix hc]; rfl
                      clear hc hxz HS HEND
                      go_wp2
                      go_quiet (fail)
                      go_wp2
                      go_roundw
                      case rel => exact ⟨j + 1, by omega, by go_num, by rw [HR.out], below_drewN' hb _⟩
                      case measure => simp [intOf]; omega
                    · have hcb : ((x[i].toNat : Int) == (tb[i].toNat : Int)) = false := by simpa using hc
                      have HR : Hid (fndB ls z i (tb[i].toNat : Int) (j + 1) = false) := by show _ = _; rw [HS.out, hfb, matchB_no hix hc]; rfl
                      clear hc hxz HS HEND
                      go_wp2
                      go_quiet (fail)
                      go_wp2
                      go_roundw
                      case rel => exact ⟨j + 1, by omega, by go_num, by rw [HR.out], below_drewN' hb _⟩
                      case measure => simp [intOf]; omega
                  · have hzb : ((x.size : Int) == (z : Int)) = false := by rw [beq_eq_false_iff_ne]; omega
                    have HR : Hid (fndB ls z i (tb[i].toNat : Int) (j + 1) = false) := by show _ = _; rw [HS.out, hfb, matchB_size hxz]; rfl
                    clear hxz HS HEND
                    go_wp2
                    go_quiet (fail)
                    go_wp2
                    go_roundw
                    case rel => exact ⟨j + 1, by omega, by go_num, by rw [HR.out], below_drewN' hb _⟩
                    case measure => simp [intOf]; omega
                · have HR : Hid (fndB ls z i (tb[i].toNat : Int) (j + 1) = true) := by show _ = _; rw [HS.out, hfb]; rfl
                  clear HS HEND
                  go_wp2
                  go_quiet (fail)
                  go_wp2
                  go_roundw
                  case rel => exact ⟨j + 1, by omega, by go_num, by rw [HR.out], below_drewN' hb _⟩
                  case measure => simp [intOf]; omega
              · obtain rfl : j = ls.length := by omega
                rw [HEND.out]
                clear HEND
                go_wp2
                go_roundw
                case rel => exact ⟨i + 1, by omega, by go_num, hb⟩
                case measure => simp [intOf]; omega
          · have hb5 := hb
            have aw := awake_any wr
            go_wp2_with fail
            refine aw.mono ?_
            clear aw
            rintro e w9 ⟨rfl, hb9⟩
            have hb10 := hb5.trans (hb9.mono hb5.size)
            go_wp2
            go_ret
            exact ⟨rfl, hb10⟩
end Go.Proofs.Ytpihapkclnhklaa
