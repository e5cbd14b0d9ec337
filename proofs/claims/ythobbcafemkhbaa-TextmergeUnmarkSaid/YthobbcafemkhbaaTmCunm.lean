/- textmerge.Unmark. -/
import Derived.Test.YthobbcafemkhbaaTmConfl
import Derived.Test.YthobbcafemkhbaaTmStl
import Derived.Test.YthobbcafemkhbaaTmMerge2
namespace Go.Proofs.Ythobbcafemkhbaa
open Go.RowKit
set_option linter.unusedVariables false

section
variable {S W : ByteArray → Prop} {ok : ByteArray → Bool}
theorem addC_str {st : Nat} {c : Cur} {x : ByteArray} (h : strL S W c.1 ∧ strL S W c.2.1 ∧ strL S W c.2.2) (hx : S x ∧ W x) : strL S W (addC st c x).1 ∧ strL S W (addC st c x).2.1 ∧ strL S W (addC st c x).2.2 :=
  addC_all (p := fun s => S s ∧ W s) h hx
theorem st_str : ∀ (xs : List ByteArray) (st : Nat) (c : Cur) (out L : List Rg), strL S W xs → (strL S W c.1 ∧ strL S W c.2.1 ∧ strL S W c.2.2) → StrR S W out → stG ok st c out xs = some L → StrR S W L
  | [], st, c, out, L, _, _, ho, h => by
    unfold stG at h
    by_cases hs : st = 0
    · rw [if_pos hs] at h
      obtain rfl := Option.some.inj h
      exact ho
    · rw [if_neg hs] at h; cases h
  | x :: xs, st, c, out, L, hx, hc, ho, h => by
    have hx1 := hx x List.mem_cons_self
    have hxs : strL S W xs := fun y hy => hx y (List.mem_cons_of_mem _ hy)
    unfold stG at h
    by_cases hm : 0 ≤ mkN x
    · rw [if_pos hm] at h
      by_cases hk : mkN x = (st : Int) ∧ ok x = true
      · rw [if_pos hk] at h
        by_cases h3 : st = 3
        · rw [if_pos h3] at h
          exact st_str xs 0 cur0 _ L hxs ⟨strL_nil, strL_nil, strL_nil⟩ (StrR_snoc.2 ⟨ho, show rStr S W (true, c) from hc⟩) h
        · rw [if_neg h3] at h
          exact st_str xs _ c out L hxs hc ho h
      · rw [if_neg hk] at h; cases h
    · rw [if_neg hm] at h
      by_cases h0 : st = 0
      · rw [if_pos h0] at h
        exact st_str xs 0 c _ L hxs hc (str_addL ho (fun y hy => by rw [List.mem_singleton.1 hy]; exact hx1)) h
      · rw [if_neg h0] at h
        exact st_str xs st _ out L hxs (addC_str hc hx1) ho h
end
theorem conf_len : ∀ (xs : List ByteArray) (st : Nat) (c c' : Cur) (rest : List ByteArray), confF st c xs = some (c', rest) → c'.2.1.length + rest.length ≤ c.2.1.length + xs.length
  | [], st, c, c', rest, h => by unfold confF at h; cases h
  | x :: xs, st, c, c', rest, h => by
    unfold confF at h
    by_cases hm : 0 ≤ mkN x
    · rw [if_pos hm] at h
      by_cases hk : mkN x = (st : Int) ∧ endB x = true
      · rw [if_pos hk] at h
        by_cases h3 : st = 3
        · rw [if_pos h3] at h
          cases h
          simp
        · rw [if_neg h3] at h
          have := conf_len xs _ _ _ _ h
          simp; omega
      · rw [if_neg hk] at h; cases h
    · rw [if_neg hm] at h
      have h1 := conf_len xs _ _ _ _ h
      have h2 : (addC st c x).2.1.length ≤ c.2.1.length + 1 := by
        unfold addC
        split
        · simp
        · split
          · show c.2.1.length ≤ _; omega
          · show c.2.1.length ≤ _; omega
      simp; omega
/-- Unmark: the regions and the error. -/
def unmP (s : ByteArray) : List Rg × Int := match unmS s with
  | some L => (L, 0)
  | none => ([], 3)
def unmV (R : Option (List Rg)) : List Rg × Int := match R with
  | some L => if vldF false L = true then (L, 0) else ([], 3)
  | none => ([], 3)
theorem unmP_eq (s : ByteArray) : unmP s = unmV (stG endB 0 cur0 [] ((lns s).drop 0)) := by
  unfold unmP unmS unmV stS
  simp only [List.drop_zero]
  cases stG endB 0 cur0 [] (lns s) with
  | none => rfl
  | some L =>
    by_cases hv : vldF false L = true <;> simp [hv]
theorem un_conf {x : ByteArray} {xs : List ByteArray} {out : List Rg} (h : x = mk0) : stG endB 0 cur0 out (x :: xs) = contF out (confF 1 cur0 xs) := by
  have h' := (mk_is (x := x) (k := 0) (by decide)).1 h
  rw [stG, if_pos (by have := h'.1; omega), if_pos h', if_neg (by omega), stG_conf xs 1 cur0 out (by omega)]
theorem un_bad {x : ByteArray} {xs : List ByteArray} {out : List Rg} (h : ¬ x = mk0) (hm : mkB x = true) : stG endB 0 cur0 out (x :: xs) = none := by
  rw [mkB_eq, decide_eq_true_iff] at hm
  rw [stG, if_pos hm, if_neg fun e => h ((mk_is (x := x) (k := 0) (by decide)).2 e)]
theorem un_line {x : ByteArray} {xs : List ByteArray} {out : List Rg} (hm : mkB x = false) : stG endB 0 cur0 out (x :: xs) = stG endB 0 cur0 (addL out [x]) xs := by
  rw [mkB_eq, decide_eq_false_iff_not] at hm
  rw [stG, if_neg hm, if_pos rfl]
theorem mk0_list : mk0.toList = [60, 60, 60, 60, 60, 60, 60, 10] := by decide +kernel

theorem size_mem : ∀ {l : List ByteArray} {x : ByteArray}, x ∈ l → x.size ≤ (textB l).size
  | y :: l, x, h => by
    have e : (textB (y :: l)).size = y.size + (textB l).size := by rw [textB_size, textB_size]; simp
    rcases List.mem_cons.1 h with rfl | h
    · omega
    · have := size_mem h; omega

set_option maxRecDepth 100000 in
set_option maxHeartbeats 4000000 in
theorem cunm_any (w : World) (s : ByteArray) (hs : s.size ≤ 10000000) (hn : (lns s).length ≤ 100000) :
    Calls Try.prog 24 #[.string s] w fun e w' => ∃ v, e = .returned (.tuple #[v, .int .i64 (unmP s).2]) ∧ Rgs w' v (unmP s).1 ∧ Below w.heap.size w w' := by
  obtain ⟨i0, hi, hz0, hz1, hz2⟩ := info_parts Try.info_str
  obtain ⟨it, hi1, hy0, hy1, hy2⟩ := info_parts Try.info_reg
  have C1 := Lib.hid (lns2_any s (by omega) w)
  have HP := Lib.hid (unmP_eq s)
  have hsz : ∀ x ∈ lns s, x.size ≤ 1000000000 := fun x hx => by
    have := size_mem hx
    rw [textB_lns] at this
    omega
  have hstr : ∀ L, stG endB 0 cur0 [] ((lns s).drop 0) = some L → SzR L := fun L hL => by
    have := st_str (S := fun x => x.size ≤ 1000000000) (W := fun _ => True) ((lns s).drop 0) 0 cur0 [] L (fun x hx => ⟨hsz x hx, trivial⟩) ⟨strL_nil, strL_nil, strL_nil⟩ (fun _ h => by cases h) hL
    intro x hx
    obtain ⟨h1, h2, h3⟩ := this x hx
    exact ⟨fun s hs => (h1 s hs).1, fun s hs => (h2 s hs).1, fun s hs => (h3 s hs).1⟩
  have hrefl : stG endB 0 cur0 [] ((lns s).drop 0) = stG endB 0 cur0 [] ((lns s).drop 0) := rfl
  generalize hRR : stG endB 0 cur0 [] ((lns s).drop 0) = R at hstr HP
  have HR0 : Hid (R = stG endB 0 cur0 [] ((lns s).drop 0)) := hRR.symm
  clear hRR hrefl
  generalize lns s = l at *
  have HSZ := Lib.hid hsz
  have HSTR := Lib.hid hstr
  clear hsz hstr
  go_enter Try.func24, Try.ntmps24
  go_wp2_with fail
  refine C1.out.mono ?_
  rintro e w1 ⟨va, rfl, oa, k1⟩
  clear C1
  have hx : Strs w1 va l := oa.sl
  obtain ⟨Aa, ca, rfl, a1, a2⟩ := hx.form
  have fa := far_strs hx
  clear oa hx
  have hk1 := k1.size
  go_wp2_with fail
  go_loopw [5, 6] (fun vo vi wr => ∃ (i : Nat) (out : List Rg), i ≤ l.length ∧ vi = .int .i64 i ∧ CRow wr w1.heap.size vo out ∧ Hid (R = stG endB 0 cur0 out (l.drop i)) ∧ RgB (2 * i) out ∧ Below w1.heap.size w1 wr) (fun _ vi _ => l.length - (intOf vi).toNat)
  case atStart => exact ⟨0, [], by omega, rfl, CRow.nil _ _, HR0, RgB.nil, Below.refl _ _⟩
  case round =>
    clear HR0
    obtain ⟨i, out, hi', rfl, hcr, HR, hN, hb⟩ := hrel
    have hbs := hb.size
    obtain ⟨Av, cv, rfl, _, _⟩ := hcr.form
    have fa := fa.below hb
    have hbw := k1.trans (hb.mono hk1)
    by_cases hlt : i < l.length
    · obtain ⟨b, off, rfl, x1⟩ := Strs.get fa.now hlt
      have hss := HSZ.out l[i] (List.getElem_mem hlt)
      have hdr : l.drop i = l[i] :: l.drop (i + 1) := List.drop_eq_getElem_cons hlt
      have hone : (l.drop i).take 1 = [l[i]] := by rw [hdr]; rfl
      rw [hdr] at HR
      have CM := Lib.hid (fun w' => marker_any w' l[i] (by omega))
      obtain ⟨A1, d1, hs1, g1⟩ := run_at_from' (P := Try.prog) (R := Str1) 36 9 i0 Try.underlying36 hi hz1 (A := some ⟨b, off, none⟩) (n := l.length) (c := ca) a1 .i64 (i + 1) (by omega)
      obtain ⟨A2, d2, hs2, g2⟩ := run_at_both' (P := Try.prog) (R := Str1) 36 9 i0 Try.underlying36 hi hz1 (A := some ⟨b, off, none⟩) (n := l.length) (c := ca) a1 .i64 .i64 i (i + 1) (by omega) (by omega)
      rw [show ((i + 1 : Nat) : Int) = (i : Int) + 1 from rfl] at hs1 hs2
      rw [show i + 1 - i = 1 by omega] at hs2 g2
      have S1 : Strs wr (.slice A1 (l.length - (i + 1)) d1) (l.drop (i + 1)) := g1 wr l fa.now
      have S2 : Strs wr (.slice A2 1 d2) ((l.drop i).take 1) := g2 wr l fa.now
      rw [hone] at S2
      have HLL : Hid ((l.drop (i + 1)).length = l.length - (i + 1)) := List.length_drop
      have HDD : Hid (∀ u, (l.drop (i + 1)).drop u = l.drop (i + 1 + u)) := fun u => by rw [List.drop_drop]
      have CC := Lib.hid (conflict_any wr _ (l.drop (i + 1)) S1 (by rw [HLL.out]; omega) (fun x hx => HSZ.out x (List.mem_of_mem_drop hx)))
      have HN2 := (hN.addL [l[i]]).mono (M := 2 * (i + 1)) (by show 2 * i + 1 + 1 ≤ _; omega)
      have CA := Lib.hid (addLines_any wr w1.heap.size _ _ out [l[i]] hcr hbs S2 hN (by omega) (by show 1 ≤ _; omega))
      clear g1 g2 S1 S2 hdr hone
      generalize l[i] = x at *
      by_cases hx0 : x = mk0
      · have e1 : (x.toList == [60, 60, 60, 60, 60, 60, 60, 10]) = true := by rw [hx0, mk0_list]; rfl
        have HR2 : Hid (R = contF out (confF 1 cur0 (l.drop (i + 1)))) := HR.out.trans (un_conf hx0)
        clear HR hx0 CM CA HN2 hs2
        go_wp2_with fail
        refine CC.out.mono ?_
        rintro e w3 (⟨cc, rest, vb, vl, vr, q1, q2, q3, rfl, h3, b3⟩ | ⟨x0, A1, n1, c1, A2, n2, c2, A3, n3, c3, z, q1, rfl, b3⟩)
        · have hR3 : R = stG endB 0 cur0 (out ++ [(true, cc)]) rest := by rw [HR2.out, q1]; rfl
          have hll := HLL.out
          have hcl := conf_len _ _ _ _ _ q1
          obtain ⟨u, hu⟩ : ∃ u, (l.drop (i + 1)).length - rest.length = u := ⟨_, rfl⟩
          have hcl2 : cc.2.1.length ≤ u := by
            have : (cur0 : Cur).2.1.length = 0 := rfl
            omega
          rw [hu, HDD.out] at q3
          rw [hu]
          have hul : i + 1 + u ≤ l.length := by omega
          rw [q3] at hR3
          have HR3 := Lib.hid hR3
          obtain ⟨Al, cl, rfl, _, _⟩ := Sl.form h3.o0.sl
          obtain ⟨Ab, cb, rfl, _, _⟩ := Sl.form h3.o1.sl
          obtain ⟨Ar, cr, rfl, _, _⟩ := Sl.form h3.o2.sl
          have HN3 := (hN.snoc (true, cc)).mono (M := 2 * (i + (1 + u))) (by show 2 * i + cc.2.1.length + 1 ≤ _; omega)
          have hlo := hN.1
          obtain ⟨cells, hown, hst⟩ := hcr.row
          have bx : Below wr.heap.size wr (w3.alloc (.cells #[.bool true, .slice Ab cc.1.length cb, .slice Al cc.2.1.length cl, .slice Ar cc.2.2.length cr] 58)) := b3.alloc b3.size _
          have h3a := h3.keep ((Below.refl _ _).alloc (Nat.le_refl _) (.cells #[.bool true, .slice Ab cc.1.length cb, .slice Al cc.2.1.length cl, .slice Ar cc.2.2.length cr] 58))
          have hown1 := own_below hown bx
          have hbx := hb.trans (bx.mono hbs)
          have key : ∀ ob w2 v2, ((w3.alloc (.cells #[.bool true, .slice Ab cc.1.length cb, .slice Al cc.2.1.length cl, .slice Ar cc.2.2.length cr] 58)).alloc ob).grownBy w2 (Value.slice Av out.length cv).ownBlock →
              w2.ownsRow w1.heap.size 58 4 v2 (out.length + 1) (cells ++ [.bool true, .slice Ab cc.1.length cb, .slice Al cc.2.1.length cl, .slice Ar cc.2.2.length cr]) →
              (v2.ownBlock = (Value.slice Av out.length cv).ownBlock ∨ v2.ownBlock = some ((w3.alloc (.cells #[.bool true, .slice Ab cc.1.length cb, .slice Al cc.2.1.length cl, .slice Ar cc.2.2.length cr] 58)).alloc ob).heap.size) →
              CRow w2 w1.heap.size v2 (out ++ [(true, cc)]) ∧ Below w1.heap.size wr w2 := fun ob w2 v2 k1 k2 k3 => by
            obtain ⟨k4, k5, _⟩ := crow_conf hst hown hbs bx h3a.o1 h3a.o0 h3a.o2 k1 k2 k3
            exact ⟨k4, k5⟩
          have KEY := Lib.hid key
          have hbase : w1.heap.size ≤ w3.heap.size := by have := b3.size; omega
          clear CC HR2 q1 q2 q3 hu hcl hcl2 hll h3 h3a b3 hst hcr hR3 key x1 hs1 fa
          go_wp2_with (at_builtin; go_must (refine wpList_append_any _ rfl (.tmp 42) (.tmp 44) _ rfl w1.heap.size 58 it _ 4 80 Try.underlying24 hi1 hy0 hy1 hy2 rfl (by omega) (.slice Av out.length cv) out.length cells rfl (hown1.alloc _) _ 1 1 [.bool true, .slice Ab cc.1.length cb, .slice Al cc.2.1.length cl, .slice Ar cc.2.2.length cr] rfl rfl (cells_new1 _ _ _ _) (by simp [Value.oneCell']) (by omega) (by omega) (by simp; omega) ?_)
                       intro v5 w5 ho5 hg5 ha5)
          obtain ⟨r5, b5⟩ := KEY.out _ _ _ hg5 ho5 (by simpa using ha5)
          have hb5 := hb.trans b5
          clear KEY hbx ho5 hg5 ha5 hown hown1 bx
          go_wp2
          go_roundw
          case rel => exact ⟨i + (1 + u), _, by omega, by go_num, r5, by rw [show i + (1 + u) = i + 1 + u by omega]; exact HR3, HN3, hb5⟩
          case measure => simp [intOf]; omega
        · have HE : Hid (unmP s = ([], 3)) := by show _ = _; rw [HP.out, HR2.out, q1]; rfl
          have hb5 := hbw.trans (b3.mono hbw.size)
          clear CC HR2 q1 hs1 x1 fa
          go_wp2
          go_ret2
          exact ret_se HE.out (Sl.nil _ _ _) (hb5.alloc hb5.size _)
      · have e1 : (x.toList == [60, 60, 60, 60, 60, 60, 60, 10]) = false := by rw [← mk0_list]; exact str_ne hx0
        have HBD : Hid (mkB x = true → R = none) := fun hm => HR.out.trans (un_bad hx0 hm)
        have HLN : Hid (mkB x = false → R = stG endB 0 cur0 (addL out [x]) (l.drop (i + 1))) := fun hm => HR.out.trans (un_line hm)
        clear HR hx0 CC hs1
        cases hmb : mkB x
        · rw [hmb] at CM
          have HR2 := Lib.hid (HLN.out hmb)
          clear HLN HBD hmb
          go_wp2_with (go_at_call 46; refine (CM.out _).mono ?_; rintro e w5 ⟨rfl, rfl⟩)
          refine CA.out.mono ?_
          rintro e w5 ⟨v5, rfl, r5, b5, _⟩
          have hb5 := hb.trans b5
          clear CA CM b5 hb x1 hs2 hcr
          go_wp2
          go_roundw
          case rel => exact ⟨i + 1, _, by omega, by go_num, r5, HR2, HN2, hb5⟩
          case measure => simp [intOf]; omega
        · rw [hmb] at CM
          have HE : Hid (unmP s = ([], 3)) := by show _ = _; rw [HP.out, HBD.out hmb]; rfl
          clear HLN HBD hmb
          go_wp2_with (go_at_call 46; refine (CM.out _).mono ?_; rintro e w5 ⟨rfl, rfl⟩)
          go_ret2
          exact ret_se HE.out (Sl.nil _ _ _) hbw
    · have hRo : R = some out := by have := HR.out; rw [List.drop_of_length_le (by omega)] at this; exact this
      have CV := Lib.hid (valid_any wr _ out hcr.rgs (HSTR.out out hRo))
      have HP2 : Hid (unmP s = if vldF false out = true then (out, 0) else ([], 3)) := by show _ = _; rw [HP.out, hRo]; rfl
      have hr := hcr.rgs
      clear HR hRo HSTR hcr
      generalize vldF false out = vv at *
      go_wp2_with fail
      refine CV.out.mono ?_
      rintro e w5 ⟨rfl, b5⟩
      have hbw := hbw.trans (b5.mono hbw.size)
      have hr := hr.keep (Keeps.of_below b5)
      cases vv
      · have HE : Hid (unmP s = ([], 3)) := by show _ = _; rw [HP2.out]; rfl
        go_wp2
        go_ret2
        exact ret_se HE.out (Sl.nil _ _ _) hbw
      · have HE : Hid (unmP s = (out, 0)) := by show _ = _; rw [HP2.out]; rfl
        go_wp2
        go_ret2
        exact ret_se HE.out hr hbw
end Go.Proofs.Ythobbcafemkhbaa
