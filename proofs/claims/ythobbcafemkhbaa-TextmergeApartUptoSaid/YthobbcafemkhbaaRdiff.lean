/- cordwoodref18.Diff and Distance. -/
import Derived.Test.YthobbcafemkhbaaMid
import Derived.Test.YthobbcafemkhbaaRead2
namespace Go.Proofs.Ythobbcafemkhbaa
open Go.RowKit

theorem csuf_at {xs ys p1 q1 : List ByteArray} {s k : Nat} (hp : p1 = (xs.drop s).take p1.length ∧ p1.length + s + k = xs.length) (hq : q1 = (ys.drop s).take q1.length ∧ q1.length + s + k = ys.length)
    {j1 j2 : Nat} (h1 : p1.length = j1 + 1) (h2 : q1.length = j2 + 1) : p1[j1]? = xs[xs.length - 1 - k]? ∧ q1[j2]? = ys[ys.length - 1 - k]? := by
  constructor
  · rw [hp.1, List.getElem?_take, if_pos (by omega), List.getElem?_drop]
    congr 1; omega
  · rw [hq.1, List.getElem?_take, if_pos (by omega), List.getElem?_drop]
    congr 1; omega
theorem take_less {xs p1 : List ByteArray} {s k j : Nat} (hp : p1 = (xs.drop s).take p1.length ∧ p1.length + s + k = xs.length) (h : p1.length = j + 1) :
    p1.take j = (xs.drop s).take (p1.take j).length ∧ (p1.take j).length + s + (k + 1) = xs.length ∧ (p1.take j).length = j := by
  have hl : (p1.take j).length = j := by simp; omega
  rw [hl]
  refine ⟨?_, by omega, rfl⟩
  rw [hp.1, h, List.take_take, Nat.min_eq_left (by omega)]

set_option maxRecDepth 100000 in
set_option maxHeartbeats 1000000 in
theorem rdiff_any (w : World) (va vb : Value) (xs ys : List ByteArray) (ha : Strs w va xs) (hb : Strs w vb ys) (hx : xs.length ≤ 1000) (hy : ys.length ≤ 1000) :
    Calls Try.prog 61 #[va, vb] w fun e w' => ∃ v, e = .returned v ∧ Ow w' w.heap.size 92 3 (HkR w') v (diffL xs ys) ∧ Below w.heap.size w w' := by
  obtain ⟨A, c, rfl, hc, hm⟩ := ha.form
  obtain ⟨B, d, rfl, hc', hm'⟩ := hb.form
  obtain ⟨i0, hi, hz0, hz1, hz2⟩ := info_parts Try.info_str
  go_enter Try.func61, Try.ntmps61
  go_upto_block 0 with (fail)
  go_cut [5] (fun i wx => ∃ k : Nat, k ≤ xs.length ∧ k ≤ ys.length ∧ i = .int .i64 k ∧ Hid (cpre xs ys = k) ∧ Drawn w wx)
  case first =>
    go_wp2
    go_loopw [5] (fun i wr => ∃ k : Nat, k ≤ xs.length ∧ k ≤ ys.length ∧ i = .int .i64 k ∧ Hid (xs.take k = ys.take k) ∧ Drawn w wr) (fun i _ => xs.length - (intOf i).toNat)
    case atStart => exact ⟨0, by omega, by omega, rfl, rfl, Drawn.refl _⟩
    case round =>
      obtain ⟨k, hk, hk', rfl, HT, hd⟩ := hrel
      have ha := ha.keep hd.keeps
      have hb := hb.keep hd.keeps
      by_cases hlt : k < xs.length
      · by_cases hlt' : k < ys.length
        · obtain ⟨b, off, rfl, ha1⟩ := ha.get hlt
          obtain ⟨b', off', rfl, hb1⟩ := hb.get hlt'
          by_cases he : xs[k] = ys[k]
          · have hbe := str_eq he
            have HE := Lib.hid he
            clear he
            go_wp2
            go_quiet (fail)
            go_wp2
            go_roundw
            case rel => exact ⟨k + 1, by omega, by omega, by go_num, take_succ_eq hlt hlt' HT.out HE.out, hd.drewN _⟩
            case measure => simp [intOf]; omega
          · have hbe := str_ne he
            have HE : Hid (cpre xs ys = k) := cpre_of _ _ k hk hk' HT.out fun _ _ => he
            clear he
            go_wp2
            go_quiet (fail)
            go_wp2
            go_meet
            exact ⟨k, hk, hk', rfl, HE, hd.drewN _⟩
        · have HE : Hid (cpre xs ys = k) := cpre_of _ _ k hk hk' HT.out fun _ h => absurd h hlt'
          have h2 : decide (k < ys.length) = false := by simpa using hlt'
          go_wp2
          go_quiet (fail)
          go_wp2
          go_meet
          exact ⟨k, hk, hk', rfl, HE, hd.drewN _⟩
      · have HE : Hid (cpre xs ys = k) := cpre_of _ _ k hk hk' HT.out fun h _ => absurd h hlt
        have h2 : decide (k < xs.length) = false := by simpa using hlt
        go_wp2
        go_quiet (fail)
        go_wp2
        go_meet
        exact ⟨k, hk, hk', rfl, HE, hd.drewN _⟩
  case rest =>
    obtain ⟨s, h1, h2, rfl, HS, hd⟩ := hcut
    have ha := ha.keep hd.keeps
    have hb := hb.keep hd.keeps
    obtain ⟨A1, c1, r1, sl1⟩ := run_at_from (P := Try.prog) 36 9 i0 Try.underlying36 hi hz1 wc ha .i64 s h1
    obtain ⟨B1, d1, r2, sl2⟩ := run_at_from (P := Try.prog) 36 9 i0 Try.underlying36 hi hz1 wc hb .i64 s h2
    go_wp2
    go_quiet (fail)
    clear r1 r2
    have sl1 := Strs.keep sl1 (Keeps.drewN wc nq)
    have sl2 := Strs.keep sl2 (Keeps.drewN wc nq)
    have hd := hd.drewN nq
    clear ha hb
    generalize wc.drewN nq = wd at *
    have HD := Lib.hid hd
    clear hd
    go_upto_block 2 with (fail)
    go_cut [6, 7] (fun vp vq wx => ∃ p q : List ByteArray, Strs wx vp p ∧ Strs wx vq q ∧ Hid (p = midL xs ys) ∧ Hid (q = midR xs ys) ∧ Drawn wd wx)
    case first =>
      have hl1 : (xs.drop s).length = xs.length - s := List.length_drop ..
      have hl2 : (ys.drop s).length = ys.length - s := List.length_drop ..
      have hst : Hid (xs.drop s = (xs.drop s).take (xs.drop s).length ∧ (xs.drop s).length + s + 0 = xs.length) := ⟨by rw [List.take_length], by omega⟩
      have hst' : Hid (ys.drop s = (ys.drop s).take (ys.drop s).length ∧ (ys.drop s).length + s + 0 = ys.length) := ⟨by rw [List.take_length], by omega⟩
      clear hl1 hl2
      go_wp2
      go_loopw [6, 7] (fun vp vq wr => ∃ (k : Nat) (p q : List ByteArray), Strs wr vp p ∧ Strs wr vq q ∧ Hid (p = (xs.drop s).take p.length ∧ p.length + s + k = xs.length) ∧ Hid (q = (ys.drop s).take q.length ∧ q.length + s + k = ys.length) ∧
          Hid (∀ i, i < k → xs[xs.length - 1 - i]? = ys[ys.length - 1 - i]?) ∧ Drawn wd wr) (fun vp _ _ => match vp with | .slice _ n _ => n | _ => 0)
      case atStart => exact ⟨0, _, _, sl1, sl2, hst, hst', fun i hi => by omega, Drawn.refl _⟩
      case round =>
        clear sl1 sl2 hst hst'
        obtain ⟨k, p, q, sl1, sl2, hp, hq, HT, hd⟩ := hrel
        obtain ⟨Ap, cp, rfl, hp1, hp2⟩ := sl1.form
        obtain ⟨Aq, cq, rfl, hq1, hq2⟩ := sl2.form
        have hpk := hp.out.2
        have hqk := hq.out.2
        have hfin : p.length = 0 ∨ q.length = 0 ∨ ¬ p[p.length - 1]? = q[q.length - 1]? → Hid (csuf xs ys = k) := fun h => csuf_of HS.out k (by omega) (by omega) HT.out fun g1 g2 e => by
          rcases h with h | h | h
          · omega
          · omega
          · obtain ⟨x1, x2⟩ := csuf_at hp.out hq.out (j1 := p.length - 1) (j2 := q.length - 1) (by omega) (by omega)
            rw [x1, x2] at h
            exact h e
        have hend : Hid (csuf xs ys = k) → Hid (p = midL xs ys) ∧ Hid (q = midR xs ys) := fun h => by
          refine ⟨?_, ?_⟩
          · show p = midL xs ys
            unfold midL
            rw [HS.out, h.out, show xs.length - k - s = p.length by omega]
            exact hp.out.1
          · show q = midR xs ys
            unfold midR
            rw [HS.out, h.out, show ys.length - k - s = q.length by omega]
            exact hq.out.1
        have HF := Lib.hid hfin
        have HE := Lib.hid hend
        clear hfin hend hpk hqk
        by_cases hp0 : 0 < p.length
        · by_cases hq0 : 0 < q.length
          · obtain ⟨j1, hj1⟩ : ∃ j, p.length = j + 1 := ⟨p.length - 1, by omega⟩
            obtain ⟨j2, hj2⟩ : ∃ j, q.length = j + 1 := ⟨q.length - 1, by omega⟩
            have y1 : (p.length : Int) - 1 = (j1 : Int) := by omega
            have y2 : (q.length : Int) - 1 = (j2 : Int) := by omega
            have y3 : IntKind.i64.wrap (j1 : Int) = (j1 : Int) := i64w (by omega) (by omega)
            have y4 : IntKind.i64.wrap (j2 : Int) = (j2 : Int) := i64w (by omega) (by omega)
            have y5 : (0 : Int) < (p.length : Int) := by omega
            have y6 : (0 : Int) < (q.length : Int) := by omega
            have y7 : (j1 : Int) < (p.length : Int) := by omega
            have y8 : (j2 : Int) < (q.length : Int) := by omega
            have l1 : j1 < p.length := by omega
            have l2 : j2 < q.length := by omega
            obtain ⟨b, off, rfl, ha1⟩ := sl1.get l1
            obtain ⟨b', off', rfl, hb1⟩ := sl2.get l2
            have L1 := Lib.hid hj1
            have L2 := Lib.hid hj2
            by_cases he : p[j1] = q[j2]
            · have hbe := str_eq he
              have HX := Lib.hid he
              obtain ⟨A2, c2, r1, s1⟩ := run_at_to (P := Try.prog) 36 9 i0 Try.underlying36 hi hz1 wr sl1 .i64 j1 (by omega)
              obtain ⟨B2, d2, r2, s2⟩ := run_at_to (P := Try.prog) 36 9 i0 Try.underlying36 hi hz1 wr sl2 .i64 j2 (by omega)
              clear he hj1 hj2
              go_wp2
              go_quiet (fail)
              rename Nat => m1
              go_wp2
              go_quiet (fail)
              rename Nat => m2
              clear r1 r2
              go_wp2
              go_roundw
              case rel =>
                obtain ⟨g1, g2, _⟩ := take_less hp.out L1.out
                obtain ⟨g3, g4, _⟩ := take_less hq.out L2.out
                refine ⟨k + 1, p.take j1, q.take j2, Strs.keep s1 ((Keeps.drewN wr m1).trans (Keeps.drewN _ m2)), Strs.keep s2 ((Keeps.drewN wr m1).trans (Keeps.drewN _ m2)), ⟨g1, g2⟩, ⟨g3, g4⟩, fun i hi => ?_, (hd.drewN m1).drewN m2⟩
                by_cases e : i = k
                · subst e
                  obtain ⟨x1, x2⟩ := csuf_at hp.out hq.out L1.out L2.out
                  rw [← x1, ← x2, List.getElem?_eq_getElem l1, List.getElem?_eq_getElem l2, HX.out]
                · exact HT.out i (by omega)
              case measure =>
                have := L1.out
                simp; omega
            · have hbe := str_ne he
              have HX := HF.out (.inr (.inr (by
                rw [show p.length - 1 = j1 by omega, show q.length - 1 = j2 by omega, List.getElem?_eq_getElem (by omega), List.getElem?_eq_getElem (by omega)]
                exact fun e => he (Option.some.inj e))))
              clear he hj1 hj2
              go_wp2
              go_quiet (fail)
              go_wp2
              go_meet
              exact ⟨p, q, Strs.keep sl1 (Keeps.drewN wr _), Strs.keep sl2 (Keeps.drewN wr _), (HE.out HX).1, (HE.out HX).2, hd.drewN _⟩
          · have HX := HF.out (.inr (.inl (by omega)))
            have y5 : (0 : Int) < (p.length : Int) := by omega
            have y6 : decide (0 < q.length) = false := decide_eq_false hq0
            go_wp2
            go_quiet (fail)
            go_wp2
            go_meet
            exact ⟨p, q, Strs.keep sl1 (Keeps.drewN wr _), Strs.keep sl2 (Keeps.drewN wr _), (HE.out HX).1, (HE.out HX).2, hd.drewN _⟩
        · have HX := HF.out (.inl (by omega))
          have y6 : decide (0 < p.length) = false := decide_eq_false hp0
          go_wp2
          go_quiet (fail)
          go_wp2
          go_meet
          exact ⟨p, q, Strs.keep sl1 (Keeps.drewN wr _), Strs.keep sl2 (Keeps.drewN wr _), (HE.out HX).1, (HE.out HX).2, hd.drewN _⟩
    case rest =>
      obtain ⟨p, q, sl1, sl2, hp, hq, hd⟩ := hcut
      have hl1 : p.length ≤ 1000 := by rw [hp.out]; unfold midL; simp; omega
      have hl2 : q.length ≤ 1000 := by rw [hq.out]; unfold midR; simp; omega
      have cm := middle_any _ _ _ _ _ s sl1 sl2 hl1 hl2 (by omega)
      have CM := Lib.hid cm
      clear cm
      have hbw := (HD.out.trans hd).below w.heap.size
      go_wp2_with (go_at_call 73; refine CM.out.mono ?_; rintro e w' ⟨v, rfl, hv, hb'⟩)
      go_ret
      refine ⟨v, rfl, ?_, hbw.trans (hb'.mono hbw.size)⟩
      have := hv.mono_base hbw.size
      rw [hp.out, hq.out] at this
      unfold diffL
      rw [HS.out]
      exact this

end Go.Proofs.Ythobbcafemkhbaa
