/- linediff.steps, over linediff.Diff's function literal. -/
import Derived.Test.YthobbcafemkhbaaClosW
import Derived.Test.YthobbcafemkhbaaTable
import Derived.Deep.RegionWith
namespace Go.Proofs.Ythobbcafemkhbaa
open Go.RowKit

theorem ClSt.below {w w' : World} {B bo ba bl m : Nat} {done : List Hk} {cur : Option Hk} (h : ClSt w B bo ba bl m done cur) (k : Below w.heap.size w w') : ClSt w' B bo ba bl m done cur := by
  rcases cur with _ | ⟨n, o, e⟩
  · obtain ⟨vl, cells, h⟩ := h
    exact ⟨vl, cells, h.h1.keep k, h.h2.keep k, h.h3.keep k, h.b1, h.b2, h.b3, own_stab (M := fun _ => False) h.ow (fun _ _ h => h) _ (Agree.of_below k _), h.st.go (Agree.of_below k _)⟩
  · obtain ⟨hb, gl, cap, vo, vn, cells, cs, h⟩ := h
    exact ⟨hb, gl, cap, vo, vn, cells, cs, h.h1.keep k, h.h2.keep k, h.h3.keep k, h.h4.keep k, h.b1, h.b2, h.b3, h.b4, h.sz, h.le, h.lm, h.tk, h.cl,
      h.ho.stab (M := fun _ => False) (fun _ _ h => h) _ (Agree.of_below k _), h.hn.stab (M := fun _ => False) (fun _ _ h => h) _ (Agree.of_below k _), h.ne, h.st.go (Agree.of_below k _)⟩
theorem ClSt.size {w : World} {B bo ba bl m : Nat} {done : List Hk} {cur : Option Hk} (h : ClSt w B bo ba bl m done cur) : B ≤ w.heap.size := by
  rcases cur with _ | ⟨n, o, e⟩
  · obtain ⟨vl, cells, h⟩ := h
    have := h.b1; have := h.h1.lt; omega
  · obtain ⟨hb, gl, cap, vo, vn, cells, cs, h⟩ := h
    have := h.b1; have := h.h1.lt; omega
theorem Fr.of_below {B : Nat} {w w' : World} (h : Below w.heap.size w w') (hB : B ≤ w.heap.size) : Fr B w w' := ⟨h.mono hB, fun _ _ x => x.keep h⟩

/-- The open hunk, with lines more. -/
def chg (cur : Option Hk) (m : Nat) (rs as_ : List ByteArray) : Hk := match cur with
  | none => ((m : Int), rs, as_)
  | some (n, o, e) => (n, o ++ rs, e ++ as_)
def curLen (cur : Option Hk) (i k : Nat) : Prop := ∀ n o e, cur = some (n, o, e) → o.length ≤ i ∧ e.length ≤ k

theorem hk_rem' {m : Nat} {cur : Option Hk} {x : ByteArray} {s : List (Nat × ByteArray)} : hkF m cur ((1, x) :: s) = hkF (m + 1) (some (chg cur m [x] [])) s := by
  rcases cur with _ | ⟨n, o, e⟩
  · rfl
  · show hkF (m + 1) (some (n, o ++ [x], e)) s = hkF (m + 1) (some (n, o ++ [x], e ++ [])) s
    rw [List.append_nil]
theorem hk_add' {m : Nat} {cur : Option Hk} {x : ByteArray} {s : List (Nat × ByteArray)} : hkF m cur ((2, x) :: s) = hkF m (some (chg cur m [] [x])) s := by
  rcases cur with _ | ⟨n, o, e⟩
  · rfl
  · show hkF m (some (n, o, e ++ [x])) s = hkF m (some (n, o ++ [], e ++ [x])) s
    rw [List.append_nil]

theorem clos_change (W : World) (B bo ba bl m : Nat) (done : List Hk) (cur : Option Hk) (hst : ClSt W B bo ba bl m done cur) (vr va : Value) (rs as_ : List ByteArray) (hr : StrsB W B vr rs) (ha : StrsB W B va as_)
    (hm : m ≤ 1000000) (hcur : curLen cur 1000000 1000000) (hd : done.length ≤ 1000000) (hrl : rs.length ≤ 1000000) (hal : as_.length ≤ 1000000) :
    Calls Try.prog 80 #[.slice none 0 0, vr, va, .pointer (some ⟨bo, 0, none⟩), .pointer (some ⟨ba, 0, none⟩), .pointer (some ⟨bl, 0, none⟩)] W
      (ClPost W B bo ba bl (m + rs.length) done (some (chg cur m rs as_))) := by
  rcases cur with _ | ⟨n, o, e⟩
  · exact clos_new W B bo ba bl m done hst vr va rs as_ hr ha hm hd hrl hal
  · obtain ⟨h1, h2⟩ := hcur n o e rfl
    exact clos_open W B bo ba bl m done n o e hst vr va rs as_ hr ha hm h1 h2 hd hrl hal

theorem drop_take_one {xs : List ByteArray} {i : Nat} (h : i < xs.length) : (xs.drop i).take 1 = [xs[i]] := by
  rw [List.drop_eq_getElem_cons h]; rfl

theorem cur_len (cur : Option Hk) : cur.toList.length ≤ 1 := by cases cur <;> simp
theorem chg_rem {cur : Option Hk} {m i k : Nat} {x : ByteArray} (h : curLen cur i k) : curLen (some (chg cur m [x] [])) (i + 1) k := by
  rintro n o e he
  rcases cur with _ | ⟨n', o', e'⟩
  · simp only [chg, Option.some.injEq, Prod.mk.injEq] at he
    obtain ⟨_, rfl, rfl⟩ := he
    simp
  · simp only [chg, Option.some.injEq, Prod.mk.injEq] at he
    obtain ⟨_, rfl, rfl⟩ := he
    have := h _ _ _ rfl
    simp; omega
theorem chg_add {cur : Option Hk} {m i k : Nat} {x : ByteArray} (h : curLen cur i k) : curLen (some (chg cur m [] [x])) i (k + 1) := by
  rintro n o e he
  rcases cur with _ | ⟨n', o', e'⟩
  · simp only [chg, Option.some.injEq, Prod.mk.injEq] at he
    obtain ⟨_, rfl, rfl⟩ := he
    simp
  · simp only [chg, Option.some.injEq, Prod.mk.injEq] at he
    obtain ⟨_, rfl, rfl⟩ := he
    have := h _ _ _ rfl
    simp; omega

def StepPost (w : World) (B bo ba bl at_ : Nat) (xs ys : List ByteArray) (e : Ending) (w' : World) : Prop :=
  e = .returned (.tuple #[]) ∧ ∃ m done cur, ClSt w' B bo ba bl m done cur ∧ m ≤ at_ + xs.length ∧ done ++ cur.toList = hkF at_ none (script xs ys) ∧ Fr B w w'

set_option maxRecDepth 100000 in
set_option maxHeartbeats 2000000 in
theorem steps_any (w : World) (B bo ba bl at_ : Nat) (va vb : Value) (xs ys : List ByteArray) (hst : ClSt w B bo ba bl at_ [] none) (ha : StrsB w B va xs) (hb : StrsB w B vb ys) (hx : xs.length ≤ 1000) (hy : ys.length ≤ 1000) (hat : at_ ≤ 1000) :
    Calls Try.prog 79 #[va, vb, .func (.func 80) #[] #[.pointer (some ⟨bo, 0, none⟩), .pointer (some ⟨ba, 0, none⟩), .pointer (some ⟨bl, 0, none⟩)]] w
      (StepPost w B bo ba bl at_ xs ys) := by
  obtain ⟨A, c, rfl, hc, hm⟩ := ha.now.form
  obtain ⟨A', d, rfl, hc', hm'⟩ := hb.now.form
  obtain ⟨i0, hi, hz0, hz1, hz2⟩ := info_parts Try.info_str
  have ct := table_any w _ _ xs ys ha.now hb.now hx hy
  have CT := Lib.hid ct
  clear ct
  go_enter Try.func79, Try.ntmps79
  go_wp2_with (go_at_call 84; refine CT.out.mono ?_; rintro e w1 ⟨g, N, cs, rfl, hN, hg, hblk, hdp, hbel⟩; have HN := Lib.hid hN; clear hN)
  have hst1 := hst.below hbel
  have hfr1 : Fr B w w1 := Fr.of_below hbel hst.size
  clear hst CT hbel hg
  go_loopw [8, 9] (fun i k wr => ∃ (ii kk m : Nat) (done : List Hk) (cur : Option Hk), ii ≤ xs.length ∧ kk ≤ ys.length ∧ i = .int .i64 ii ∧ k = .int .i64 kk ∧ ClSt wr B bo ba bl m done cur ∧
      Hid (hkF at_ none (script xs ys) = done ++ hkF m cur (script (xs.drop ii) (ys.drop kk))) ∧ m ≤ at_ + ii ∧ curLen cur ii kk ∧ done.length ≤ ii ∧ Fr B w1 wr)
    (fun i k _ => xs.length + ys.length - ((intOf i).toNat + (intOf k).toNat))
  case atStart => exact ⟨0, 0, at_, [], none, by omega, by omega, rfl, rfl, hst1, rfl, by omega, fun _ _ _ h => by (cases h), by simp, Fr.refl _ _⟩
  case round =>
    clear hst1
    obtain ⟨ii, kk, m, done, cur, hii, hkk, rfl, rfl, hst, HH, hma, hcl, hdl, hfr⟩ := hrel
    have ha' := ha.fr (hfr1.trans hfr)
    have hb' := hb.fr (hfr1.trans hfr)
    have htb := hfr.tab _ _ hblk
    by_cases hlt : ii < xs.length
    · have hsl := run_at_both' (P := Try.prog) (sz := 1) (R := Str1) 36 9 i0 Try.underlying36 hi hz1 (A := A) hc .i64 .i64 ii (ii + 1) (by omega) (by omega)
      rw [show (((ii + 1 : Nat)) : Int) = (ii : Int) + 1 by simp, Nat.add_sub_cancel_left] at hsl
      obtain ⟨A1, c1, r1, s1⟩ := hsl
      have hsA : StrsB wr B (.slice A1 1 c1) [xs[ii]] := fun w' h => by
        have := s1 w' xs (ha' w' h)
        rw [drop_take_one hlt] at this
        exact this
      by_cases hlt' : kk < ys.length
      · obtain ⟨b, off, rfl, ha1⟩ := ha'.now.get hlt
        obtain ⟨b', off', rfl, hb1⟩ := hb'.now.get hlt'
        by_cases he : xs[ii] = ys[kk]
        · have hse := str_eq he
          have HS := Lib.hid (script_keep hlt hlt' he)
          clear he
          go_wp2
          go_quiet (fail)
          have cc := clos_keep (wr.drewN nq) B bo ba bl m done cur (hst.below ((Drawn.refl wr).drewN nq |>.below _)) _ _ (hsA.below ((Drawn.refl wr).drewN nq |>.below _)).now (by omega)
          have CC := Lib.hid cc
          clear cc
          go_wp2_with (go_at_call 80; go_must (refine CC.out.mono ?_); rintro e w2 ⟨rfl, hst2, hfr2⟩)
          go_roundw
          case rel => exact ⟨ii + 1, kk + 1, m + 1, done ++ cur.toList, none, by omega, by omega, by go_num, by go_num, hst2, by show _ = _; rw [HH.out, HS.out, hkF_keep, List.append_assoc], by omega, fun _ _ _ h => by (cases h), by have := cur_len cur; simp; omega, (hfr.trans ⟨((Drawn.refl wr).drewN nq).below _, fun _ _ h => h⟩).trans hfr2⟩
          case measure => simp [intOf]; omega
        · have hse := str_ne he
          obtain ⟨R0, hR0⟩ : ∃ R, R = ii * (ys.length + 1) := ⟨_, rfl⟩
          obtain ⟨R1, hR1⟩ : ∃ R, R = (ii + 1) * (ys.length + 1) := ⟨_, rfl⟩
          have y0 : (ii : Int) * ((ys.length : Int) + 1) = (R0 : Int) := by rw [hR0]; simp
          have y1 : ((ii : Int) + 1) * ((ys.length : Int) + 1) = (R1 : Int) := by rw [hR1]; simp
          have b1 : R1 + kk < N := by rw [hR1, HN.out]; exact idx_lt (by omega) (by omega)
          have b0 : R0 + kk + 1 < N := by rw [hR0, HN.out, Nat.add_assoc]; exact idx_lt (by omega) (by omega)
          have hN1 : N ≤ 1002001 := by rw [HN.out]; exact Nat.mul_le_mul (show xs.length + 1 ≤ 1001 by omega) (show ys.length + 1 ≤ 1001 by omega)
          have t1 := htb.cell (hdp.2 (ii + 1) kk (by omega) (by omega) (by omega))
          have t0 := htb.cell (hdp.2 ii (kk + 1) (by omega) (by omega) (by omega))
          rw [← hR1] at t1
          rw [← hR0, ← Nat.add_assoc] at t0
          have hkk1 : ((kk : Int) == ys.length) = false := by simp; omega
          have z0 : IntKind.i64.wrap (R0 : Int) = (R0 : Int) := i64w (by omega) (by omega)
          have z1 : IntKind.i64.wrap (R1 : Int) = (R1 : Int) := i64w (by omega) (by omega)
          have z2 : IntKind.i64.wrap ((R1 : Int) + kk) = (R1 : Int) + kk := i64w (by omega) (by omega)
          have z3 : IntKind.i64.wrap ((R0 : Int) + kk) = (R0 : Int) + kk := i64w (by omega) (by omega)
          have z4 : IntKind.i64.wrap ((R0 : Int) + kk + 1) = (R0 : Int) + kk + 1 := i64w (by omega) (by omega)
          have z5 : ((R1 : Int) + kk).toNat = R1 + kk := by omega
          have z6 : ((R0 : Int) + kk + 1).toNat = R0 + kk + 1 := by omega
          have z7 : (0 : Int) ≤ (R1 : Int) + kk := by omega
          have z8 : (0 : Int) ≤ (R0 : Int) + kk + 1 := by omega
          have z9 : (R1 : Int) + kk < (N : Int) := by omega
          have za : (R0 : Int) + kk + 1 < (N : Int) := by omega
          have zb : IntKind.i64.wrap ((ii : Int) + 1) = (ii : Int) + 1 := i64w (by omega) (by omega)
          clear hR0 hR1
          have d1 := dist_drop_le xs ys (ii + 1) kk
          have d2 := dist_drop_le xs ys ii (kk + 1)
          by_cases hd : dist (xs.drop (ii + 1)) (ys.drop kk) ≤ dist (xs.drop ii) (ys.drop (kk + 1))
          · have HS := Lib.hid (script_rem hlt hlt' he hd)
            clear he
            generalize dist (xs.drop (ii + 1)) (ys.drop kk) = D1 at *
            generalize dist (xs.drop ii) (ys.drop (kk + 1)) = D2 at *
            have hdI : (D1 : Int) ≤ (D2 : Int) := by omega
            go_wp2
            go_quiet (fail)
            rename Nat => m1
            go_wp2
            go_quiet (fail)
            rename Nat => m2
            have hstq := hst.below ((((Drawn.refl wr).drewN m1).drewN m2).below _)
            have hfrq := hfr.trans ⟨(((Drawn.refl wr).drewN m1).drewN m2).below B, fun _ _ h => h⟩
            have hsq := hsA.below ((((Drawn.refl wr).drewN m1).drewN m2).below B)
            generalize (wr.drewN m1).drewN m2 = wq at *
            clear y0 y1 z0 z1 z2 z3 z4 z5 z6 zb
            have cc := clos_change wq B bo ba bl m done cur hstq _ _ [xs[ii]] [] hsq (StrsB.nil _ _) (by omega) (fun n o e h => by have := hcl n o e h; omega) (by omega) (by simp) (by simp)
            have CC := Lib.hid cc
            clear cc
            go_wp2_with (go_at_call 80; go_must (refine CC.out.mono ?_); rintro e w2 ⟨rfl, hst2, hfr2⟩)
            go_roundw
            case rel => exact ⟨ii + 1, kk, m + 1, done, _, by omega, by omega, by go_num, rfl, hst2, by show _ = _; rw [HH.out, HS.out, hk_rem'], by omega, chg_rem hcl, by omega, hfrq.trans hfr2⟩
            case measure => simp [intOf]; omega
          · have HS := Lib.hid (script_add hlt hlt' he hd)
            clear he
            generalize dist (xs.drop (ii + 1)) (ys.drop kk) = D1 at *
            generalize dist (xs.drop ii) (ys.drop (kk + 1)) = D2 at *
            have hdI : decide ((D1 : Int) ≤ (D2 : Int)) = false := by simp; omega
            have hsl' := run_at_both' (P := Try.prog) (sz := 1) (R := Str1) 36 9 i0 Try.underlying36 hi hz1 (A := some ⟨b', off', none⟩) hc' .i64 .i64 kk (kk + 1) (by omega) (by omega)
            rw [show (((kk + 1 : Nat)) : Int) = (kk : Int) + 1 by simp, Nat.add_sub_cancel_left] at hsl'
            obtain ⟨B2, d3, r2, s2⟩ := hsl'
            have hsB : StrsB wr B (.slice B2 1 d3) [ys[kk]] := fun w' h => by
              have := s2 w' ys (hb' w' h)
              rw [drop_take_one hlt'] at this
              exact this
            go_wp2
            go_quiet (fail)
            rename Nat => m1
            go_wp2
            go_quiet (fail)
            rename Nat => m2
            have hstq := hst.below ((((Drawn.refl wr).drewN m1).drewN m2).below _)
            have hfrq := hfr.trans ⟨(((Drawn.refl wr).drewN m1).drewN m2).below B, fun _ _ h => h⟩
            have hsq := hsB.below ((((Drawn.refl wr).drewN m1).drewN m2).below B)
            generalize (wr.drewN m1).drewN m2 = wq at *
            clear y0 y1 z0 z1 z2 z3 z4 z5 z6 zb
            have cc := clos_change wq B bo ba bl m done cur hstq _ _ [] [ys[kk]] (StrsB.nil _ _) hsq (by omega) (fun n o e h => by have := hcl n o e h; omega) (by omega) (by simp) (by simp)
            have CC := Lib.hid cc
            clear cc
            go_wp2_with (go_at_call 80; go_must (refine CC.out.mono ?_); rintro e w2 ⟨rfl, hst2, hfr2⟩)
            go_roundw
            case rel => exact ⟨ii, kk + 1, m, done, _, by omega, by omega, rfl, by go_num, hst2, by show _ = _; rw [HH.out, HS.out, hk_add'], by omega, chg_add hcl, by omega, hfrq.trans hfr2⟩
            case measure => simp [intOf]; omega
      · have hkk1 : ((kk : Int) == ys.length) = true := by simp; omega
        have hkk2 : decide (kk < ys.length) = false := by simp; omega
        obtain ⟨b, off, rfl, ha1⟩ := ha'.now.get hlt
        have HS := Lib.hid (script_rem_end (p := xs) (q := ys) (k := kk) hlt (by omega))
        go_wp2
        go_quiet (fail)
        rename Nat => m1
        go_wp2
        go_quiet (fail)
        rename Nat => m2
        have hstq := hst.below ((((Drawn.refl wr).drewN m1).drewN m2).below _)
        have hfrq := hfr.trans ⟨(((Drawn.refl wr).drewN m1).drewN m2).below B, fun _ _ h => h⟩
        have hsq := hsA.below ((((Drawn.refl wr).drewN m1).drewN m2).below B)
        generalize (wr.drewN m1).drewN m2 = wq at *
        have cc := clos_change wq B bo ba bl m done cur hstq _ _ [xs[ii]] [] hsq (StrsB.nil _ _) (by omega) (fun n o e h => by have := hcl n o e h; omega) (by omega) (by simp) (by simp)
        have CC := Lib.hid cc
        clear cc
        go_wp2_with (go_at_call 80; go_must (refine CC.out.mono ?_); rintro e w2 ⟨rfl, hst2, hfr2⟩)
        go_roundw
        case rel => exact ⟨ii + 1, kk, m + 1, done, _, by omega, by omega, by go_num, rfl, hst2, by show _ = _; rw [HH.out, HS.out, hk_rem'], by omega, chg_rem hcl, by omega, hfrq.trans hfr2⟩
        case measure => simp [intOf]; omega
    · have hii1 : decide (ii < xs.length) = false := by simp; omega
      by_cases hlt' : kk < ys.length
      · have HS := Lib.hid (script_add_end (p := xs) (q := ys) (i := ii) (by omega) hlt')
        have hsl' := run_at_both' (P := Try.prog) (sz := 1) (R := Str1) 36 9 i0 Try.underlying36 hi hz1 (A := A') hc' .i64 .i64 kk (kk + 1) (by omega) (by omega)
        rw [show (((kk + 1 : Nat)) : Int) = (kk : Int) + 1 by simp, Nat.add_sub_cancel_left] at hsl'
        obtain ⟨B1, d1, r2, s2⟩ := hsl'
        have hsB : StrsB wr B (.slice B1 1 d1) [ys[kk]] := fun w' h => by
          have := s2 w' ys (hb' w' h)
          rw [drop_take_one hlt'] at this
          exact this
        go_wp2
        go_quiet (fail)
        rename Nat => m1
        go_wp2
        go_quiet (fail)
        rename Nat => m2
        have hstq := hst.below ((((Drawn.refl wr).drewN m1).drewN m2).below _)
        have hfrq := hfr.trans ⟨(((Drawn.refl wr).drewN m1).drewN m2).below B, fun _ _ h => h⟩
        have hsq := hsB.below ((((Drawn.refl wr).drewN m1).drewN m2).below B)
        generalize (wr.drewN m1).drewN m2 = wq at *
        have cc := clos_change wq B bo ba bl m done cur hstq _ _ [] [ys[kk]] (StrsB.nil _ _) hsq (by omega) (fun n o e h => by have := hcl n o e h; omega) (by omega) (by simp) (by simp)
        have CC := Lib.hid cc
        clear cc
        go_wp2_with (go_at_call 80; go_must (refine CC.out.mono ?_); rintro e w2 ⟨rfl, hst2, hfr2⟩)
        go_roundw
        case rel => exact ⟨ii, kk + 1, m, done, _, by omega, by omega, rfl, by go_num, hst2, by show _ = _; rw [HH.out, HS.out, hk_add'], by omega, chg_add hcl, by omega, hfrq.trans hfr2⟩
        case measure => simp [intOf]; omega
      · have HS := Lib.hid (script_end (p := xs) (q := ys) (i := ii) (k := kk) (by omega) (by omega))
        go_wp2
        go_end0
        exact ⟨rfl, m, done, cur, hst, by omega, by rw [HH.out, HS.out]; rfl, hfr1.trans hfr⟩
end Go.Proofs.Ythobbcafemkhbaa
