/- delta: the reference's Diff. -/
import Derived.Test.YtiioebpmfjipeaaDeRAdd
namespace Go.Proofs.Ytiioebpmfjipeaa
set_option linter.unusedVariables false
set_option linter.unusedSimpArgs false
open Go.RowKit

/-- A call that answers a slice that reads as a delta. -/
def DlsE (xs : List DOp) (w0 : World) (e : Ending) (w : World) : Prop := ∃ v, e = .returned v ∧ Dls w v xs ∧ Below w0.heap.size w0 w
theorem RowE.dls {xs : List DOp} {w0 w : World} {e : Ending} (h : RowE xs w0 e w) : DlsE xs w0 e w := by
  obtain ⟨v, h1, h2, h3⟩ := h
  exact ⟨v, h1, dls_own h2, h3⟩
/-- What the reference's list is bounded by. -/
def Bd (xs : List DOp) (m : Nat) : Prop := xs.length ≤ m ∧ ∀ y ∈ xs, 0 ≤ y.off ∧ y.off ≤ 65536 ∧ 0 ≤ y.len ∧ y.len + y.data.length ≤ m
theorem Bd.mono {xs : List DOp} {m m' : Nat} (h : Bd xs m) (hm : m ≤ m') : Bd xs m' := ⟨by have := h.1; omega, fun y hy => by have := h.2 y hy; omega⟩
theorem addD_bd {xs : List DOp} {x : DOp} {m j : Nat} (h : Bd xs m) (hj : 1 ≤ j) (hx : 0 ≤ x.off ∧ x.off ≤ 65536 ∧ 0 ≤ x.len ∧ x.len + x.data.length ≤ j) : Bd (addD xs x) (m + j) := by
  rcases List.eq_nil_or_concat xs with rfl | ⟨ys, y, rfl⟩
  · refine ⟨by simp [addD]; omega, fun z hz => ?_⟩
    have : z = x := by simpa [addD] using hz
    subst this
    omega
  · rw [List.concat_eq_append] at *
    obtain ⟨h1, h2⟩ := h
    have hy := h2 y (by simp)
    have hys : ∀ z ∈ ys, 0 ≤ z.off ∧ z.off ≤ 65536 ∧ 0 ≤ z.len ∧ z.len + z.data.length ≤ m := fun z hz => h2 z (by simp [hz])
    rw [List.length_append, List.length_singleton] at h1
    rw [addD_last]
    split
    · refine ⟨by rw [List.length_append, List.length_singleton]; omega, fun z hz => ?_⟩
      rcases List.mem_append.1 hz with hz | hz
      · have := hys z hz; omega
      · have : z = ⟨0, 0, y.data ++ x.data⟩ := by simpa using hz
        subst this
        simp only [List.length_append]
        omega
    · split
      · refine ⟨by rw [List.length_append, List.length_singleton]; omega, fun z hz => ?_⟩
        rcases List.mem_append.1 hz with hz | hz
        · have := hys z hz; omega
        · have : z = ⟨y.off, y.len + x.len, []⟩ := by simpa using hz
          subst this
          simp only [List.length_nil]
          omega
      · refine ⟨by simp only [List.length_append, List.length_singleton]; omega, fun z hz => ?_⟩
        rcases List.mem_append.1 hz with hz | hz
        · rcases List.mem_append.1 hz with hz | hz
          · have := hys z hz; omega
          · have : z = y := by simpa using hz
            subst this; omega
        · have : z = x := by simpa using hz
          subst this; omega
theorem radd_bd (w : World) {va : Value} {xs : List DOp} {m : Nat} (ha : Dls w va xs) (hb : Bd xs m) (hm : m ≤ 1000000) (x : DOp) (hx : 0 ≤ x.len ∧ x.len ≤ 1000000000 ∧ x.data.length ≤ 1000000000) :
    Calls Try.prog 33 #[va, dV x] w (DlsE (addD xs x) w) :=
  (radd_any w ha x hx (fun y hy => by have := hb.2 y hy; omega) (by have := hb.1; omega)).mono fun _ _ h => h.dls

set_option maxRecDepth 100000 in
set_option maxHeartbeats 4000000 in
theorem rdiff_any (w : World) (a b : ByteArray) (ha : a.size ≤ 65536) (hb : b.size ≤ 65536) :
    Calls Try.prog 16 #[.string a, .string b] w (DlsE (diffD a.data.toList b.data.toList) w) := by
  have hbl : b.data.toList.length = b.size := rfl
  have hal : a.data.toList.length = a.size := rfl
  have HD : Hid ((diffF a.data.toList b.data.toList (b.size + 1) 0).foldl addD [] = diffD a.data.toList b.data.toList) := (joinD_eq (diffF_ok _ _ _ _)).symm
  have hda : decide ((65536 : Int) < (a.size : Int)) = false := by simp; omega
  have hdb : decide ((65536 : Int) < (b.size : Int)) = false := by simp; omega
  have HA := Lib.hid hal
  have HB := Lib.hid hbl
  clear hal hbl
  generalize diffD a.data.toList b.data.toList = D at *
  go_enter Try.func16, Try.ntmps16
  go_wp2
  go_loopw [5, 6] (fun vo ki wr => ∃ (xs : List DOp) (k : Nat), k ≤ b.size ∧ ki = .int .i64 k ∧ Hid (Dls wr vo xs ∧ Bd xs k ∧ (∃ f, b.size - k < f ∧ (diffF a.data.toList b.data.toList f k).foldl addD xs = D) ∧ Below w.heap.size w wr)) (fun _ ki _ => b.size - (intOf ki).toNat)
  case atStart => exact ⟨[], 0, by omega, rfl, Sl.nil _ _ _, ⟨by simp, fun y hy => by simp at hy⟩, ⟨b.size + 1, by omega, HD.out⟩, Below.refl _ _⟩
  case round =>
    clear HD
    obtain ⟨xs, k, hk, rfl, HI⟩ := hrel
    by_cases hlt : k < b.size
    · have hq : (k : Int) < b.size := by omega
      go_wp2
      go_loopw [7, 8, 9] (fun be mo i wi => ∃ n : Nat, n ≤ a.size ∧ i = .int .i64 n ∧ ∃ p m : Nat, be = .int .i64 p ∧ mo = .int .i64 m ∧ Hid (bestF a.data.toList (b.data.toList.drop k) n = (p, m)) ∧ Drawn wr wi) (fun _ _ i _ => a.size - (intOf i).toNat)
      case atStart => exact ⟨0, by omega, rfl, 0, 0, rfl, rfl, rfl, Drawn.refl _⟩
      case round =>
        obtain ⟨n, hn, rfl, p, m, rfl, rfl, HP, hd⟩ := hrel
        by_cases hln : n < a.size
        · have hqn : (n : Int) < a.size := by omega
          have CM := Lib.hid (match_any wr a b n k (by omega) (by omega) ha hb)
          have HN : Hid (bestF a.data.toList (b.data.toList.drop k) (n + 1) = if m < cpl (a.data.toList.drop n) (b.data.toList.drop k) then (n, cpl (a.data.toList.drop n) (b.data.toList.drop k)) else (p, m)) := by
            show _ = _
            rw [bestF, HP.out]
          generalize cpl (a.data.toList.drop n) (b.data.toList.drop k) = q at *
          clear HP
          go_wp2_with fail
          refine CM.out.mono ?_
          rintro e w2 ⟨rfl, hd2⟩
          have hd3 := hd.trans hd2
          clear CM hd2
          by_cases hc : m < q
          · have hc' : (m : Int) < q := by omega
            have HN' : Hid (bestF a.data.toList (b.data.toList.drop k) (n + 1) = (n, q)) := by show _ = _; rw [HN.out, if_pos hc]
            clear HN
            go_wp2
            go_roundw
            case rel => exact ⟨n + 1, by omega, by go_num, n, q, rfl, rfl, HN'.out, hd3⟩
            case measure => simp [intOf]; omega
          · have hc' : decide ((m : Int) < q) = false := by simp; omega
            have HN' : Hid (bestF a.data.toList (b.data.toList.drop k) (n + 1) = (p, m)) := by show _ = _; rw [HN.out, if_neg hc]
            clear HN
            go_wp2
            go_roundw
            case rel => exact ⟨n + 1, by omega, by go_num, p, m, rfl, rfl, HN'.out, hd3⟩
            case measure => simp [intOf]; omega
        · have hqn : decide ((n : Int) < a.size) = false := by simp; omega
          have hna : n = a.size := by omega
          have hP : pick a.data.toList (b.data.toList.drop k) = (p, m) := by
            unfold pick
            rw [HA.out, ← hna]
            exact HP.out
          obtain ⟨p1, p2⟩ := pick_le a.data.toList (b.data.toList.drop k)
          rw [hP, List.length_drop, HB.out] at p2
          rw [hP, HA.out] at p1
          simp only at p1 p2
          obtain ⟨i1, i2, ⟨f, i3, i4⟩, i5⟩ := HI.out
          obtain ⟨f, rfl⟩ : ∃ f', f = f' + 1 := ⟨f - 1, by omega⟩
          have hb2 := i5.trans (hd.below _)
          have i1' := i1.keep hd.keeps
          have hkl : k < b.data.toList.length := by rw [HB.out]; exact hlt
          by_cases h4 : m < 4
          · have hm4 : (m : Int) < 4 := by omega
            rw [diffF_ins hkl (by rw [hP]; simp only; omega), List.foldl_cons] at i4
            have hxe := extract_one b k hlt
            have CA := Lib.hid (radd_bd wr i1' i2 (by omega) ⟨0, 0, (b.data.toList.drop k).take 1⟩ (by simp only [List.length_take]; omega))
            have hbd := addD_bd (j := 1) (x := ⟨0, 0, (b.data.toList.drop k).take 1⟩) i2 (by omega) (by simp only [List.length_take]; omega)
            have I4 := Lib.hid i4
            have BD := Lib.hid hbd
            have HB2 := Lib.hid hb2
            unfold dV at CA
            have g1 : (k : Int) + 1 ≤ b.size := by omega
            clear HI HP hP i1 i2 i4 i5 hd i1' hbd hb2
            go_wp2_with fail
            refine CA.out.mono ?_
            rintro e w2 ⟨v, rfl, hv, hbw⟩
            have HR : ∃ ys, Hid (Dls w2 v ys ∧ Bd ys (k + 1) ∧ (∃ f, b.size - (k + 1) < f ∧ (diffF a.data.toList b.data.toList f (k + 1)).foldl addD ys = D) ∧ Below w.heap.size w w2) := ⟨_, hv, BD.out, ⟨f, by omega, I4.out⟩, HB2.out.trans (hbw.mono HB2.out.size)⟩
            obtain ⟨ys, HR⟩ := HR
            clear CA HB2 hv hbw BD I4 HA HB
            go_wp2
            go_roundw
            case rel => exact ⟨ys, k + 1, by omega, by go_num, HR⟩
            case measure => simp [intOf]; omega
          · have hm4 : decide ((m : Int) < 4) = false := by simp; omega
            rw [diffF_copy hkl (by rw [hP]; simp only; omega), List.foldl_cons, hP] at i4
            have CA := Lib.hid (radd_bd wr i1' i2 (by omega) ⟨p, m, []⟩ (by simp only [List.length_nil]; omega))
            have hbd := addD_bd (j := m) (x := ⟨p, m, []⟩) i2 (by omega) (by simp only [List.length_nil]; omega)
            have I4 := Lib.hid i4
            have BD := Lib.hid hbd
            have HB2 := Lib.hid hb2
            unfold dV at CA
            clear HI HP hP i1 i2 i4 i5 hd i1' hbd hb2
            go_wp2_with fail
            refine CA.out.mono ?_
            rintro e w2 ⟨v, rfl, hv, hbw⟩
            have HR : ∃ ys, Hid (Dls w2 v ys ∧ Bd ys (k + m) ∧ (∃ f, b.size - (k + m) < f ∧ (diffF a.data.toList b.data.toList f (k + m)).foldl addD ys = D) ∧ Below w.heap.size w w2) := ⟨_, hv, BD.out, ⟨f, by omega, I4.out⟩, HB2.out.trans (hbw.mono HB2.out.size)⟩
            obtain ⟨ys, HR⟩ := HR
            clear CA HB2 hv hbw BD I4 HA HB
            go_wp2
            go_roundw
            case rel => exact ⟨ys, k + m, by omega, by go_num, HR⟩
            case measure => simp [intOf]; omega
    · have hq : decide ((k : Int) < b.size) = false := by simp; omega
      obtain ⟨i1, i2, ⟨f, i3, i4⟩, i5⟩ := HI.out
      rw [diffF_end (by rw [HB.out]; exact hlt), List.foldl_nil] at i4
      subst i4
      have HE := Lib.hid (show DlsE xs w (.returned u5) wr from ⟨_, rfl, i1, i5⟩)
      clear HI i1 i2 i3 i5
      go_wp2
      go_ret
      exact HE.out
end Go.Proofs.Ytiioebpmfjipeaa
