/- textmerge.Clean. -/
import Derived.Test.YthobbcafemkhbaaTmVld
import Derived.Test.YthobbcafemkhbaaText
namespace Go.Proofs.Ythobbcafemkhbaa
open Go.RowKit

/-- The text of regions without conflict, if there is one. -/
def clnS (L : List Rg) : ByteArray × Bool := if vldF false L = true then (match L with
  | [] => (⟨#[]⟩, true)
  | [(false, _, l, _)] => (textB l, true)
  | _ => (⟨#[]⟩, false)) else (⟨#[]⟩, false)
theorem clnS_bad {L : List Rg} (h : vldF false L = false) : clnS L = (⟨#[]⟩, false) := by unfold clnS; rw [if_neg (by rw [h]; simp)]
theorem clnS_nil {L : List Rg} (h : L.length = 0) : clnS L = (⟨#[]⟩, true) := by
  obtain rfl : L = [] := List.eq_nil_of_length_eq_zero h
  rfl
theorem clnS_one {L : List Rg} (h : vldF false L = true) (hl : L.length = 1) (hc : L[0].1 = false) : clnS L = (textB L[0].2.2.1, true) := by
  obtain ⟨x, rfl⟩ : ∃ x, L = [x] := by
    match L, hl with
    | [x], _ => exact ⟨x, rfl⟩
  obtain ⟨c, b, l, r⟩ := x
  simp only [List.getElem_cons_zero] at hc ⊢
  subst hc
  unfold clnS
  rw [if_pos h]
theorem clnS_conf {L : List Rg} (hl : L.length = 1) (hc : L[0].1 = true) : clnS L = (⟨#[]⟩, false) := by
  obtain ⟨x, rfl⟩ : ∃ x, L = [x] := by
    match L, hl with
    | [x], _ => exact ⟨x, rfl⟩
  obtain ⟨c, b, l, r⟩ := x
  simp only [List.getElem_cons_zero] at hc
  subst hc
  unfold clnS
  split <;> rfl
theorem clnS_more {L : List Rg} (hl : 1 < L.length) : clnS L = (⟨#[]⟩, false) := by
  unfold clnS
  match L, hl with
  | (c, b, l, r) :: y :: t, _ => cases c <;> (split <;> rfl)
theorem ret_sb {p : ByteArray × Bool} {s : ByteArray} {b : Bool} (h : p = (s, b)) : Ending.returned (.tuple #[.string s, .bool b]) = .returned (.tuple #[.string p.1, .bool p.2]) := by rw [h]

set_option maxRecDepth 100000 in
set_option maxHeartbeats 2000000 in
theorem clean_any (w : World) (v : Value) (L : List Rg) (h : Rgs w v L) (hsz : SzR L) (hl : ∀ x ∈ L, x.2.2.1.length ≤ 100000 ∧ (textB x.2.2.1).size ≤ 100000000) :
    Calls Try.prog 18 #[v] w fun e w' => e = .returned (.tuple #[.string (clnS L).1, .bool (clnS L).2]) ∧ Below w.heap.size w w' := by
  have cv := Lib.hid (valid_any w v L h hsz)
  obtain ⟨A, c, rfl, hc, hm⟩ := h.form
  have HB := Lib.hid (clnS_bad (L := L))
  have HN := Lib.hid (clnS_nil (L := L))
  have HO := Lib.hid (clnS_one (L := L))
  have HC := Lib.hid (clnS_conf (L := L))
  have HM := Lib.hid (clnS_more (L := L))
  have HL := Lib.hid hl
  clear hl
  cases hv : vldF false L
  · have HE := Lib.hid (HB.out hv)
    rw [hv] at cv
    clear hv HN HO HC HM HB
    go_enter Try.func18, Try.ntmps18
    go_wp2_with fail
    refine cv.out.mono ?_
    rintro e w1 ⟨rfl, hb⟩
    go_wp2
    go_ret2
    exact ⟨ret_sb HE.out, hb⟩
  · rw [hv] at cv
    by_cases h0 : L.length = 0
    · have HE := Lib.hid (HN.out h0)
      have e0 : ((L.length : Int) == 0) = true := by rw [beq_iff_eq]; omega
      have e1 : ((L.length : Int) == 1) = false := by rw [beq_eq_false_iff_ne]; omega
      have e2 : decide ((1 : Int) < (L.length : Int)) = false := by simp; omega
      clear hv HN HO HC HM HB h0
      go_enter Try.func18, Try.ntmps18
      go_wp2_with fail
      refine cv.out.mono ?_
      rintro e w1 ⟨rfl, hb⟩
      go_wp2
      go_ret2
      exact ⟨ret_sb HE.out, hb⟩
    · by_cases h1 : 1 < L.length
      · have HE := Lib.hid (HM.out h1)
        have e2 : decide ((1 : Int) < (L.length : Int)) = true := by simp; omega
        clear hv HN HO HC HM HB h0
        go_enter Try.func18, Try.ntmps18
        go_wp2_with fail
        refine cv.out.mono ?_
        rintro e w1 ⟨rfl, hb⟩
        go_wp2
        go_ret2
        exact ⟨ret_sb HE.out, hb⟩
      · have hl1 : L.length = 1 := by omega
        have e0 : ((L.length : Int) == 0) = false := by rw [beq_eq_false_iff_ne]; omega
        have e1 : ((L.length : Int) == 1) = true := by rw [beq_iff_eq]; omega
        have e2 : decide ((1 : Int) < (L.length : Int)) = false := by simp; omega
        have hlt : 0 < L.length := by omega
        obtain ⟨b, off, v1, v2, v3, rfl, a1, a2, a3, a4, a5, a6, a7⟩ := h.get hlt
        have HO2 := Lib.hid (HO.out hv hl1)
        have HC2 := Lib.hid (HC.out hl1)
        have hx := HL.out L[0] (List.getElem_mem hlt)
        generalize L[0] = x at *
        obtain ⟨x1, xb, xl, xr⟩ := x
        simp only [Nat.zero_mul, Nat.add_zero] at *
        have ct := Lib.hid fun w1 (hs : Strs w1 v2 xl) => text_any w1 v2 xl hs hx.1 hx.2
        obtain ⟨A2, c2, rfl, _, _⟩ := a6.form
        clear HN HO HC HM HB h0 h1 hx
        cases x1
        · have HE := Lib.hid (HO2.out rfl)
          clear HO2 HC2 hv hl1
          have a6 := Lib.hid a6
          go_enter Try.func18, Try.ntmps18
          go_wp2_with fail
          refine cv.out.mono ?_
          rintro e w1 ⟨rfl, hb⟩
          have q1 := cell_later hb a1
          have q3 := cell_later hb a3
          have ct := ct.out w1 (a6.out.keep (Keeps.of_below hb))
          clear a1 a2 a3 a4 a5 a6 a7 cv
          generalize textB xl = T at *
          go_wp2_with fail
          refine ct.mono ?_
          clear ct
          rintro e w2 ⟨rfl, hb2⟩
          have hb3 := hb.trans (hb2.mono hb.size)
          go_wp2
          go_ret2
          exact ⟨ret_sb HE.out, hb3⟩
        · have HE := Lib.hid (HC2.out rfl)
          clear HO2 HC2 hv hl1 ct a2 a3 a4 a5 a6 a7
          go_enter Try.func18, Try.ntmps18
          go_wp2_with fail
          refine cv.out.mono ?_
          rintro e w1 ⟨rfl, hb⟩
          have q1 := cell_later hb a1
          clear a1 cv
          go_wp2
          go_ret2
          exact ⟨ret_sb HE.out, hb⟩
end Go.Proofs.Ythobbcafemkhbaa
