/- The reference's form, Check, Size; the code's total, Size. -/
import Derived.Test.YtiioebpmfjipeaaDeCheck
namespace Go.Proofs.Ytiioebpmfjipeaa
set_option linter.unusedVariables false
set_option linter.unusedSimpArgs false
open Go.RowKit

def formB (x : DOp) : Bool := decide (x.cp ∨ x.ins)
set_option maxHeartbeats 1000000 in
theorem form_any (x : DOp) (w : World) : Calls Try.prog 37 #[dV x] w fun e w' => e = .returned (.bool (formB x)) ∧ Below w.heap.size w w' := by
  obtain ⟨o, n, d⟩ := x
  unfold dV
  have hb : Below w.heap.size w (w.alloc (.cells #[.int .i64 o, .int .i64 n, .string (strB d)] 28)) := (Below.refl _ _).alloc (Nat.le_refl _) _
  have hl := strB_toList d
  by_cases h2 : d = []
  · have he : (strB d).toList.isEmpty = true := by rw [hl, h2]; rfl
    by_cases h1 : 0 < n
    · have hc : formB ⟨o, n, d⟩ = true := decide_eq_true (.inl ⟨h1, h2⟩)
      rw [hc]
      generalize strB d = s at *
      clear hc h2 hl
      go_enter Try.func37, Try.ntmps37
      go_wp2
      go_ret
      exact ⟨rfl, hb⟩
    · have hc : formB ⟨o, n, d⟩ = false := decide_eq_false fun e => e.elim (fun e => h1 e.1) fun e => e.2.2 h2
      rw [hc]
      have h1' : decide (0 < n) = false := decide_eq_false h1
      generalize strB d = s at *
      clear hc h2 hl
      by_cases h0 : n = 0
      · subst h0
        by_cases h3 : o = 0
        · subst h3
          go_enter Try.func37, Try.ntmps37
          go_wp2
          go_ret
          exact ⟨rfl, hb⟩
        · have h3' : (o == 0) = false := by simpa using h3
          go_enter Try.func37, Try.ntmps37
          go_wp2
          go_ret
          exact ⟨rfl, hb⟩
      · have h0' : (n == 0) = false := by simpa using h0
        go_enter Try.func37, Try.ntmps37
        go_wp2
        go_ret
        exact ⟨rfl, hb⟩
  · have he : (strB d).toList.isEmpty = false := by rw [hl]; simpa using h2
    by_cases h0 : n = 0
    · subst h0
      by_cases h3 : o = 0
      · subst h3
        have hc : formB ⟨0, 0, d⟩ = true := decide_eq_true (.inr ⟨rfl, rfl, h2⟩)
        rw [hc]
        generalize strB d = s at *
        clear hc h2 hl
        go_enter Try.func37, Try.ntmps37
        go_wp2
        go_ret
        exact ⟨rfl, hb⟩
      · have hc : formB ⟨o, 0, d⟩ = false := decide_eq_false fun e => e.elim (fun e => h2 e.2) fun e => h3 e.2.1
        rw [hc]
        have h3' : (o == 0) = false := by simpa using h3
        generalize strB d = s at *
        clear hc h2 hl
        go_enter Try.func37, Try.ntmps37
        go_wp2
        go_ret
        exact ⟨rfl, hb⟩
    · have hc : formB ⟨o, n, d⟩ = false := decide_eq_false fun e => e.elim (fun e => h2 e.2) fun e => h0 e.1
      rw [hc]
      have h0' : (n == 0) = false := by simpa using h0
      generalize strB d = s at *
      clear hc h2 hl
      by_cases h1 : 0 < n
      · have h1' : decide (0 < n) = true := decide_eq_true h1
        go_enter Try.func37, Try.ntmps37
        go_wp2
        go_ret
        exact ⟨rfl, hb⟩
      · have h1' : decide (0 < n) = false := decide_eq_false h1
        go_enter Try.func37, Try.ntmps37
        go_wp2
        go_ret
        exact ⟨rfl, hb⟩
theorem szD_form {x : DOp} (h : x.cp ∨ x.ins) : szD x = x.len + x.data.length := by
  rcases h with h | h
  · have : szD x = x.len := if_pos h.1
    rw [this, h.2]; simp
  · have : szD x = (x.data.length : Int) := if_neg (by rw [h.1]; omega)
    rw [this, h.1]; simp

set_option maxRecDepth 100000 in
set_option maxHeartbeats 4000000 in
theorem rcheck_any (w : World) {va : Value} {xs : List DOp} (ha : Dls w va xs) (n : Int) (hi : ∀ x ∈ xs, Int64 x.off ∧ Int64 x.len ∧ x.data.length ≤ 9000000000000000000) :
    Calls Try.prog 19 #[va, .int .i64 n] w (CheckE (checkD xs n) w) := by
  obtain ⟨A, c, rfl, h1, h2⟩ := ha.form
  by_cases hn : n < 0 ∨ 65536 < n
  · have hr : checkD xs n = 2 := if_pos hn
    rw [hr]
    have HE := Lib.hid (show CheckE 2 w (.returned (.int .i64 2)) w from ⟨rfl, Below.refl _ _⟩)
    clear ha hi hr
    rcases hn with hn | hn
    · go_enter Try.func19, Try.ntmps19
      go_wp2
      go_ret
      exact HE.out
    · have hn0 : decide (n < 0) = false := by simp; omega
      go_enter Try.func19, Try.ntmps19
      go_wp2
      go_ret
      exact HE.out
  · have hr : checkD xs n = checkF n 0 xs := if_neg hn
    rw [hr]
    have hn0 : decide (n < 0) = false := by simp; omega
    have hn1 : decide (65536 < n) = false := by simp; omega
    have hna : 0 ≤ n ∧ n ≤ 65536 := by omega
    have HA := Lib.hid ha
    have HI := Lib.hid hi
    have HX0 : Hid (checkF n 0 xs = checkF n 0 (xs.drop 0)) := rfl
    generalize hr0 : checkF n 0 xs = r at *
    clear ha hi hr hn hr0
    go_enter Try.func19, Try.ntmps19
    go_wp2
    go_loopw [5, 6] (fun pr i wr => ∃ (k : Nat) (p : Int), k ≤ xs.length ∧ i = .int .i64 k ∧ pr = .int .i64 p ∧ 0 ≤ p ∧ p ≤ 65536 ∧ Hid (r = checkF n p (xs.drop k)) ∧ Below w.heap.size w wr) (fun _ i _ => xs.length - (intOf i).toNat)
    case atStart => exact ⟨0, 0, by omega, rfl, rfl, by omega, by omega, HX0, Below.refl _ _⟩
    case round =>
      obtain ⟨k, p, hk, rfl, rfl, hp0, hp1, HR, hbw⟩ := hrel
      clear HX0
      by_cases hlt : k < xs.length
      · obtain ⟨x, hx⟩ : ∃ x, xs[k]? = some x := ⟨_, List.getElem?_eq_getElem hlt⟩
        obtain ⟨i1, i2, i3⟩ := HI.out x (List.mem_of_getElem? hx)
        obtain ⟨b1, o1, rfl, c0, c1, c2⟩ := (HA.out.keep (Keeps.of_below hbw)).get hx
        have HR2 : Hid (r = checkF n p (x :: xs.drop (k + 1))) := by show _ = _; rw [HR.out, checkF_drop hx]
        have CF := form_any x wr
        have hz := strB_size x.data
        obtain ⟨xo, xl, xd⟩ := x
        simp only at c0 c1 c2 i1 i2 i3 hz
        unfold dV at CF
        simp only at CF
        have HX := Lib.hid hx
        by_cases hf : (⟨xo, xl, xd⟩ : DOp).cp ∨ (⟨xo, xl, xd⟩ : DOp).ins
        · have hfb : formB ⟨xo, xl, xd⟩ = true := decide_eq_true hf
          rw [hfb] at CF
          have CF' := Lib.hid CF
          have hzz := szD_form hf
          simp only at hzz
          have hl0 : 0 ≤ xl := hf.elim (fun h => Int.le_of_lt h.1) (fun h => by have := h.1; simp only at this; omega)
          have HF := Lib.hid hf
          have HZ := Lib.hid hzz
          clear CF hfb hf hzz HR
          go_wp2_with fail
          refine CF'.out.mono ?_
          rintro e w2 ⟨rfl, hb2⟩
          have hbw2 := hbw.trans (hb2.mono hbw.size)
          obtain ⟨b2, o2, e2, d0, d1, d2⟩ := (HA.out.keep (Keeps.of_below hbw2)).get HX.out
          injection e2 with e2
          injection e2 with e2 e3 _
          subst e2
          subst e3
          simp only at d0 d1 d2
          have HB := Lib.hid hbw2
          clear hbw2 hbw hb2 CF' c0 c1 c2 hx
          by_cases hb : n < xl ∨ xo < 0 ∨ n - xl < xo
          · have HR3 : Hid (r = 2) := by
              show _ = _
              rw [HR2.out]
              show (if _ then _ else _) = _
              rw [if_neg (fun h => HF.out.elim h.1 h.2)]
              by_cases hc : (⟨xo, xl, xd⟩ : DOp).cp
              · rw [if_pos ⟨hc, by simp only; omega⟩]
              · exfalso
                have hin := HF.out.resolve_left hc
                have e1 := hin.1
                have e2 := hin.2.1
                simp only at e1 e2
                omega
            have HE : ∀ m, CheckE r w (.returned (.int .i64 2)) (w2.drewN m) := fun m => ⟨by rw [HR3.out], HB.out.trans (((Drawn.refl w2).drewN m).below _)⟩
            have HE' := Lib.hid HE
            clear HE HR2 HR3 HB HF HZ HX
            by_cases g1 : n < xl
            · have q1 : decide (n < xl) = true := by simpa using g1
              go_wp2
              go_quiet (fail)
              go_wp2
              go_ret
              exact HE'.out _
            · have q1 : decide (n < xl) = false := by simpa using g1
              by_cases g2 : xo < 0
              · have q2 : decide (xo < 0) = true := by simpa using g2
                go_wp2
                go_quiet (fail)
                go_wp2
                go_ret
                exact HE'.out _
              · have q2 : decide (xo < 0) = false := by simpa using g2
                have q3 : decide (n - xl < xo) = true := by simp; omega
                have hw1 : IntKind.i64.wrap (n - xl) = n - xl := i64w (by omega) (by omega)
                go_wp2
                go_quiet (fail)
                go_wp2
                go_ret
                exact HE'.out _
          · have q1 : decide (n < xl) = false := by simp; omega
            have q2 : decide (xo < 0) = false := by simp; omega
            have q3 : decide (n - xl < xo) = false := by simp; omega
            have hw1 : IntKind.i64.wrap (n - xl) = n - xl := i64w (by omega) (by omega)
            have hw2 : IntKind.i64.wrap (p + xl) = p + xl := i64w (by omega) (by omega)
            have hw3 : IntKind.i64.wrap (p + xl + (strB xd).size) = p + xl + (strB xd).size := i64w (by omega) (by omega)
            by_cases hs : 65536 < p + xl + (strB xd).size
            · have HR3 : Hid (r = 4) := by
                show _ = _
                rw [HR2.out]
                show (if _ then _ else _) = _
                rw [if_neg (fun h => HF.out.elim h.1 h.2), if_neg (fun h => hb (by have := h.2; simp only at this; omega)), if_pos (by rw [HZ.out]; omega)]
              have HE : ∀ m, CheckE r w (.returned (.int .i64 4)) (w2.drewN m) := fun m => ⟨by rw [HR3.out], HB.out.trans (((Drawn.refl w2).drewN m).below _)⟩
              have HE' := Lib.hid HE
              have q4 : decide (65536 < p + xl + ((strB xd).size : Int)) = true := by simpa using hs
              clear HE HR2 HR3 HB HF HZ HX hb hz
              go_wp2
              go_quiet (fail)
              go_wp2
              go_quiet (fail)
              go_wp2
              go_ret
              exact HE'.out _
            · have HR3 : Hid (r = checkF n (p + xl + (strB xd).size) (xs.drop (k + 1))) := by
                show _ = _
                rw [HR2.out]
                show (if _ then _ else _) = _
                rw [if_neg (fun h => HF.out.elim h.1 h.2), if_neg (fun h => hb (by have := h.2; simp only at this; omega)), if_neg (by rw [HZ.out]; omega), HZ.out, hz]
                rw [Int.add_assoc]
              have q4 : decide (65536 < p + xl + ((strB xd).size : Int)) = false := by simpa using hs
              have HBD : Hid (∀ m, Below w.heap.size w (w2.drewN m)) := fun m => HB.out.trans (((Drawn.refl w2).drewN m).below _)
              have hps : 0 ≤ p + xl + ((strB xd).size : Int) ∧ p + xl + ((strB xd).size : Int) ≤ 65536 := by omega
              clear HR2 HB HF HZ HX hb hz
              go_wp2
              go_quiet (fail)
              go_wp2
              go_quiet (fail)
              go_wp2
              go_roundw
              case rel => exact ⟨k + 1, p + xl + (strB xd).size, by omega, by go_num, rfl, hps.1, hps.2, HR3, HBD.out _⟩
              case measure => simp [intOf]; omega
        · have hfb : formB ⟨xo, xl, xd⟩ = false := decide_eq_false hf
          rw [hfb] at CF
          have CF' := Lib.hid CF
          have HR3 : Hid (r = 1) := by show _ = _; rw [HR2.out]; exact if_pos ⟨fun h => hf (.inl h), fun h => hf (.inr h)⟩
          clear CF hfb hf HR2 HX hx HR
          go_wp2_with fail
          refine CF'.out.mono ?_
          rintro e w2 ⟨rfl, hb2⟩
          have HE : CheckE r w (.returned (.int .i64 1)) w2 := ⟨by rw [HR3.out], hbw.trans (hb2.mono hbw.size)⟩
          have HE' := Lib.hid HE
          clear HE hb2 hbw HR3 CF'
          go_wp2
          go_ret
          exact HE'.out
      · have HR3 : Hid (r = 0) := by show _ = _; rw [HR.out, List.drop_of_length_le (by omega)]; rfl
        have HE : CheckE r w (.returned (.int .i64 0)) wr := ⟨by rw [HR3.out], hbw⟩
        have HE' := Lib.hid HE
        clear HE HR HR3 hbw
        go_wp2
        go_ret
        exact HE'.out
end Go.Proofs.Ytiioebpmfjipeaa
