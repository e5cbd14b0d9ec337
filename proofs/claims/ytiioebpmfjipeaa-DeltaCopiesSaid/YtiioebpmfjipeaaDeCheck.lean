/- delta: Check, total, Size. -/
import Derived.Test.YtiioebpmfjipeaaDeSame
namespace Go.Proofs.Ytiioebpmfjipeaa
set_option linter.unusedVariables false
set_option linter.unusedSimpArgs false
open Go.RowKit

def checkF (n : Int) : Int → List DOp → Int
  | _, [] => 0
  | p, x :: l => if ¬ x.cp ∧ ¬ x.ins then 1 else if x.cp ∧ (x.off < 0 ∨ n < x.len ∨ n - x.len < x.off) then 2 else if 65536 - p < szD x then 4 else checkF n (p + szD x) l
/-- What Check answers. -/
def checkD (l : List DOp) (n : Int) : Int := if n < 0 ∨ 65536 < n then 2 else checkF n 0 l
theorem checkF_drop {n p : Int} {xs : List DOp} {k : Nat} {x : DOp} (hx : xs[k]? = some x) : checkF n p (xs.drop k) = checkF n p (x :: xs.drop (k + 1)) := by
  obtain ⟨h, rfl⟩ := List.getElem?_eq_some_iff.1 hx
  rw [List.drop_eq_getElem_cons h]
def Int64 (n : Int) : Prop := -9223372036854775808 ≤ n ∧ n ≤ 9223372036854775807
def CheckE (r : Int) (w0 : World) (e : Ending) (w : World) : Prop := e = .returned (.int .i64 r) ∧ Below w0.heap.size w0 w

set_option maxRecDepth 100000 in
set_option maxHeartbeats 4000000 in
theorem check_any (w : World) {va : Value} {xs : List DOp} (ha : Dls w va xs) (n : Int) (hi : ∀ x ∈ xs, Int64 x.off ∧ Int64 x.len ∧ x.data.length ≤ 9000000000000000000) :
    Calls Try.prog 18 #[va, .int .i64 n] w (CheckE (checkD xs n) w) := by
  obtain ⟨A, c, rfl, h1, h2⟩ := ha.form
  by_cases hn : n < 0 ∨ 65536 < n
  · have hr : checkD xs n = 2 := if_pos hn
    rw [hr]
    have HE := Lib.hid (show CheckE 2 w (.returned (.int .i64 2)) w from ⟨rfl, Below.refl _ _⟩)
    clear ha hi hr
    rcases hn with hn | hn
    · go_enter Try.func18, Try.ntmps18
      go_wp2
      go_ret
      exact HE.out
    · have hn0 : decide (n < 0) = false := by simp; omega
      go_enter Try.func18, Try.ntmps18
      go_wp2
      go_ret
      exact HE.out
  · have hr : checkD xs n = checkF n 0 xs := if_neg hn
    rw [hr]
    have hn0 : decide (n < 0) = false := by simp; omega
    have hn1 : decide (65536 < n) = false := by simp; omega
    have hna : 0 ≤ n ∧ n ≤ 65536 := by omega
    have HA := Lib.hid ha
    have HI := Lib.hid hi
    have HX0 : Hid (checkF n 0 xs = checkF n 0 (xs.drop 0)) := rfl
    generalize hr0 : checkF n 0 xs = r at *
    clear ha hi hr hn hr0
    go_enter Try.func18, Try.ntmps18
    go_wp2
    go_loopw [5, 16] (fun pr i wr => ∃ (k : Nat) (p : Int), k ≤ xs.length ∧ i = .int .i64 k ∧ pr = .int .i64 p ∧ 0 ≤ p ∧ p ≤ 65536 ∧ Hid (r = checkF n p (xs.drop k)) ∧ Below w.heap.size w wr) (fun _ i _ => xs.length - (intOf i).toNat)
    case atStart => exact ⟨0, 0, by omega, rfl, rfl, by omega, by omega, HX0, Below.refl _ _⟩
    case round =>
      obtain ⟨k, p, hk, rfl, rfl, hp0, hp1, HR, hbw⟩ := hrel
      clear HX0
      by_cases hlt : k < xs.length
      · obtain ⟨x, hx⟩ : ∃ x, xs[k]? = some x := ⟨_, List.getElem?_eq_getElem hlt⟩
        obtain ⟨i1, i2, i3⟩ := HI.out x (List.mem_of_getElem? hx)
        obtain ⟨b1, o1, rfl, c0, c1, c2⟩ := (HA.out.keep (Keeps.of_below hbw)).get hx
        have HR2 : Hid (r = checkF n p (x :: xs.drop (k + 1))) := by show _ = _; rw [HR.out, checkF_drop hx]
        have CC := fun w' => isCopy_any x w'
        have CI := fun w' => isIns_any x w'
        have CZ := fun w' => size_any x w'
        obtain ⟨xo, xl, xd⟩ := x
        simp only at c0 c1 c2 i1 i2 i3
        unfold dV at CC CI CZ
        simp only at CC CI CZ
        have hal := (Below.refl wr.heap.size wr).alloc (Nat.le_refl _) (.cells #[.int .i64 xo, .int .i64 xl, .string (strB xd)] 28)
        have hbx := Blk.new wr #[.int .i64 xo, .int .i64 xl, .string (strB xd)] 28
        have HB := Lib.hid hbw
        clear hx HR hbw
        by_cases hc : (⟨xo, xl, xd⟩ : DOp).cp
        · have hcb : cpB ⟨xo, xl, xd⟩ = true := decide_eq_true hc
          simp only [hcb] at CC
          have CC' := Lib.hid CC
          clear CC CI hcb
          -- round cp
          have CZ' := Lib.hid CZ
          have hz0 : szD ⟨xo, xl, xd⟩ = xl := if_pos hc.1
          have CZ' := Lib.hid (fun w' => by have h := CZ'.out w'; simp only [hz0] at h; exact h)
          by_cases hb : xo < 0 ∨ n < xl ∨ n - xl < xo
          · have HR3 : Hid (r = 2) := by
              show _ = _
              rw [HR2.out]
              show (if _ then _ else _) = _
              rw [if_neg (fun h => h.1 hc), if_pos ⟨hc, hb⟩]
            have hxl : 0 < xl := hc.1
            clear CZ HR2 hz0 hc CZ'
            rcases hb with hb | hb | hb
            · have d1 : decide (xo < 0) = true := by simpa using hb
              go_upto_region 7 with (fail)
              generalize wr.alloc (.cells #[.int .i64 xo, .int .i64 xl, .string (strB xd)] 28) = w2 at *
              have HB2 := Lib.hid (HB.out.trans (hal.mono HB.out.size))
              generalize wr.heap.size = gx at *
              have hbx2 := hbx
              have q20 : w2.cell? ⟨gx, 0, none⟩ = some (.int .i64 xo) := hbx.cell (j := 0) rfl
              have q21 : w2.cell? ⟨gx, 1, none⟩ = some (.int .i64 xl) := hbx.cell (j := 1) rfl
              have q22 : w2.cell? ⟨gx, 2, none⟩ = some (.string (strB xd)) := hbx.cell (j := 2) rfl
              clear hal hbx HB c0 c1 c2
              go_wp2_with fail
              refine (CC'.out _).mono ?_
              rintro e w3 ⟨rfl, hb3⟩
              have hbx3 := hbx2.keep hb3
              have HB3 := Lib.hid (HB2.out.trans (hb3.mono HB2.out.size))
              have q30 : w3.cell? ⟨gx, 0, none⟩ = some (.int .i64 xo) := hbx3.cell (j := 0) rfl
              have q31 : w3.cell? ⟨gx, 1, none⟩ = some (.int .i64 xl) := hbx3.cell (j := 1) rfl
              have q32 : w3.cell? ⟨gx, 2, none⟩ = some (.string (strB xd)) := hbx3.cell (j := 2) rfl
              clear hb3
              go_wp2_with fail
              refine (CC'.out _).mono ?_
              rintro e w4 ⟨rfl, hb4⟩
              have hbx4 := hbx3.keep hb4
              have HB4 := Lib.hid (HB3.out.trans (hb4.mono HB3.out.size))
              have q40 : w4.cell? ⟨gx, 0, none⟩ = some (.int .i64 xo) := hbx4.cell (j := 0) rfl
              have q41 : w4.cell? ⟨gx, 1, none⟩ = some (.int .i64 xl) := hbx4.cell (j := 1) rfl
              have q42 : w4.cell? ⟨gx, 2, none⟩ = some (.string (strB xd)) := hbx4.cell (j := 2) rfl
              clear hb4
              have HE : CheckE r w (.returned (.int .i64 2)) w4 := ⟨by rw [HR3.out], HB4.out⟩
              have HE' := Lib.hid HE
              clear HE
              go_wp2
              go_ret
              exact HE'.out
            · by_cases hb0 : xo < 0
              · have d1 : decide (xo < 0) = true := by simpa using hb0
                go_upto_region 7 with (fail)
                generalize wr.alloc (.cells #[.int .i64 xo, .int .i64 xl, .string (strB xd)] 28) = w2 at *
                have HB2 := Lib.hid (HB.out.trans (hal.mono HB.out.size))
                generalize wr.heap.size = gx at *
                have hbx2 := hbx
                have q20 : w2.cell? ⟨gx, 0, none⟩ = some (.int .i64 xo) := hbx.cell (j := 0) rfl
                have q21 : w2.cell? ⟨gx, 1, none⟩ = some (.int .i64 xl) := hbx.cell (j := 1) rfl
                have q22 : w2.cell? ⟨gx, 2, none⟩ = some (.string (strB xd)) := hbx.cell (j := 2) rfl
                clear hal hbx HB c0 c1 c2
                go_wp2_with fail
                refine (CC'.out _).mono ?_
                rintro e w3 ⟨rfl, hb3⟩
                have hbx3 := hbx2.keep hb3
                have HB3 := Lib.hid (HB2.out.trans (hb3.mono HB2.out.size))
                have q30 : w3.cell? ⟨gx, 0, none⟩ = some (.int .i64 xo) := hbx3.cell (j := 0) rfl
                have q31 : w3.cell? ⟨gx, 1, none⟩ = some (.int .i64 xl) := hbx3.cell (j := 1) rfl
                have q32 : w3.cell? ⟨gx, 2, none⟩ = some (.string (strB xd)) := hbx3.cell (j := 2) rfl
                clear hb3
                go_wp2_with fail
                refine (CC'.out _).mono ?_
                rintro e w4 ⟨rfl, hb4⟩
                have hbx4 := hbx3.keep hb4
                have HB4 := Lib.hid (HB3.out.trans (hb4.mono HB3.out.size))
                have q40 : w4.cell? ⟨gx, 0, none⟩ = some (.int .i64 xo) := hbx4.cell (j := 0) rfl
                have q41 : w4.cell? ⟨gx, 1, none⟩ = some (.int .i64 xl) := hbx4.cell (j := 1) rfl
                have q42 : w4.cell? ⟨gx, 2, none⟩ = some (.string (strB xd)) := hbx4.cell (j := 2) rfl
                clear hb4
                have HE : CheckE r w (.returned (.int .i64 2)) w4 := ⟨by rw [HR3.out], HB4.out⟩
                have HE' := Lib.hid HE
                clear HE
                go_wp2
                go_ret
                exact HE'.out
              · have d1 : decide (xo < 0) = false := by simpa using hb0
                have d2 : decide (n < xl) = true := by simpa using hb
                go_upto_region 7 with (fail)
                generalize wr.alloc (.cells #[.int .i64 xo, .int .i64 xl, .string (strB xd)] 28) = w2 at *
                have HB2 := Lib.hid (HB.out.trans (hal.mono HB.out.size))
                generalize wr.heap.size = gx at *
                have hbx2 := hbx
                have q20 : w2.cell? ⟨gx, 0, none⟩ = some (.int .i64 xo) := hbx.cell (j := 0) rfl
                have q21 : w2.cell? ⟨gx, 1, none⟩ = some (.int .i64 xl) := hbx.cell (j := 1) rfl
                have q22 : w2.cell? ⟨gx, 2, none⟩ = some (.string (strB xd)) := hbx.cell (j := 2) rfl
                clear hal hbx HB c0 c1 c2
                go_wp2_with fail
                refine (CC'.out _).mono ?_
                rintro e w3 ⟨rfl, hb3⟩
                have hbx3 := hbx2.keep hb3
                have HB3 := Lib.hid (HB2.out.trans (hb3.mono HB2.out.size))
                have q30 : w3.cell? ⟨gx, 0, none⟩ = some (.int .i64 xo) := hbx3.cell (j := 0) rfl
                have q31 : w3.cell? ⟨gx, 1, none⟩ = some (.int .i64 xl) := hbx3.cell (j := 1) rfl
                have q32 : w3.cell? ⟨gx, 2, none⟩ = some (.string (strB xd)) := hbx3.cell (j := 2) rfl
                clear hb3
                go_wp2_with fail
                refine (CC'.out _).mono ?_
                rintro e w4 ⟨rfl, hb4⟩
                have hbx4 := hbx3.keep hb4
                have HB4 := Lib.hid (HB3.out.trans (hb4.mono HB3.out.size))
                have q40 : w4.cell? ⟨gx, 0, none⟩ = some (.int .i64 xo) := hbx4.cell (j := 0) rfl
                have q41 : w4.cell? ⟨gx, 1, none⟩ = some (.int .i64 xl) := hbx4.cell (j := 1) rfl
                have q42 : w4.cell? ⟨gx, 2, none⟩ = some (.string (strB xd)) := hbx4.cell (j := 2) rfl
                clear hb4
                have HE : CheckE r w (.returned (.int .i64 2)) w4 := ⟨by rw [HR3.out], HB4.out⟩
                have HE' := Lib.hid HE
                clear HE
                go_wp2
                go_ret
                exact HE'.out
            · by_cases hb0 : xo < 0
              · have d1 : decide (xo < 0) = true := by simpa using hb0
                go_upto_region 7 with (fail)
                generalize wr.alloc (.cells #[.int .i64 xo, .int .i64 xl, .string (strB xd)] 28) = w2 at *
                have HB2 := Lib.hid (HB.out.trans (hal.mono HB.out.size))
                generalize wr.heap.size = gx at *
                have hbx2 := hbx
                have q20 : w2.cell? ⟨gx, 0, none⟩ = some (.int .i64 xo) := hbx.cell (j := 0) rfl
                have q21 : w2.cell? ⟨gx, 1, none⟩ = some (.int .i64 xl) := hbx.cell (j := 1) rfl
                have q22 : w2.cell? ⟨gx, 2, none⟩ = some (.string (strB xd)) := hbx.cell (j := 2) rfl
                clear hal hbx HB c0 c1 c2
                go_wp2_with fail
                refine (CC'.out _).mono ?_
                rintro e w3 ⟨rfl, hb3⟩
                have hbx3 := hbx2.keep hb3
                have HB3 := Lib.hid (HB2.out.trans (hb3.mono HB2.out.size))
                have q30 : w3.cell? ⟨gx, 0, none⟩ = some (.int .i64 xo) := hbx3.cell (j := 0) rfl
                have q31 : w3.cell? ⟨gx, 1, none⟩ = some (.int .i64 xl) := hbx3.cell (j := 1) rfl
                have q32 : w3.cell? ⟨gx, 2, none⟩ = some (.string (strB xd)) := hbx3.cell (j := 2) rfl
                clear hb3
                go_wp2_with fail
                refine (CC'.out _).mono ?_
                rintro e w4 ⟨rfl, hb4⟩
                have hbx4 := hbx3.keep hb4
                have HB4 := Lib.hid (HB3.out.trans (hb4.mono HB3.out.size))
                have q40 : w4.cell? ⟨gx, 0, none⟩ = some (.int .i64 xo) := hbx4.cell (j := 0) rfl
                have q41 : w4.cell? ⟨gx, 1, none⟩ = some (.int .i64 xl) := hbx4.cell (j := 1) rfl
                have q42 : w4.cell? ⟨gx, 2, none⟩ = some (.string (strB xd)) := hbx4.cell (j := 2) rfl
                clear hb4
                have HE : CheckE r w (.returned (.int .i64 2)) w4 := ⟨by rw [HR3.out], HB4.out⟩
                have HE' := Lib.hid HE
                clear HE
                go_wp2
                go_ret
                exact HE'.out
              · by_cases hb1 : n < xl
                · have d1 : decide (xo < 0) = false := by simpa using hb0
                  have d2 : decide (n < xl) = true := by simpa using hb1
                  go_upto_region 7 with (fail)
                  generalize wr.alloc (.cells #[.int .i64 xo, .int .i64 xl, .string (strB xd)] 28) = w2 at *
                  have HB2 := Lib.hid (HB.out.trans (hal.mono HB.out.size))
                  generalize wr.heap.size = gx at *
                  have hbx2 := hbx
                  have q20 : w2.cell? ⟨gx, 0, none⟩ = some (.int .i64 xo) := hbx.cell (j := 0) rfl
                  have q21 : w2.cell? ⟨gx, 1, none⟩ = some (.int .i64 xl) := hbx.cell (j := 1) rfl
                  have q22 : w2.cell? ⟨gx, 2, none⟩ = some (.string (strB xd)) := hbx.cell (j := 2) rfl
                  clear hal hbx HB c0 c1 c2
                  go_wp2_with fail
                  refine (CC'.out _).mono ?_
                  rintro e w3 ⟨rfl, hb3⟩
                  have hbx3 := hbx2.keep hb3
                  have HB3 := Lib.hid (HB2.out.trans (hb3.mono HB2.out.size))
                  have q30 : w3.cell? ⟨gx, 0, none⟩ = some (.int .i64 xo) := hbx3.cell (j := 0) rfl
                  have q31 : w3.cell? ⟨gx, 1, none⟩ = some (.int .i64 xl) := hbx3.cell (j := 1) rfl
                  have q32 : w3.cell? ⟨gx, 2, none⟩ = some (.string (strB xd)) := hbx3.cell (j := 2) rfl
                  clear hb3
                  go_wp2_with fail
                  refine (CC'.out _).mono ?_
                  rintro e w4 ⟨rfl, hb4⟩
                  have hbx4 := hbx3.keep hb4
                  have HB4 := Lib.hid (HB3.out.trans (hb4.mono HB3.out.size))
                  have q40 : w4.cell? ⟨gx, 0, none⟩ = some (.int .i64 xo) := hbx4.cell (j := 0) rfl
                  have q41 : w4.cell? ⟨gx, 1, none⟩ = some (.int .i64 xl) := hbx4.cell (j := 1) rfl
                  have q42 : w4.cell? ⟨gx, 2, none⟩ = some (.string (strB xd)) := hbx4.cell (j := 2) rfl
                  clear hb4
                  have HE : CheckE r w (.returned (.int .i64 2)) w4 := ⟨by rw [HR3.out], HB4.out⟩
                  have HE' := Lib.hid HE
                  clear HE
                  go_wp2
                  go_ret
                  exact HE'.out
                · have d1 : decide (xo < 0) = false := by simpa using hb0
                  have d2 : decide (n < xl) = false := by simpa using hb1
                  have d3 : decide (n - xl < xo) = true := by simpa using hb
                  go_upto_region 7 with (fail)
                  generalize wr.alloc (.cells #[.int .i64 xo, .int .i64 xl, .string (strB xd)] 28) = w2 at *
                  have HB2 := Lib.hid (HB.out.trans (hal.mono HB.out.size))
                  generalize wr.heap.size = gx at *
                  have hbx2 := hbx
                  have q20 : w2.cell? ⟨gx, 0, none⟩ = some (.int .i64 xo) := hbx.cell (j := 0) rfl
                  have q21 : w2.cell? ⟨gx, 1, none⟩ = some (.int .i64 xl) := hbx.cell (j := 1) rfl
                  have q22 : w2.cell? ⟨gx, 2, none⟩ = some (.string (strB xd)) := hbx.cell (j := 2) rfl
                  clear hal hbx HB c0 c1 c2
                  go_wp2_with fail
                  refine (CC'.out _).mono ?_
                  rintro e w3 ⟨rfl, hb3⟩
                  have hbx3 := hbx2.keep hb3
                  have HB3 := Lib.hid (HB2.out.trans (hb3.mono HB2.out.size))
                  have q30 : w3.cell? ⟨gx, 0, none⟩ = some (.int .i64 xo) := hbx3.cell (j := 0) rfl
                  have q31 : w3.cell? ⟨gx, 1, none⟩ = some (.int .i64 xl) := hbx3.cell (j := 1) rfl
                  have q32 : w3.cell? ⟨gx, 2, none⟩ = some (.string (strB xd)) := hbx3.cell (j := 2) rfl
                  clear hb3
                  go_wp2_with fail
                  refine (CC'.out _).mono ?_
                  rintro e w4 ⟨rfl, hb4⟩
                  have hbx4 := hbx3.keep hb4
                  have HB4 := Lib.hid (HB3.out.trans (hb4.mono HB3.out.size))
                  have q40 : w4.cell? ⟨gx, 0, none⟩ = some (.int .i64 xo) := hbx4.cell (j := 0) rfl
                  have q41 : w4.cell? ⟨gx, 1, none⟩ = some (.int .i64 xl) := hbx4.cell (j := 1) rfl
                  have q42 : w4.cell? ⟨gx, 2, none⟩ = some (.string (strB xd)) := hbx4.cell (j := 2) rfl
                  clear hb4
                  have HE : CheckE r w (.returned (.int .i64 2)) w4 := ⟨by rw [HR3.out], HB4.out⟩
                  have HE' := Lib.hid HE
                  clear HE
                  go_wp2
                  go_ret
                  exact HE'.out
          · have hb0 : ¬ xo < 0 := fun h => hb (.inl h)
            have hb1 : ¬ n < xl := fun h => hb (.inr (.inl h))
            have hb2 : ¬ n - xl < xo := fun h => hb (.inr (.inr h))
            have d1 : decide (xo < 0) = false := by simpa using hb0
            have d2 : decide (n < xl) = false := by simpa using hb1
            have d3 : decide (n - xl < xo) = false := by simpa using hb2
            have hxl : 0 < xl := hc.1
            by_cases hz : 65536 - p < xl
            · have HR3 : Hid (r = 4) := by
                show _ = _
                rw [HR2.out]
                show (if _ then _ else _) = _
                rw [if_neg (fun h => h.1 hc), if_neg (fun h => hb h.2), if_pos (by rw [hz0]; exact hz)]
              clear CZ HR2 hz0 hc hb
              go_upto_region 7 with (fail)
              generalize wr.alloc (.cells #[.int .i64 xo, .int .i64 xl, .string (strB xd)] 28) = w2 at *
              have HB2 := Lib.hid (HB.out.trans (hal.mono HB.out.size))
              generalize wr.heap.size = gx at *
              have hbx2 := hbx
              have q20 : w2.cell? ⟨gx, 0, none⟩ = some (.int .i64 xo) := hbx.cell (j := 0) rfl
              have q21 : w2.cell? ⟨gx, 1, none⟩ = some (.int .i64 xl) := hbx.cell (j := 1) rfl
              have q22 : w2.cell? ⟨gx, 2, none⟩ = some (.string (strB xd)) := hbx.cell (j := 2) rfl
              clear hal hbx HB c0 c1 c2
              go_wp2_with fail
              refine (CC'.out _).mono ?_
              rintro e w3 ⟨rfl, hb3⟩
              have hbx3 := hbx2.keep hb3
              have HB3 := Lib.hid (HB2.out.trans (hb3.mono HB2.out.size))
              have q30 : w3.cell? ⟨gx, 0, none⟩ = some (.int .i64 xo) := hbx3.cell (j := 0) rfl
              have q31 : w3.cell? ⟨gx, 1, none⟩ = some (.int .i64 xl) := hbx3.cell (j := 1) rfl
              have q32 : w3.cell? ⟨gx, 2, none⟩ = some (.string (strB xd)) := hbx3.cell (j := 2) rfl
              clear hb3
              go_wp2_with fail
              refine (CC'.out _).mono ?_
              rintro e w4 ⟨rfl, hb4⟩
              have hbx4 := hbx3.keep hb4
              have HB4 := Lib.hid (HB3.out.trans (hb4.mono HB3.out.size))
              have q40 : w4.cell? ⟨gx, 0, none⟩ = some (.int .i64 xo) := hbx4.cell (j := 0) rfl
              have q41 : w4.cell? ⟨gx, 1, none⟩ = some (.int .i64 xl) := hbx4.cell (j := 1) rfl
              have q42 : w4.cell? ⟨gx, 2, none⟩ = some (.string (strB xd)) := hbx4.cell (j := 2) rfl
              clear hb4
              go_wp2_with fail
              refine (CZ'.out _).mono ?_
              rintro e w5 ⟨rfl, hb5⟩
              have hbx5 := hbx4.keep hb5
              have HB5 := Lib.hid (HB4.out.trans (hb5.mono HB4.out.size))
              have q50 : w5.cell? ⟨gx, 0, none⟩ = some (.int .i64 xo) := hbx5.cell (j := 0) rfl
              have q51 : w5.cell? ⟨gx, 1, none⟩ = some (.int .i64 xl) := hbx5.cell (j := 1) rfl
              have q52 : w5.cell? ⟨gx, 2, none⟩ = some (.string (strB xd)) := hbx5.cell (j := 2) rfl
              clear hb5
              have HE : CheckE r w (.returned (.int .i64 4)) w5 := ⟨by rw [HR3.out], HB5.out⟩
              have HE' := Lib.hid HE
              clear HE
              go_wp2
              go_ret
              exact HE'.out
            · have HR3 : Hid (r = checkF n (p + xl) (xs.drop (k + 1))) := by
                show _ = _
                rw [HR2.out]
                show (if _ then _ else _) = _
                rw [if_neg (fun h => h.1 hc), if_neg (fun h => hb h.2), if_neg (by rw [hz0]; exact hz), hz0]
              have hz' : xl ≤ 65536 - p := by omega
              clear CZ HR2 hz0 hc hb
              go_upto_region 7 with (fail)
              generalize wr.alloc (.cells #[.int .i64 xo, .int .i64 xl, .string (strB xd)] 28) = w2 at *
              have HB2 := Lib.hid (HB.out.trans (hal.mono HB.out.size))
              generalize wr.heap.size = gx at *
              have hbx2 := hbx
              have q20 : w2.cell? ⟨gx, 0, none⟩ = some (.int .i64 xo) := hbx.cell (j := 0) rfl
              have q21 : w2.cell? ⟨gx, 1, none⟩ = some (.int .i64 xl) := hbx.cell (j := 1) rfl
              have q22 : w2.cell? ⟨gx, 2, none⟩ = some (.string (strB xd)) := hbx.cell (j := 2) rfl
              clear hal hbx HB c0 c1 c2
              go_wp2_with fail
              refine (CC'.out _).mono ?_
              rintro e w3 ⟨rfl, hb3⟩
              have hbx3 := hbx2.keep hb3
              have HB3 := Lib.hid (HB2.out.trans (hb3.mono HB2.out.size))
              have q30 : w3.cell? ⟨gx, 0, none⟩ = some (.int .i64 xo) := hbx3.cell (j := 0) rfl
              have q31 : w3.cell? ⟨gx, 1, none⟩ = some (.int .i64 xl) := hbx3.cell (j := 1) rfl
              have q32 : w3.cell? ⟨gx, 2, none⟩ = some (.string (strB xd)) := hbx3.cell (j := 2) rfl
              clear hb3
              go_wp2_with fail
              refine (CC'.out _).mono ?_
              rintro e w4 ⟨rfl, hb4⟩
              have hbx4 := hbx3.keep hb4
              have HB4 := Lib.hid (HB3.out.trans (hb4.mono HB3.out.size))
              have q40 : w4.cell? ⟨gx, 0, none⟩ = some (.int .i64 xo) := hbx4.cell (j := 0) rfl
              have q41 : w4.cell? ⟨gx, 1, none⟩ = some (.int .i64 xl) := hbx4.cell (j := 1) rfl
              have q42 : w4.cell? ⟨gx, 2, none⟩ = some (.string (strB xd)) := hbx4.cell (j := 2) rfl
              clear hb4
              go_wp2_with fail
              refine (CZ'.out _).mono ?_
              rintro e w5 ⟨rfl, hb5⟩
              have hbx5 := hbx4.keep hb5
              have HB5 := Lib.hid (HB4.out.trans (hb5.mono HB4.out.size))
              have q50 : w5.cell? ⟨gx, 0, none⟩ = some (.int .i64 xo) := hbx5.cell (j := 0) rfl
              have q51 : w5.cell? ⟨gx, 1, none⟩ = some (.int .i64 xl) := hbx5.cell (j := 1) rfl
              have q52 : w5.cell? ⟨gx, 2, none⟩ = some (.string (strB xd)) := hbx5.cell (j := 2) rfl
              clear hb5
              go_wp2_with fail
              refine (CZ'.out _).mono ?_
              rintro e w6 ⟨rfl, hb6⟩
              have hbx6 := hbx5.keep hb6
              have HB6 := Lib.hid (HB5.out.trans (hb6.mono HB5.out.size))
              have q60 : w6.cell? ⟨gx, 0, none⟩ = some (.int .i64 xo) := hbx6.cell (j := 0) rfl
              have q61 : w6.cell? ⟨gx, 1, none⟩ = some (.int .i64 xl) := hbx6.cell (j := 1) rfl
              have q62 : w6.cell? ⟨gx, 2, none⟩ = some (.string (strB xd)) := hbx6.cell (j := 2) rfl
              clear hb6
              go_wp2
              go_roundw
              case rel => exact ⟨k + 1, p + xl, by omega, by go_num, rfl, by omega, by omega, HR3, HB6.out⟩
              case measure => simp [intOf]; omega
          -- end round
        · have hcb : cpB ⟨xo, xl, xd⟩ = false := decide_eq_false hc
          simp only [hcb] at CC
          have CC' := Lib.hid CC
          clear CC hcb
          by_cases hin : (⟨xo, xl, xd⟩ : DOp).ins
          · have hib : insB ⟨xo, xl, xd⟩ = true := decide_eq_true hin
            simp only [hib] at CI
            -- round ins
            have CI' := Lib.hid CI
            have CZ' := Lib.hid CZ
            have hz0 : szD ⟨xo, xl, xd⟩ = (xd.length : Int) := if_neg (by rw [hin.1]; simp)
            have CZ' := Lib.hid (fun w' => by have h := CZ'.out w'; simp only [hz0] at h; exact h)
            by_cases hz : 65536 - p < (xd.length : Int)
            · have HR3 : Hid (r = 4) := by
                show _ = _
                rw [HR2.out]
                show (if _ then _ else _) = _
                rw [if_neg (fun h => h.2 hin), if_neg (fun h => hc h.1), if_pos (by rw [hz0]; exact hz)]
              clear CI CZ hib hin hc HR2 hz0
              go_upto_region 7 with (fail)
              generalize wr.alloc (.cells #[.int .i64 xo, .int .i64 xl, .string (strB xd)] 28) = w2 at *
              have HB2 := Lib.hid (HB.out.trans (hal.mono HB.out.size))
              generalize wr.heap.size = gx at *
              have hbx2 := hbx
              have q20 : w2.cell? ⟨gx, 0, none⟩ = some (.int .i64 xo) := hbx.cell (j := 0) rfl
              have q21 : w2.cell? ⟨gx, 1, none⟩ = some (.int .i64 xl) := hbx.cell (j := 1) rfl
              have q22 : w2.cell? ⟨gx, 2, none⟩ = some (.string (strB xd)) := hbx.cell (j := 2) rfl
              clear hal hbx HB c0 c1 c2
              go_wp2_with fail
              refine (CC'.out _).mono ?_
              rintro e w3 ⟨rfl, hb3⟩
              have hbx3 := hbx2.keep hb3
              have HB3 := Lib.hid (HB2.out.trans (hb3.mono HB2.out.size))
              have q30 : w3.cell? ⟨gx, 0, none⟩ = some (.int .i64 xo) := hbx3.cell (j := 0) rfl
              have q31 : w3.cell? ⟨gx, 1, none⟩ = some (.int .i64 xl) := hbx3.cell (j := 1) rfl
              have q32 : w3.cell? ⟨gx, 2, none⟩ = some (.string (strB xd)) := hbx3.cell (j := 2) rfl
              clear hb3
              go_wp2_with fail
              refine (CI'.out _).mono ?_
              rintro e w4 ⟨rfl, hb4⟩
              have hbx4 := hbx3.keep hb4
              have HB4 := Lib.hid (HB3.out.trans (hb4.mono HB3.out.size))
              have q40 : w4.cell? ⟨gx, 0, none⟩ = some (.int .i64 xo) := hbx4.cell (j := 0) rfl
              have q41 : w4.cell? ⟨gx, 1, none⟩ = some (.int .i64 xl) := hbx4.cell (j := 1) rfl
              have q42 : w4.cell? ⟨gx, 2, none⟩ = some (.string (strB xd)) := hbx4.cell (j := 2) rfl
              clear hb4
              go_wp2_with fail
              refine (CC'.out _).mono ?_
              rintro e w5 ⟨rfl, hb5⟩
              have hbx5 := hbx4.keep hb5
              have HB5 := Lib.hid (HB4.out.trans (hb5.mono HB4.out.size))
              have q50 : w5.cell? ⟨gx, 0, none⟩ = some (.int .i64 xo) := hbx5.cell (j := 0) rfl
              have q51 : w5.cell? ⟨gx, 1, none⟩ = some (.int .i64 xl) := hbx5.cell (j := 1) rfl
              have q52 : w5.cell? ⟨gx, 2, none⟩ = some (.string (strB xd)) := hbx5.cell (j := 2) rfl
              clear hb5
              go_wp2_with fail
              refine (CZ'.out _).mono ?_
              rintro e w6 ⟨rfl, hb6⟩
              have hbx6 := hbx5.keep hb6
              have HB6 := Lib.hid (HB5.out.trans (hb6.mono HB5.out.size))
              have q60 : w6.cell? ⟨gx, 0, none⟩ = some (.int .i64 xo) := hbx6.cell (j := 0) rfl
              have q61 : w6.cell? ⟨gx, 1, none⟩ = some (.int .i64 xl) := hbx6.cell (j := 1) rfl
              have q62 : w6.cell? ⟨gx, 2, none⟩ = some (.string (strB xd)) := hbx6.cell (j := 2) rfl
              clear hb6
              have HE : CheckE r w (.returned (.int .i64 4)) w6 := ⟨by rw [HR3.out], HB6.out⟩
              have HE' := Lib.hid HE
              clear HE
              go_wp2
              go_ret
              exact HE'.out
            · have HR3 : Hid (r = checkF n (p + (xd.length : Int)) (xs.drop (k + 1))) := by
                show _ = _
                rw [HR2.out]
                show (if _ then _ else _) = _
                rw [if_neg (fun h => h.2 hin), if_neg (fun h => hc h.1), if_neg (by rw [hz0]; exact hz), hz0]
              have hz' : (xd.length : Int) ≤ 65536 - p := by omega
              clear CI CZ hib hin hc HR2 hz0
              go_upto_region 7 with (fail)
              generalize wr.alloc (.cells #[.int .i64 xo, .int .i64 xl, .string (strB xd)] 28) = w2 at *
              have HB2 := Lib.hid (HB.out.trans (hal.mono HB.out.size))
              generalize wr.heap.size = gx at *
              have hbx2 := hbx
              have q20 : w2.cell? ⟨gx, 0, none⟩ = some (.int .i64 xo) := hbx.cell (j := 0) rfl
              have q21 : w2.cell? ⟨gx, 1, none⟩ = some (.int .i64 xl) := hbx.cell (j := 1) rfl
              have q22 : w2.cell? ⟨gx, 2, none⟩ = some (.string (strB xd)) := hbx.cell (j := 2) rfl
              clear hal hbx HB c0 c1 c2
              go_wp2_with fail
              refine (CC'.out _).mono ?_
              rintro e w3 ⟨rfl, hb3⟩
              have hbx3 := hbx2.keep hb3
              have HB3 := Lib.hid (HB2.out.trans (hb3.mono HB2.out.size))
              have q30 : w3.cell? ⟨gx, 0, none⟩ = some (.int .i64 xo) := hbx3.cell (j := 0) rfl
              have q31 : w3.cell? ⟨gx, 1, none⟩ = some (.int .i64 xl) := hbx3.cell (j := 1) rfl
              have q32 : w3.cell? ⟨gx, 2, none⟩ = some (.string (strB xd)) := hbx3.cell (j := 2) rfl
              clear hb3
              go_wp2_with fail
              refine (CI'.out _).mono ?_
              rintro e w4 ⟨rfl, hb4⟩
              have hbx4 := hbx3.keep hb4
              have HB4 := Lib.hid (HB3.out.trans (hb4.mono HB3.out.size))
              have q40 : w4.cell? ⟨gx, 0, none⟩ = some (.int .i64 xo) := hbx4.cell (j := 0) rfl
              have q41 : w4.cell? ⟨gx, 1, none⟩ = some (.int .i64 xl) := hbx4.cell (j := 1) rfl
              have q42 : w4.cell? ⟨gx, 2, none⟩ = some (.string (strB xd)) := hbx4.cell (j := 2) rfl
              clear hb4
              go_wp2_with fail
              refine (CC'.out _).mono ?_
              rintro e w5 ⟨rfl, hb5⟩
              have hbx5 := hbx4.keep hb5
              have HB5 := Lib.hid (HB4.out.trans (hb5.mono HB4.out.size))
              have q50 : w5.cell? ⟨gx, 0, none⟩ = some (.int .i64 xo) := hbx5.cell (j := 0) rfl
              have q51 : w5.cell? ⟨gx, 1, none⟩ = some (.int .i64 xl) := hbx5.cell (j := 1) rfl
              have q52 : w5.cell? ⟨gx, 2, none⟩ = some (.string (strB xd)) := hbx5.cell (j := 2) rfl
              clear hb5
              go_wp2_with fail
              refine (CZ'.out _).mono ?_
              rintro e w6 ⟨rfl, hb6⟩
              have hbx6 := hbx5.keep hb6
              have HB6 := Lib.hid (HB5.out.trans (hb6.mono HB5.out.size))
              have q60 : w6.cell? ⟨gx, 0, none⟩ = some (.int .i64 xo) := hbx6.cell (j := 0) rfl
              have q61 : w6.cell? ⟨gx, 1, none⟩ = some (.int .i64 xl) := hbx6.cell (j := 1) rfl
              have q62 : w6.cell? ⟨gx, 2, none⟩ = some (.string (strB xd)) := hbx6.cell (j := 2) rfl
              clear hb6
              go_wp2_with fail
              refine (CZ'.out _).mono ?_
              rintro e w7 ⟨rfl, hb7⟩
              have hbx7 := hbx6.keep hb7
              have HB7 := Lib.hid (HB6.out.trans (hb7.mono HB6.out.size))
              have q70 : w7.cell? ⟨gx, 0, none⟩ = some (.int .i64 xo) := hbx7.cell (j := 0) rfl
              have q71 : w7.cell? ⟨gx, 1, none⟩ = some (.int .i64 xl) := hbx7.cell (j := 1) rfl
              have q72 : w7.cell? ⟨gx, 2, none⟩ = some (.string (strB xd)) := hbx7.cell (j := 2) rfl
              clear hb7
              go_wp2
              go_roundw
              case rel => exact ⟨k + 1, p + (xd.length : Int), by omega, by go_num, rfl, by omega, by omega, HR3, HB7.out⟩
              case measure => simp [intOf]; omega
            -- end round
          · have hib : insB ⟨xo, xl, xd⟩ = false := decide_eq_false hin
            simp only [hib] at CI
            have CI' := Lib.hid CI
            have HR3 : Hid (r = 1) := by show _ = _; rw [HR2.out]; exact if_pos ⟨hc, hin⟩
            clear CI CZ hib hin hc HR2
            -- round none
            go_upto_region 7 with (fail)
            generalize wr.alloc (.cells #[.int .i64 xo, .int .i64 xl, .string (strB xd)] 28) = w2 at *
            have HB2 := Lib.hid (HB.out.trans (hal.mono HB.out.size))
            generalize wr.heap.size = gx at *
            have hbx2 := hbx
            have q20 : w2.cell? ⟨gx, 0, none⟩ = some (.int .i64 xo) := hbx.cell (j := 0) rfl
            have q21 : w2.cell? ⟨gx, 1, none⟩ = some (.int .i64 xl) := hbx.cell (j := 1) rfl
            have q22 : w2.cell? ⟨gx, 2, none⟩ = some (.string (strB xd)) := hbx.cell (j := 2) rfl
            clear hal hbx HB c0 c1 c2
            go_wp2_with fail
            refine (CC'.out _).mono ?_
            rintro e w3 ⟨rfl, hb3⟩
            have hbx3 := hbx2.keep hb3
            have HB3 := Lib.hid (HB2.out.trans (hb3.mono HB2.out.size))
            have q30 : w3.cell? ⟨gx, 0, none⟩ = some (.int .i64 xo) := hbx3.cell (j := 0) rfl
            have q31 : w3.cell? ⟨gx, 1, none⟩ = some (.int .i64 xl) := hbx3.cell (j := 1) rfl
            have q32 : w3.cell? ⟨gx, 2, none⟩ = some (.string (strB xd)) := hbx3.cell (j := 2) rfl
            clear hb3
            go_wp2_with fail
            refine (CI'.out _).mono ?_
            rintro e w4 ⟨rfl, hb4⟩
            have hbx4 := hbx3.keep hb4
            have HB4 := Lib.hid (HB3.out.trans (hb4.mono HB3.out.size))
            have q40 : w4.cell? ⟨gx, 0, none⟩ = some (.int .i64 xo) := hbx4.cell (j := 0) rfl
            have q41 : w4.cell? ⟨gx, 1, none⟩ = some (.int .i64 xl) := hbx4.cell (j := 1) rfl
            have q42 : w4.cell? ⟨gx, 2, none⟩ = some (.string (strB xd)) := hbx4.cell (j := 2) rfl
            clear hb4
            have HE : CheckE r w (.returned (.int .i64 1)) w4 := ⟨by rw [HR3.out], HB4.out⟩
            have HE' := Lib.hid HE
            clear HE
            go_wp2
            go_ret
            exact HE'.out
            -- end round
      · have HR3 : Hid (r = 0) := by show _ = _; rw [HR.out, List.drop_of_length_le (by omega)]; rfl
        have HE : CheckE r w (.returned (.int .i64 0)) wr := ⟨by rw [HR3.out], hbw⟩
        have HE' := Lib.hid HE
        clear HE HR HR3 hbw
        go_wp2
        go_ret
        exact HE'.out
end Go.Proofs.Ytiioebpmfjipeaa
