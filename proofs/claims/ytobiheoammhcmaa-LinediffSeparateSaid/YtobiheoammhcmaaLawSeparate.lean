/- The walk of the law LinediffSeparate: it returns true for any two lists of strings. -/
import Derived.Test.YtobiheoammhcmaaAwake
import Derived.Test.YtobiheoammhcmaaMetricP
namespace Go.Proofs.Ytobiheoammhcmaa
open Go.RowKit

/-- The state of the loop: what is left lies apart. -/
def SepRel (W : World) (N : Nat) (L : List Hk) (s t : Value) (wr : World) : Prop :=
  ∃ (i : Nat) (z : Int), t = .int .i64 i ∧ s = .int .i64 z ∧ i ≤ L.length ∧ -1 ≤ z ∧ z ≤ (N : Int) ∧ Hid (sepB N z (L.drop i)) ∧ Below W.heap.size W wr
theorem sep_at {α : Type} {N i : Nat} {z c : Int} {o e : List α} {L : List (Int × List α × List α)} (h : sepB N z (L.drop i)) (hi : i < L.length) (he : L[i] = (c, o, e)) :
    (0 < o.length + e.length ∧ z < c ∧ 0 ≤ c ∧ c + (o.length : Int) ≤ (N : Int)) ∧ sepB N (c + (o.length : Int)) (L.drop (i + 1)) := by
  rw [List.drop_eq_getElem_cons hi, he] at h
  exact h

set_option maxRecDepth 100000 in
set_option maxHeartbeats 2000000 in
theorem law_separate (w : World) (va vb : Value) (xs ys : List ByteArray) (ha : Strs w va xs) (hb : Strs w vb ys) :
    Calls Try.prog 5 #[va, vb] w fun e w' => e = .returned (.bool true) ∧ Below w.heap.size w w' := by
  have g1 := great_any w va xs ha
  have g2 := great_any w vb ys hb
  have aw := awake_any w
  cases hx : greatB xs
  · rw [hx] at g1
    cases hy : greatB ys
    · rw [hy] at g2
      have lx := (greatB_false hx).1
      have ly := (greatB_false hy).1
      have HA := Lib.hid ha
      have c1 := diff_any w va vb xs ys ha hb (by omega) (by omega)
      clear hx hy aw
      go_enter Try.func5, Try.ntmps5
      have G2 := Lib.hid g2
      have C1 := Lib.hid c1
      clear g2 c1
      go_wp2_with fail
      refine g1.mono ?_
      clear g1
      rintro e w1 ⟨rfl, rfl⟩
      go_wp2_with fail
      refine G2.out.mono ?_
      clear G2
      rintro e w1 ⟨rfl, rfl⟩
      go_wp2_with fail
      refine C1.out.mono ?_
      clear C1
      rintro e w1 ⟨v1, rfl, hv1, hb1⟩
      have hH : Hks w1 v1 (diffL xs ys) := hv1.sl
      have ha1 := ha.keep (Keeps.of_below hb1)
      have HB1 := Lib.hid hb1
      have HS : Hid (sepB xs.length (-1) ((diffL xs ys).drop 0)) := sep_diffL xs ys
      have hsz3 : ∀ h ∈ diffL xs ys, h.2.1.length + h.2.2.length ≤ 24 := fun h hm => by
        have q1 := sizeH_mem hm
        have q2 := size_diffL_le xs ys
        omega
      have HZ := Lib.hid hsz3
      have hll := length_diffL xs ys
      clear hv1 hb1 hsz3 ha hb ha1
      generalize diffL xs ys = L at *
      obtain ⟨B, d, rfl, hc', hm'⟩ := hH.form
      obtain ⟨A0, c0, hva, hc0, hm0⟩ := HA.out.form
      subst hva
      clear HA
      go_wp2
      go_loopw [5, 19] (fun s t wr => SepRel w1 xs.length L s t wr) (fun _ t _ => L.length - (intOf t).toNat)
      case atStart => exact ⟨0, -1, rfl, rfl, by omega, by omega, by omega, HS, Below.refl _ _⟩
      case round =>
        obtain ⟨i, z, rfl, rfl, hin, hz0, hz1, hs, hd⟩ := hrel
        by_cases hlt : i < L.length
        · obtain ⟨b, off, vo, vn, rfl, a1, a2, a3, a4, a5, a6, a7⟩ := hH.get hlt
          have hbd := HZ.out _ (List.getElem_mem hlt)
          rcases hhe : L[i] with ⟨c, o, e⟩
          rw [hhe] at a1 a4 a5 a6 a7 hbd
          simp only at a1 a4 a5 a6 a7 hbd
          obtain ⟨⟨s1, s2, s3, s4⟩, s5⟩ := sep_at hs.out hlt hhe
          have HN := Lib.hid s5
          clear hhe s5 hs
          obtain ⟨Ao, co, rfl, o1, o2⟩ := a4.form
          obtain ⟨An, cn, rfl, e1, e2⟩ := a5.form
          have b1 := (Keeps.of_below hd) _ _ _ a1
          have b2 := (Keeps.of_below hd) _ _ _ a2
          have b3 := (Keeps.of_below hd) _ _ _ a3
          have hsz := hd.size
          have z1 : IntKind.i64.wrap ((o.length : Int) + (e.length : Int)) = (o.length : Int) + (e.length : Int) := i64w (by omega) (by omega)
          have z2 : IntKind.i64.wrap (c + (o.length : Int)) = c + (o.length : Int) := i64w (by omega) (by omega)
          have r1 : (((o.length : Int) + (e.length : Int)) == 0) = false := by simp; omega
          have r2 : decide (c ≤ z) = false := by simp; omega
          have r3 : decide (c < 0) = false := by simp; omega
          have r4 : decide ((xs.length : Int) < c + (o.length : Int)) = false := by simp; omega
          go_wp2
          go_roundw
          case rel => exact ⟨i + 1, c + (o.length : Int), by go_num, rfl, by omega, by omega, by omega, HN, hd.alloc hsz _⟩
          case measure => simp [intOf] <;> omega
        · have hb2 := HB1.out.trans (hd.mono HB1.out.size)
          have c6 := awake_any wr
          go_wp2_with fail
          refine c6.mono ?_
          clear c6
          rintro e w6 ⟨rfl, hb6⟩
          have hB6 := hb2.trans (hb6.mono hb2.size)
          go_wp2
          go_ret
          exact ⟨rfl, hB6⟩
    · rw [hy] at g2
      clear hx hy
      go_enter Try.func5, Try.ntmps5
      have G2 := Lib.hid g2
      have AW := Lib.hid aw
      clear g2 aw
      go_wp2_with fail
      refine g1.mono ?_
      clear g1
      rintro e w1 ⟨rfl, rfl⟩
      go_wp2_with fail
      refine G2.out.mono ?_
      clear G2
      rintro e w1 ⟨rfl, rfl⟩
      go_wp2_with fail
      refine AW.out.mono ?_
      clear AW
      rintro e w1 ⟨rfl, hb1⟩
      go_wp2
      go_ret
      exact ⟨rfl, hb1⟩
  · rw [hx] at g1
    clear g2 hx
    go_enter Try.func5, Try.ntmps5
    have AW := Lib.hid aw
    clear aw
    go_wp2_with fail
    refine g1.mono ?_
    clear g1
    rintro e w1 ⟨rfl, rfl⟩
    go_wp2_with fail
    refine AW.out.mono ?_
    clear AW
    rintro e w1 ⟨rfl, hb1⟩
    go_wp2
    go_ret
    exact ⟨rfl, hb1⟩
end Go.Proofs.Ytobiheoammhcmaa
