/- The walk of the law LinediffThere: it returns true for any two lists of strings. -/
import Derived.Test.YtobiheoammhcmaaInvert
import Derived.Test.YtobiheoammhcmaaAwake
namespace Go.Proofs.Ytobiheoammhcmaa
open Go.RowKit

theorem inv_bounds (wr : Int → Int) : ∀ {l : List Hk} (z : Int), (∀ h ∈ l, h.2.1.length ≤ 100000 ∧ h.2.2.length ≤ 100000) → ∀ h ∈ invF wr z l, h.2.1.length ≤ 100000 ∧ h.2.2.length ≤ 100000
  | [], _, _, h, hm => by cases hm
  | (n, o, e) :: l, z, hb, h, hm => by
    rcases List.mem_cons.1 hm with rfl | hm
    · have := hb _ List.mem_cons_self
      exact ⟨this.2, this.1⟩
    · exact inv_bounds wr _ (fun g hg => hb g (List.mem_cons_of_mem _ hg)) h hm
theorem wrap_back (n y z : Int) (h : y = -z) : IntKind.i64.wrap (IntKind.i64.wrap (n + y) + z) = IntKind.i64.wrap n := by
  subst h
  simp only [IntKind.wrap_i64]
  omega
theorem inv_inv_diffL (xs ys : List ByteArray) (h : xs.length ≤ 1000000) : invW (invW (diffL xs ys)) = diffL xs ys := by
  have := invF_invF IntKind.i64.wrap wrap_back (diffL xs ys) 0 (fun h hm => by
    have := mem_diffL_bounds xs ys (diffL xs ys) (-1) (sep_diffL xs ys) h hm
    exact i64w (by omega) (by omega))
  simpa [invW] using this

set_option maxRecDepth 100000 in
set_option maxHeartbeats 2000000 in
theorem law_there (w : World) (va vb : Value) (xs ys : List ByteArray) (ha : Strs w va xs) (hb : Strs w vb ys) :
    Calls Try.prog 8 #[va, vb] w fun e w' => e = .returned (.bool true) ∧ Below w.heap.size w w' := by
  have g1 := great_any w va xs ha
  have g2 := great_any w vb ys hb
  have aw := awake_any w
  cases hx : greatB xs
  · rw [hx] at g1
    cases hy : greatB ys
    · rw [hy] at g2
      have lx := (greatB_false hx).1
      have ly := (greatB_false hy).1
      have c1 := diff_any w va vb xs ys ha hb (by omega) (by omega)
      clear hx hy aw
      go_enter Try.func8, Try.ntmps8
      have G2 := Lib.hid g2
      have C1 := Lib.hid c1
      clear g2 c1
      go_wp2_with fail
      refine g1.mono ?_
      clear g1
      rintro e w1 ⟨rfl, rfl⟩
      go_wp2_with fail
      refine G2.out.mono ?_
      clear G2
      rintro e w1 ⟨rfl, rfl⟩
      go_wp2_with fail
      refine C1.out.mono ?_
      clear C1
      rintro e w1 ⟨v1, rfl, hv1, hb1⟩
      have hH : Hks w1 v1 (diffL xs ys) := hv1.sl
      have ha1 := ha.keep (Keeps.of_below hb1)
      have hb1' := hb.keep (Keeps.of_below hb1)
      have hsz3 : ∀ h ∈ diffL xs ys, h.2.1.length ≤ 100000 ∧ h.2.2.length ≤ 100000 := fun h hm => by
        have q1 := sizeH_mem hm
        have q2 := size_diffL_le xs ys
        omega
      have hsz4 : ∀ h ∈ invW (diffL xs ys), h.2.1.length ≤ 100000 ∧ h.2.2.length ≤ 100000 := inv_bounds _ _ hsz3
      have hll := length_diffL xs ys
      have hl2 : (invW (diffL xs ys)).length ≤ 100000 := by rw [invW, invF_length]; omega
      have E1 : Hid (apR xs 0 (diffL xs ys) = .ok ys) := ap_diffL xs ys
      have E2 : Hid (apR ys 0 (invW (diffL xs ys)) = .ok xs) := ap_inv_diffL _ 1000000 (fun n h0 h1 => i64w (by omega) (by omega)) xs ys (by omega)
      have E3 : Hid (invW (invW (diffL xs ys)) = diffL xs ys) := inv_inv_diffL xs ys (by omega)
      have Z3 := Lib.hid hsz3
      have Z4 := Lib.hid hsz4
      clear hv1 hsz3 hsz4 ha hb
      generalize diffL xs ys = L at *
      generalize hM : invW L = M at *
      have HM := Lib.hid hM
      clear hM
      have c2 := apply_any w1 va v1 xs L ha1 hH (by omega) (by omega) Z3.out
      rw [E1.out] at c2
      go_wp2_with fail
      refine c2.mono ?_
      clear c2
      rintro e w2 ⟨v2, _, rfl, hv2, rfl, hb2⟩
      have hv2 : Strs w2 v2 ys := hv2
      have k2 := Keeps.of_below hb2
      have ha2 := ha1.keep k2
      have hb2' := hb1'.keep k2
      have hH2 := hH.keep k2
      have hB2 := hb1.trans (hb2.mono hb1.size)
      clear ha1 hb1' hH hb1 hb2 k2
      have c3 := invert_any w2 v1 L hH2 (by omega) Z3.out
      rw [HM.out] at c3
      go_wp2_with fail
      refine c3.mono ?_
      clear c3
      rintro e w3 ⟨v3, rfl, hv3, hb3⟩
      have k3 := Keeps.of_below hb3
      have ha3 := ha2.keep k3
      have hb3' := hb2'.keep k3
      have hH3 := hH2.keep k3
      have hv2 := hv2.keep k3
      have hB3 := hB2.trans (hb3.mono hB2.size)
      clear ha2 hb2' hH2 hB2 hb3 k3
      have c4 := apply_any w3 vb v3 ys M hb3' hv3 (by omega) hl2 Z4.out
      rw [E2.out] at c4
      go_wp2_with fail
      refine c4.mono ?_
      clear c4
      rintro e w4 ⟨v4, _, rfl, hv4, rfl, hb4⟩
      have hv4 : Strs w4 v4 xs := hv4
      have k4 := Keeps.of_below hb4
      have ha4 := ha3.keep k4
      have hb4' := hb3'.keep k4
      have hH4 := hH3.keep k4
      have hv2 := hv2.keep k4
      have hB4 := hB3.trans (hb4.mono hB3.size)
      clear ha3 hb3' hH3 hv3 hB3 hb4 k4
      have c5 := same_any w4 v2 vb ys ys hv2 hb4'
      rw [eqB_true rfl] at c5
      go_wp2_with fail
      refine c5.mono ?_
      clear c5
      rintro e w5 ⟨rfl, hd⟩
      have k5 := hd.keeps
      have ha5 := ha4.keep k5
      have hH5 := hH4.keep k5
      have hv4 := hv4.keep k5
      have hB5 := hB4.trans (hd.below _)
      clear ha4 hb4' hH4 hv2 hB4 hd k5
      have c6 := same_any w5 v4 va xs xs hv4 ha5
      rw [eqB_true rfl] at c6
      go_wp2_with fail
      refine c6.mono ?_
      clear c6
      rintro e w6 ⟨rfl, hd⟩
      have hH6 := hH5.keep hd.keeps
      have hB6 := hB5.trans (hd.below _)
      clear ha5 hH5 hv4 hB5 hd
      have c7 := invert_any w6 v1 L hH6 (by omega) Z3.out
      rw [HM.out] at c7
      go_wp2_with fail
      refine c7.mono ?_
      clear c7
      rintro e w7 ⟨v7, rfl, hv7, hb7⟩
      have hH7 := hH6.keep (Keeps.of_below hb7)
      have hB7 := hB6.trans (hb7.mono hB6.size)
      clear hH6 hB6 hb7
      have c8 := invert_any w7 v7 M hv7 hl2 Z4.out
      rw [E3.out] at c8
      go_wp2_with fail
      refine c8.mono ?_
      clear c8
      rintro e w8 ⟨v8, rfl, hv8, hb8⟩
      have hH8 := hH7.keep (Keeps.of_below hb8)
      have hB8 := hB7.trans (hb8.mono hB7.size)
      clear hH7 hv7 hB7 hb8
      have c9 := sameHunks_any w8 v8 v1 L L hv8 hH8
      rw [eqB_true rfl] at c9
      go_wp2_with fail
      refine c9.mono ?_
      clear c9
      rintro e w9 ⟨rfl, hd⟩
      have hB9 := hB8.trans (hd.below _)
      clear hH8 hv8 hB8 hd
      have c10 := awake_any w9
      go_wp2_with fail
      refine c10.mono ?_
      clear c10
      rintro e w10 ⟨rfl, hb10⟩
      have hB10 := hB9.trans (hb10.mono hB9.size)
      go_wp2
      go_ret
      exact ⟨rfl, hB10⟩
    · rw [hy] at g2
      clear hx hy
      go_enter Try.func8, Try.ntmps8
      have G2 := Lib.hid g2
      have AW := Lib.hid aw
      clear g2 aw
      go_wp2_with fail
      refine g1.mono ?_
      clear g1
      rintro e w1 ⟨rfl, rfl⟩
      go_wp2_with fail
      refine G2.out.mono ?_
      clear G2
      rintro e w1 ⟨rfl, rfl⟩
      go_wp2_with fail
      refine AW.out.mono ?_
      clear AW
      rintro e w1 ⟨rfl, hb1⟩
      go_wp2
      go_ret
      exact ⟨rfl, hb1⟩
  · rw [hx] at g1
    clear g2 hx
    go_enter Try.func8, Try.ntmps8
    have AW := Lib.hid aw
    clear aw
    go_wp2_with fail
    refine g1.mono ?_
    clear g1
    rintro e w1 ⟨rfl, rfl⟩
    go_wp2_with fail
    refine AW.out.mono ?_
    clear AW
    rintro e w1 ⟨rfl, hb1⟩
    go_wp2
    go_ret
    exact ⟨rfl, hb1⟩
end Go.Proofs.Ytobiheoammhcmaa
