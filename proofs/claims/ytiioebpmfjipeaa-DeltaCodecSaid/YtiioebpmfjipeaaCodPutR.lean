/- The reference's codec: put, PutInt, PutText, GetInt, GetText. -/
import Derived.Test.YtiioebpmfjipeaaCodGet
import Derived.Test.YtiioebpmfjipeaaHoldTwo
import Derived.Test.YtiioebpmfjipeaaDeRAdd
import Derived.Laws.IdiomStrings
namespace Go.Proofs.Ytiioebpmfjipeaa
set_option linter.unusedVariables false
set_option linter.unusedSimpArgs false
open Go.RowKit

def StrE (l : List UInt8) (w0 : World) (e : Ending) (w : World) : Prop := e = .returned (.string (strB l)) ∧ Below w0.heap.size w0 w
theorem conv_one {P : Program} (W : World) (src e dst : TypeId) (hs : P.underlying src = some (.slice e)) (he : P.underlying e = some (.int .u8)) (hd : P.underlying dst = some .string) (g : Nat) (x : UInt8) (cap : Nat)
    (hc : W.cell? ⟨g, 0, none⟩ = some (.int .u8 (x.toNat : Int))) : (convert src dst (.slice (some ⟨g, 0, none⟩) 1 cap)).run P W = .ok (.string (strB [x])) W :=
  run_convert_bytes_back W src dst e ⟨g, 0, none⟩ cap [x] hs he hd fun j hj => by
    have : j = 0 := by simpa using hj
    subst this
    exact hc

set_option maxRecDepth 100000 in
set_option maxHeartbeats 4000000 in
theorem rput_any : ∀ (m : Nat) (w : World), m ≤ 9000000000000000000 → Calls Try.prog 60 #[.int .i64 m] w (StrE (digL m) w) := by
  intro m
  induction m using Nat.strongRecOn with
  | ind m ih =>
    intro w hm
    by_cases h : m < 128
    · have hx : (UInt8.ofNat m).toNat = m := UInt8.toNat_ofNat_of_lt' (by simp [UInt8.size]; omega)
      have hlt : (m : Int) < 128 := by omega
      have HD : Hid (digL m = [UInt8.ofNat m]) := digL_last h
      have hbl := Blk.new w #[.int .u8 (m : Int)] 5
      have hcv := conv_one (P := Try.prog) (w.alloc (.cells #[.int .u8 (m : Int)] 5)) 55 5 9 Try.underlying55 Try.underlying5 Try.underlying9 w.heap.size (UInt8.ofNat m) 1 (by rw [hx]; exact hbl.cell (j := 0) rfl)
      have HE : Hid (StrE (digL m) w (.returned (.string (strB [UInt8.ofNat m]))) (w.alloc (.cells #[.int .u8 (m : Int)] 5))) := by
        show StrE _ _ _ _
        rw [HD.out]
        exact ⟨rfl, (Below.refl _ _).alloc (Nat.le_refl _) _⟩
      clear ih hbl
      generalize UInt8.ofNat m = d at *
      go_enter Try.func60, Try.ntmps60
      go_wp2
      go_ret
      exact HE.out
    · have HD : Hid (UInt8.ofNat (m % 128 + 128) :: digL (m / 128) = digL m) := (digL_more h).symm
      have hlt : ¬ (m : Int) < 128 := by omega
      have hx : (UInt8.ofNat (m % 128 + 128)).toNat = m % 128 + 128 := UInt8.toNat_ofNat_of_lt' (by simp [UInt8.size]; omega)
      have IH := Lib.hid (fun w => ih (m / 128) (by omega) w (by omega))
      obtain ⟨r, hr⟩ : ∃ r, r = m % 128 := ⟨_, rfl⟩
      obtain ⟨q, hq⟩ : ∃ q, q = m % 128 + 128 := ⟨_, rfl⟩
      have w1 : (m : Int).tmod 128 = (r : Int) := by rw [Int.tmod_eq_emod_of_nonneg (by omega)]; omega
      have w2 : IntKind.i64.wrap (128 + (r : Int)) = (q : Int) := by rw [i64w (by omega) (by omega)]; omega
      have w3 : IntKind.u8.wrap (q : Int) = ((UInt8.ofNat (m % 128 + 128)).toNat : Int) := by
        rw [hx, ← hq]
        exact IntWalk.u8_in _ (by omega)
      have w4 : IntKind.i64.wrap ((m : Int) / 128) = ((m / 128 : Nat) : Int) := by rw [i64w (by omega) (by omega)]; omega
      have hap := strB_append [UInt8.ofNat (m % 128 + 128)] (digL (m / 128))
      have hdl := digL_len (m / 128) 8 (by omega)
      have hz : ¬ 9223372036854775807 < (strB [UInt8.ofNat (m % 128 + 128)]).size + (strB (digL (m / 128))).size := by rw [strB_size, strB_size]; simp only [List.length_singleton]; omega
      clear ih hx hdl hr hq
      generalize UInt8.ofNat (m % 128 + 128) = d at *
      go_enter Try.func60, Try.ntmps60
      go_wp2_with fail
      refine AtS.start (S := fun _ => True) (by kernel_rfl) trivial 9 ?_
      have k0 := (Below.refl w.heap.size w).drew
      generalize w.drew = W at *
      (refine AtS.free (i := 0) (v := ?_) (by simp only [List.getElem?_toArray, List.getElem?_cons_succ, List.getElem?_cons_zero]; rfl) (by kernel_rfl) (by kernel_rfl) (by kernel_rfl) (fun _ _ _ h => h) (by kernel_rfl) (Or.inl ⟨by rfl, fun w _ => ?_⟩) ?_; rotate_left; (go_simp; try with_reducible rfl); simp only [Act.put, List.setIfInBounds_toArray, List.set_cons_zero, List.set_cons_succ])
      (refine AtS.free (i := 1) (v := ?_) (by simp only [List.getElem?_toArray, List.getElem?_cons_succ, List.getElem?_cons_zero]; rfl) (by kernel_rfl) (by kernel_rfl) (by kernel_rfl) (fun _ _ _ h => h) (by kernel_rfl) (Or.inl ⟨by rfl, fun w _ => ?_⟩) ?_; rotate_left; (go_simp; try with_reducible rfl); simp only [Act.put, List.setIfInBounds_toArray, List.set_cons_zero, List.set_cons_succ])
      (refine AtS.free (i := 2) (v := ?_) (by simp only [List.getElem?_toArray, List.getElem?_cons_succ, List.getElem?_cons_zero]; rfl) (by kernel_rfl) (by kernel_rfl) (by kernel_rfl) (fun _ _ _ h => h) (by kernel_rfl) (Or.inl ⟨by rfl, fun w _ => ?_⟩) ?_; rotate_left; (go_simp; try with_reducible rfl); simp only [Act.put, List.setIfInBounds_toArray, List.set_cons_zero, List.set_cons_succ])
      (refine AtS.free (i := 3) (v := ?_) (by simp only [List.getElem?_toArray, List.getElem?_cons_succ, List.getElem?_cons_zero]; rfl) (by kernel_rfl) (by kernel_rfl) (by kernel_rfl) (fun _ _ _ h => h) (by kernel_rfl) (Or.inl ⟨by rfl, fun w _ => ?_⟩) ?_; rotate_left; (go_simp; try with_reducible rfl); simp only [Act.put, List.setIfInBounds_toArray, List.set_cons_zero, List.set_cons_succ])
      (refine AtS.free (i := 6) (v := ?_) (by simp only [List.getElem?_toArray, List.getElem?_cons_succ, List.getElem?_cons_zero]; rfl) (by kernel_rfl) (by kernel_rfl) (by kernel_rfl) (fun _ _ _ h => h) (by kernel_rfl) (Or.inl ⟨by rfl, fun w _ => ?_⟩) ?_; rotate_left; (go_simp; try with_reducible rfl); simp only [Act.put, List.setIfInBounds_toArray, List.set_cons_zero, List.set_cons_succ])
      (refine AtS.free (i := 7) (v := ?_) (by simp only [List.getElem?_toArray, List.getElem?_cons_succ, List.getElem?_cons_zero]; rfl) (by kernel_rfl) (by kernel_rfl) (by kernel_rfl) (fun _ _ _ h => h) (by kernel_rfl) (Or.inl ⟨by rfl, fun w _ => ?_⟩) ?_; rotate_left; (go_simp; try with_reducible rfl); simp only [Act.put, List.setIfInBounds_toArray, List.set_cons_zero, List.set_cons_succ])
      refine AtS.two (i := 4) (j := 8) (by simp only [List.getElem?_toArray, List.getElem?_cons_succ, List.getElem?_cons_zero]; rfl) (by simp only [List.getElem?_toArray, List.getElem?_cons_succ, List.getElem?_cons_zero]; rfl) (by kernel_rfl) (by rfl) (by rfl) ?_ ?_
      · intro K hK
        go_simp
        have k1 := k0.alloc k0.size (.cells #[.int .u8 (d.toNat : Int)] 5)
        have c1 := (Blk.new W #[.int .u8 (d.toNat : Int)] 5)
        refine hK _ _ trivial ?_
        clear hK K
        refine AtS.two (i := 5) (j := 8) (by simp only [List.getElem?_toArray, List.getElem?_cons_succ, List.getElem?_cons_zero]; rfl) (by simp only [List.getElem?_toArray, List.getElem?_cons_succ, List.getElem?_cons_zero]; rfl) (by kernel_rfl) (by rfl) (by rfl) ?_ ?_
        · intro K hK
          have hcv := conv_one (P := Try.prog) (W.alloc (.cells #[.int .u8 (d.toNat : Int)] 5)) 55 5 9 Try.underlying55 Try.underlying5 Try.underlying9 W.heap.size d 1 (c1.cell (j := 0) rfl)
          go_simp
          refine hK _ _ trivial ?_
          clear hK K
          clear hcv c1
          refine AtS.only (i := 8) (by simp only [List.getElem?_toArray, List.getElem?_cons_succ, List.getElem?_cons_zero]; rfl) (by kernel_rfl) (by rfl) ?_
          intro K hK
          go_simp
          refine (IH.out _).mono ?_
          rintro e w2 ⟨rfl, hb⟩
          have k2 := k1.trans (hb.mono k1.size)
          refine hK _ _ trivial ?_
          clear hK K
          clear hb k1
          refine AtS.late (i := 9) (by simp only [List.getElem?_toArray, List.getElem?_cons_succ, List.getElem?_cons_zero]; rfl) (by kernel_rfl) (by rfl) (by rfl) ?_
          intro K hK
          go_simp
          refine hK _ _ ?_
          clear hK K
          refine AtS.late (i := 10) (by simp only [List.getElem?_toArray, List.getElem?_cons_succ, List.getElem?_cons_zero]; rfl) (by kernel_rfl) (by rfl) (by rfl) ?_
          intro K hK
          go_simp
          refine hK _ _ (AtS.done (by kernel_rfl) (NoPanic.normal ?_))
          clear hK K
          have HE := Lib.hid (show StrE (digL m) w (.returned (.string (strB (d :: digL (m / 128))))) _ from ⟨by rw [HD.out], k2⟩)
          clear k2
          go_wp2
          go_ret
          exact HE.out
        · intro K hK
          go_simp
          refine (IH.out _).mono ?_
          rintro e w2 ⟨rfl, hb⟩
          have k2 := k1.trans (hb.mono k1.size)
          have c2 := c1.keep hb
          refine hK _ _ trivial ?_
          clear hK K
          clear hb k1 c1
          refine AtS.only (i := 5) (by simp only [List.getElem?_toArray, List.getElem?_cons_succ, List.getElem?_cons_zero]; rfl) (by kernel_rfl) (by rfl) ?_
          intro K hK
          have hcv := conv_one (P := Try.prog) w2 55 5 9 Try.underlying55 Try.underlying5 Try.underlying9 W.heap.size d 1 (c2.cell (j := 0) rfl)
          go_simp
          refine hK _ _ trivial ?_
          clear hK K
          clear hcv c2
          refine AtS.late (i := 9) (by simp only [List.getElem?_toArray, List.getElem?_cons_succ, List.getElem?_cons_zero]; rfl) (by kernel_rfl) (by rfl) (by rfl) ?_
          intro K hK
          go_simp
          refine hK _ _ ?_
          clear hK K
          refine AtS.late (i := 10) (by simp only [List.getElem?_toArray, List.getElem?_cons_succ, List.getElem?_cons_zero]; rfl) (by kernel_rfl) (by rfl) (by rfl) ?_
          intro K hK
          go_simp
          refine hK _ _ (AtS.done (by kernel_rfl) (NoPanic.normal ?_))
          clear hK K
          have HE := Lib.hid (show StrE (digL m) w (.returned (.string (strB (d :: digL (m / 128))))) _ from ⟨by rw [HD.out], k2⟩)
          clear k2
          go_wp2
          go_ret
          exact HE.out
      · intro K hK
        go_simp
        refine (IH.out _).mono ?_
        rintro e w2 ⟨rfl, hb⟩
        have k1 := k0.trans (hb.mono k0.size)
        refine hK _ _ trivial ?_
        clear hK K
        clear hb k0
        refine AtS.only (i := 4) (by simp only [List.getElem?_toArray, List.getElem?_cons_succ, List.getElem?_cons_zero]; rfl) (by kernel_rfl) (by rfl) ?_
        intro K hK
        go_simp
        have k2 := k1.alloc k1.size (.cells #[.int .u8 (d.toNat : Int)] 5)
        have c1 := (Blk.new w2 #[.int .u8 (d.toNat : Int)] 5)
        refine hK _ _ trivial ?_
        clear hK K
        clear k1
        refine AtS.only (i := 5) (by simp only [List.getElem?_toArray, List.getElem?_cons_succ, List.getElem?_cons_zero]; rfl) (by kernel_rfl) (by rfl) ?_
        intro K hK
        have hcv := conv_one (P := Try.prog) (w2.alloc (.cells #[.int .u8 (d.toNat : Int)] 5)) 55 5 9 Try.underlying55 Try.underlying5 Try.underlying9 w2.heap.size d 1 (c1.cell (j := 0) rfl)
        go_simp
        refine hK _ _ trivial ?_
        clear hK K
        clear hcv c1
        refine AtS.late (i := 9) (by simp only [List.getElem?_toArray, List.getElem?_cons_succ, List.getElem?_cons_zero]; rfl) (by kernel_rfl) (by rfl) (by rfl) ?_
        intro K hK
        go_simp
        refine hK _ _ ?_
        clear hK K
        refine AtS.late (i := 10) (by simp only [List.getElem?_toArray, List.getElem?_cons_succ, List.getElem?_cons_zero]; rfl) (by kernel_rfl) (by rfl) (by rfl) ?_
        intro K hK
        go_simp
        refine hK _ _ (AtS.done (by kernel_rfl) (NoPanic.normal ?_))
        clear hK K
        have HE := Lib.hid (show StrE (digL m) w (.returned (.string (strB (d :: digL (m / 128))))) _ from ⟨by rw [HD.out], k2⟩)
        clear k2
        go_wp2
        go_ret
        exact HE.out

end Go.Proofs.Ytiioebpmfjipeaa
