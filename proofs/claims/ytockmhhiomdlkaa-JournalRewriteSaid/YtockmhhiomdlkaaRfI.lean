/- The reference's write. -/
import Derived.Test.YtockmhhiomdlkaaRfH
import Derived.Test.YtockmhhiomdlkaaProm3
namespace Go.Proofs.Ytockmhhiomdlkaa
set_option linter.unusedVariables false
set_option linter.unusedSimpArgs false
open Go.RowKit

/-- The sectors of a text. -/
def chkB (data : ByteArray) (sz m : Nat) : List ByteArray := (List.range m).map fun i => data.extract (i * sz) ((i + 1) * sz)
theorem chkB_len (data : ByteArray) (sz m : Nat) : (chkB data sz m).length = m := by simp [chkB]
theorem chkB_drop {data : ByteArray} {sz m k : Nat} (h : k < m) : (chkB data sz m).drop k = data.extract (k * sz) ((k + 1) * sz) :: (chkB data sz m).drop (k + 1) := by
  have hl : k < (chkB data sz m).length := by rw [chkB_len]; exact h
  rw [List.drop_eq_getElem_cons hl]
  simp [chkB]
theorem wrD_keep {d : Dk} (hv : Valid d) {i : Nat} {s : ByteArray} (hi : i < d.secs.length) (hs : (s.size : Int) = d.size) :
    (wrE d i s = 0 ∧ Valid (wrD d i s) ∧ (wrD d i s).size = d.size ∧ (wrD d i s).secs.length = d.secs.length ∧ (wrD d i s).pend.length = d.pend.length + 1) ∨ (wrE d i s = 20 ∧ wrD d i s = d) := by
  have he := wrE_of hv (w := (i, s)) ⟨hi, hs⟩
  simp only at he
  by_cases hl : d.left = 0
  · right
    rw [if_pos hl] at he
    refine ⟨he, ?_⟩
    unfold wrD
    rw [he, if_neg (by decide), if_pos rfl]
  · left
    rw [if_neg hl] at he
    have hd : wrD d i s = { d with pend := d.pend ++ toP [(i, s)], left := lessZ d.left } := by unfold wrD; rw [he, if_pos rfl]; rfl
    refine ⟨he, ?_, ?_, ?_, ?_⟩
    · rw [hd]
      exact valid_pend hv (fun x hx => by
        have e : x = (i, s) := by simpa using hx
        rw [e]; exact ⟨hi, hs⟩) _ (by have := hv.lf; unfold lessZ; split <;> omega)
    · rw [hd]
    · rw [hd]
    · rw [hd]; simp [toP]
theorem syD_keep {d : Dk} (hv : Valid d) : (syE d = 0) ∨ (syE d = 20 ∧ syD d = d) := by
  by_cases hl : d.left = 0
  · right
    have he : syE d = 20 := by unfold syE; rw [if_neg (fun e => e (chk_zero.2 hv)), if_pos hl]
    exact ⟨he, by unfold syD; rw [he, if_neg (by decide), if_pos rfl]⟩
  · left
    unfold syE; rw [if_neg (fun e => e (chk_zero.2 hv)), if_neg hl]
set_option maxRecDepth 100000 in
set_option maxHeartbeats 8000000 in
theorem rwr_any (W : World) (vs vp : Value) (d : Dk) (h : DskP W vs vp d) (hv : Valid d) (at_ m : Nat) (data : ByteArray) (hm : data.size = m * d.size.toNat) (hat : at_ + m ≤ d.secs.length) (hpn : d.pend.length + m ≤ 90000) :
    Calls Try.prog 45 #[.agg #[.int .i64 d.size, vs, vp, .int .i64 d.left], .int .i64 at_, .string data] W (DkPost W (runD d ((wrO at_ (chkB data d.size.toNat m)).map some ++ [none])).1 (runD d ((wrO at_ (chkB data d.size.toNat m)).map some ++ [none])).2) := by
  obtain ⟨A, c, P, cp, rfl, rfl, hc, hcp, hm1, hmp⟩ := h.form
  have V0 := (Var.new h).alloc (.cells #[.int .i64 0, .slice none 0 0, .slice none 0 0, .int .i64 0] 25)
  have HZ : Var ((W.alloc (.cells #[.int .i64 d.size, .slice A d.secs.length c, .slice P d.pend.length cp, .int .i64 d.left] 25)).alloc (.cells #[.int .i64 0, .slice none 0 0, .slice none 0 0, .int .i64 0] 25)) (W.alloc (.cells #[.int .i64 d.size, .slice A d.secs.length c, .slice P d.pend.length cp, .int .i64 d.left] 25)).heap.size none 0 none 0 noDisk := Var.zero _
  rw [World.size_alloc] at HZ
  have KB := ((Below.refl W.heap.size W).alloc (Nat.le_refl _) (.cells #[.int .i64 d.size, .slice A d.secs.length c, .slice P d.pend.length cp, .int .i64 d.left] 25)).alloc (by simp) (.cells #[.int .i64 0, .slice none 0 0, .slice none 0 0, .int .i64 0] 25)
  have hv1 := hv.s1
  have hv2 := hv.s2
  have hv4 := hv.n2
  obtain ⟨sz, hsz⟩ : ∃ sz : Nat, sz = d.size.toNat := ⟨_, rfl⟩
  have hszd : d.size = (sz : Int) := by omega
  have hs1 : 1 ≤ sz := by omega
  have hs2 : sz ≤ 512 := by omega
  rw [← hsz] at hm ⊢
  have hN := d.secs.length
  have HDN : Hid (d.secs.length = d.secs.length) := rfl
  have hdb : data.size ≤ 1000 * 512 := by rw [hm]; exact Nat.mul_le_mul (by omega) hs2
  have HM := Lib.hid hm
  obtain ⟨R, hR⟩ : ∃ R, R = runD d ((wrO at_ (chkB data sz m)).map some ++ [none]) := ⟨_, rfl⟩
  rw [← hR]
  have HR0 : Hid (R = runD d ((wrO (at_ + 0) ((chkB data sz m).drop 0)).map some ++ [none])) := hR
  have HS0 : Hid (d.size = (sz : Int)) := hszd
  have HL0 : Hid (at_ + m ≤ d.secs.length) := hat
  have HV0 := Lib.hid hv
  have HP0 : Hid (d.pend.length + (m - 0) ≤ 90000) := by show _ ≤ _; omega
  have hat' : at_ + m ≤ 1000 := by omega
  clear hsz hszd hm hR hat hv hN HDN hpn
  go_enter Try.func45, Try.ntmps45
  go_upto_region 1 with (fail)
  generalize (W.alloc (.cells #[.int .i64 d.size, .slice A d.secs.length c, .slice P d.pend.length cp, .int .i64 d.left] 25)).alloc (.cells #[.int .i64 0, .slice none 0 0, .slice none 0 0, .int .i64 0] 25) = w1 at *
  have HV1 := Lib.hid V0
  have HZ1 := Lib.hid HZ
  have KB1 := Lib.hid KB
  have hsw1 := HZ1.out.blk.lt
  clear V0 HZ KB
  go_wp2
  go_loopw [8] (fun iv wr => ∃ (k : Nat) (D : Dk) (A1 : Option Addr) (c1 : Nat) (P1 : Option Addr) (cp1 : Nat), k ≤ m ∧ iv = .int .i64 k ∧ Hid (Var wr W.heap.size A1 c1 P1 cp1 D) ∧ Hid (Var wr (W.heap.size + 1) none 0 none 0 noDisk) ∧ Hid (Below W.heap.size W wr) ∧ Hid (Valid D) ∧ Hid (D.size = (sz : Int)) ∧ Hid (at_ + m ≤ D.secs.length) ∧ Hid (D.pend.length + (m - k) ≤ 90000) ∧ Hid (R = runD D ((wrO (at_ + k) ((chkB data sz m).drop k)).map some ++ [none])) ∧ W.heap.size + 1 < wr.heap.size) (fun iv _ => m - (intOf iv).toNat)
  case atStart => exact ⟨0, d, A, c, P, cp, by omega, rfl, HV1, HZ1, KB1, HV0, HS0, HL0, HP0, HR0, hsw1⟩
  case round =>
    clear HV1 HZ1 KB1 HV0 HS0 HL0 HP0 HR0 hsw1
    obtain ⟨k, D, A1, c1, P1, cp1, hk, rfl, HVc, HZ, KB, HVL, HDS, HDL, HDP, HR, hsw⟩ := hrel
    have hsz0 := HDS.out
    obtain ⟨q0, q1, q2, q3, _⟩ := HVc.out.facts
    obtain ⟨M0, hM0⟩ : ∃ M0 : Nat, M0 = k * sz := ⟨_, rfl⟩
    have HM0 : Hid ((k : Int) * D.size = (M0 : Int)) := by show _ = _; rw [hM0, HDS.out, Int.natCast_mul]
    have hm0 := HM0.out
    have hMb : M0 ≤ 1000 * 512 := by rw [hM0]; exact Nat.mul_le_mul (by omega) hs2
    by_cases hlt : k < m
    · obtain ⟨M1, hM1⟩ : ∃ M1 : Nat, M1 = (k + 1) * sz := ⟨_, rfl⟩
      have hM01 : M1 = M0 + sz := by rw [hM1, hM0, Nat.add_mul]; omega
      have hM1b : M1 ≤ data.size := by rw [hM1, HM.out]; exact Nat.mul_le_mul_right sz (by omega)
      have hcond : (M0 : Int) < (data.size : Int) := by omega
      have HM1 : Hid (((k + 1 : Nat) : Int) * D.size = (M1 : Int)) := by show _ = _; rw [hM1, HDS.out, Int.natCast_mul]
      have HM1' : Hid (((k : Int) + 1) * D.size = (M1 : Int)) := by show _ = _; rw [hM1, HDS.out, Int.natCast_mul]; rfl
      have hkd := chkB_drop (data := data) (sz := sz) hlt
      rw [← hM0, ← hM1] at hkd
      obtain ⟨CH, hCH⟩ : ∃ CH, CH = data.extract M0 M1 := ⟨_, rfl⟩
      rw [← hCH] at hkd
      have HCH := Lib.hid hCH
      have hchs : (CH.size : Int) = D.size := by rw [hCH, ByteArray.size_extract, HDS.out]; omega
      have hlk : at_ + k < D.secs.length := by have := HDL.out; omega
      have hwk := wrD_keep HVL.out hlk hchs
      have HSTEP : Hid (R = if wrE D (at_ + k : Nat) CH ≠ 0 then (wrD D (at_ + k : Nat) CH, wrE D (at_ + k : Nat) CH) else runD (wrD D (at_ + k : Nat) CH) ((wrO (at_ + (k + 1)) ((chkB data sz m).drop (k + 1))).map some ++ [none])) := by
        show _ = _
        rw [HR.out, hkd]; rfl
      go_upto_region 4 with (fail)
      have HDR : Hid (Below wr.heap.size wr wr.drew) := below_drew1 (Below.refl _ _)
      have CW := Lib.hid (fun w' (hb : Below wr.drew.heap.size wr.drew w') => rwrite_any w' _ _ D (((HVc.out.keep HDR.out).keep hb).dk) (by have := HDP.out; omega) ((at_ + k : Nat) : Int) (by omega) (by omega) CH)
      have HWK := Lib.hid hwk
      obtain ⟨D2, hD2⟩ : ∃ x, x = wrD D (at_ + k : Nat) CH := ⟨_, rfl⟩
      obtain ⟨N2, hN2⟩ : ∃ x, x = wrE D (at_ + k : Nat) CH := ⟨_, rfl⟩
      rw [← hD2, ← hN2] at HWK HSTEP CW
      have hm01 : M0 ≤ M1 := by omega
      clear hD2 hN2 hwk HR hkd hCH hM1 hM0 q0 q1 q2 q3 hsz0 hm0 hM01
      refine prom_start3 (by kernel_rfl) 20 18 [17] (fun i v w => match i with
        | 0 => v = .agg #[.int .i64 D.size, .slice A1 D.secs.length c1, .slice P1 D.pend.length cp1, .int .i64 D.left]
        | 1 => v = .int .i64 (at_ : Int)
        | 2 => v = .int .i64 (k : Int)
        | 3 => v = .int .i64 ((at_ + k : Nat) : Int)
        | 4 => v = .string data
        | 5 => v = .int .i64 (k : Int)
        | 6 => v = .pointer (some ⟨W.heap.size, 0, none⟩)
        | 7 => v = .int .i64 D.size
        | 8 => v = .int .i64 (M0 : Int)
        | 9 => v = .int .i64 (k : Int)
        | 10 => v = .int .i64 ((k + 1 : Nat) : Int)
        | 11 => v = .pointer (some ⟨W.heap.size, 0, none⟩)
        | 12 => v = .int .i64 D.size
        | 13 => v = .int .i64 (M1 : Int)
        | 14 => v = .string CH
        | 15 => ∃ vs2 vp2, v = .tuple #[.agg #[.int .i64 D2.size, vs2, vp2, .int .i64 D2.left], .int .i64 N2] ∧ DskP w vs2 vp2 D2
        | 16 => ∃ vs2 vp2, v = .tuple #[.agg #[.int .i64 D2.size, vs2, vp2, .int .i64 D2.left], .int .i64 N2] ∧ DskP w vs2 vp2 D2
        | 17 => ∃ vs2 vp2, v = .agg #[.int .i64 D2.size, vs2, vp2, .int .i64 D2.left] ∧ DskP w vs2 vp2 D2
        | 18 => v = .int .i64 N2
        | _ => ∃ b, v = .pointer (some ⟨b, 0, none⟩) ∧ Var w b none 0 none 0 noDisk ∧ W.heap.size + 2 ≤ b)  (by kernel_rfl) (fun i v w w' h hb => ?_) ?_ ?_ ?_
      · match i, h with
        | 0, h => exact h
        | 1, h => exact h
        | 2, h => exact h
        | 3, h => exact h
        | 4, h => exact h
        | 5, h => exact h
        | 6, h => exact h
        | 7, h => exact h
        | 8, h => exact h
        | 9, h => exact h
        | 10, h => exact h
        | 11, h => exact h
        | 12, h => exact h
        | 13, h => exact h
        | 14, h => exact h
        | 15, h => exact (let ⟨vs2, vp2, e, hp⟩ := h; ⟨vs2, vp2, e, hp.keep (Keeps.of_below hb)⟩)
        | 16, h => exact (let ⟨vs2, vp2, e, hp⟩ := h; ⟨vs2, vp2, e, hp.keep (Keeps.of_below hb)⟩)
        | 17, h => exact (let ⟨vs2, vp2, e, hp⟩ := h; ⟨vs2, vp2, e, hp.keep (Keeps.of_below hb)⟩)
        | 18, h => exact h
        | 19, h => exact (let ⟨b, e, hp, hq⟩ := h; ⟨b, e, hp.keep hb, hq⟩)
        | _ + 20, h => exact (let ⟨b, e, hp, hq⟩ := h; ⟨b, e, hp.keep hb, hq⟩)
      · rintro i o hi hix ho a w1 hdf hlen hold hbel hdep K hK
        clear hdf
        have hix2 : ∀ {A : Prop}, i = 18 → A := fun e => absurd e hix
        clear hix
        have hV := (HVc.out.keep HDR.out).keep hbel
        obtain ⟨q0, q1, q2, q3, _⟩ := hV.facts
        have s3 : a.tmps.getD 3 undef = .pointer (some ⟨W.heap.size, 0, none⟩) := by
          rw [Array.getD_eq_getD_getElem?, hold 3 ?_]
          · rfl
          · intro j hj
            have : j = 0 ∨ j = 1 ∨ j = 2 ∨ j = 3 ∨ j = 4 ∨ j = 5 ∨ j = 6 ∨ j = 7 ∨ j = 8 ∨ j = 9 ∨ j = 10 ∨ j = 11 ∨ j = 12 ∨ j = 13 ∨ j = 14 ∨ j = 15 ∨ j = 16 ∨ j = 17 ∨ j = 18 ∨ j = 19 := by omega
            rcases this with rfl | rfl | rfl | rfl | rfl | rfl | rfl | rfl | rfl | rfl | rfl | rfl | rfl | rfl | rfl | rfl | rfl | rfl | rfl | rfl <;> decide
        have s1 : a.tmps.getD 1 undef = .int .i64 (at_ : Int) := by
          rw [Array.getD_eq_getD_getElem?, hold 1 ?_]
          · rfl
          · intro j hj
            have : j = 0 ∨ j = 1 ∨ j = 2 ∨ j = 3 ∨ j = 4 ∨ j = 5 ∨ j = 6 ∨ j = 7 ∨ j = 8 ∨ j = 9 ∨ j = 10 ∨ j = 11 ∨ j = 12 ∨ j = 13 ∨ j = 14 ∨ j = 15 ∨ j = 16 ∨ j = 17 ∨ j = 18 ∨ j = 19 := by omega
            rcases this with rfl | rfl | rfl | rfl | rfl | rfl | rfl | rfl | rfl | rfl | rfl | rfl | rfl | rfl | rfl | rfl | rfl | rfl | rfl | rfl <;> decide
        have s2 : a.tmps.getD 2 undef = .string data := by
          rw [Array.getD_eq_getD_getElem?, hold 2 ?_]
          · rfl
          · intro j hj
            have : j = 0 ∨ j = 1 ∨ j = 2 ∨ j = 3 ∨ j = 4 ∨ j = 5 ∨ j = 6 ∨ j = 7 ∨ j = 8 ∨ j = 9 ∨ j = 10 ∨ j = 11 ∨ j = 12 ∨ j = 13 ∨ j = 14 ∨ j = 15 ∨ j = 16 ∨ j = 17 ∨ j = 18 ∨ j = 19 := by omega
            rcases this with rfl | rfl | rfl | rfl | rfl | rfl | rfl | rfl | rfl | rfl | rfl | rfl | rfl | rfl | rfl | rfl | rfl | rfl | rfl | rfl <;> decide
        have s8 : a.tmps.getD 8 undef = .int .i64 (k : Int) := by
          rw [Array.getD_eq_getD_getElem?, hold 8 ?_]
          · rfl
          · intro j hj
            have : j = 0 ∨ j = 1 ∨ j = 2 ∨ j = 3 ∨ j = 4 ∨ j = 5 ∨ j = 6 ∨ j = 7 ∨ j = 8 ∨ j = 9 ∨ j = 10 ∨ j = 11 ∨ j = 12 ∨ j = 13 ∨ j = 14 ∨ j = 15 ∨ j = 16 ∨ j = 17 ∨ j = 18 ∨ j = 19 := by omega
            rcases this with rfl | rfl | rfl | rfl | rfl | rfl | rfl | rfl | rfl | rfl | rfl | rfl | rfl | rfl | rfl | rfl | rfl | rfl | rfl | rfl <;> decide
        have hi' : i = 0 ∨ i = 1 ∨ i = 2 ∨ i = 3 ∨ i = 4 ∨ i = 5 ∨ i = 6 ∨ i = 7 ∨ i = 8 ∨ i = 9 ∨ i = 10 ∨ i = 11 ∨ i = 12 ∨ i = 13 ∨ i = 14 ∨ i = 15 ∨ i = 16 ∨ i = 17 ∨ i = 18 ∨ i = 19 := by omega
        rcases hi' with rfl | rfl | rfl | rfl | rfl | rfl | rfl | rfl | rfl | rfl | rfl | rfl | rfl | rfl | rfl | rfl | rfl | rfl | rfl | rfl
        · clear hix2; obtain rfl := Option.some.inj ho
          unfold Oper.wp
          simp only [execOp, Act.eval, s3]
          go_simp
          exact hK _ w1 rfl (Below.refl _ _)
        · clear hix2; obtain rfl := Option.some.inj ho
          unfold Oper.wp
          simp only [execOp, Act.eval, s1]
          go_simp
          exact hK _ w1 rfl (Below.refl _ _)
        · clear hix2; obtain rfl := Option.some.inj ho
          unfold Oper.wp
          simp only [execOp, Act.eval, s8]
          go_simp
          exact hK _ w1 rfl (Below.refl _ _)
        · clear hix2; obtain rfl := Option.some.inj ho
          have e24 := hdep 1 24 (by omega) (by kernel_rfl) (by kernel_rfl)
          simp only at e24
          have e25 := hdep 2 25 (by omega) (by kernel_rfl) (by kernel_rfl)
          simp only at e25
          unfold Oper.wp
          simp only [execOp, Act.eval, e24, e25]
          go_simp
          exact hK _ w1 (by simp only; rw [i64w (by omega) (by omega)]; try exact congrArg (Value.int .i64) (show (at_ : Int) + (k : Int) = ((at_ + k : Nat) : Int) by omega)) (Below.refl _ _)
        · clear hix2; obtain rfl := Option.some.inj ho
          unfold Oper.wp
          simp only [execOp, Act.eval, s2]
          go_simp
          exact hK _ w1 rfl (Below.refl _ _)
        · clear hix2; obtain rfl := Option.some.inj ho
          unfold Oper.wp
          simp only [execOp, Act.eval, s8]
          go_simp
          exact hK _ w1 rfl (Below.refl _ _)
        · clear hix2; obtain rfl := Option.some.inj ho
          unfold Oper.wp
          simp only [execOp, Act.eval, s3]
          go_simp
          exact hK _ w1 rfl (Below.refl _ _)
        · clear hix2; obtain rfl := Option.some.inj ho
          have e29 := hdep 6 29 (by omega) (by kernel_rfl) (by kernel_rfl)
          simp only at e29
          unfold Oper.wp
          simp only [execOp, Act.eval, e29]
          go_simp
          exact hK _ w1 rfl (Below.refl _ _)
        · clear hix2; obtain rfl := Option.some.inj ho
          have e28 := hdep 5 28 (by omega) (by kernel_rfl) (by kernel_rfl)
          simp only at e28
          have e30 := hdep 7 30 (by omega) (by kernel_rfl) (by kernel_rfl)
          simp only at e30
          unfold Oper.wp
          simp only [execOp, Act.eval, e28, e30]
          go_simp
          exact hK _ w1 (by simp only; rw [HM0.out, i64w (by omega) (by omega)]) (Below.refl _ _)
        · clear hix2; obtain rfl := Option.some.inj ho
          unfold Oper.wp
          simp only [execOp, Act.eval, s8]
          go_simp
          exact hK _ w1 rfl (Below.refl _ _)
        · clear hix2; obtain rfl := Option.some.inj ho
          have e32 := hdep 9 32 (by omega) (by kernel_rfl) (by kernel_rfl)
          simp only at e32
          unfold Oper.wp
          simp only [execOp, Act.eval, e32]
          go_simp
          exact hK _ w1 (by simp only; rw [i64w (by omega) (by omega)]; try rfl) (Below.refl _ _)
        · clear hix2; obtain rfl := Option.some.inj ho
          unfold Oper.wp
          simp only [execOp, Act.eval, s3]
          go_simp
          exact hK _ w1 rfl (Below.refl _ _)
        · clear hix2; obtain rfl := Option.some.inj ho
          have e34 := hdep 11 34 (by omega) (by kernel_rfl) (by kernel_rfl)
          simp only at e34
          unfold Oper.wp
          simp only [execOp, Act.eval, e34]
          go_simp
          exact hK _ w1 rfl (Below.refl _ _)
        · clear hix2; obtain rfl := Option.some.inj ho
          have e33 := hdep 10 33 (by omega) (by kernel_rfl) (by kernel_rfl)
          simp only at e33
          have e35 := hdep 12 35 (by omega) (by kernel_rfl) (by kernel_rfl)
          simp only at e35
          unfold Oper.wp
          simp only [execOp, Act.eval, e33, e35]
          go_simp
          exact hK _ w1 (by simp only; first | rw [HM1.out, i64w (by omega) (by omega)] | (rw [HM1'.out, i64w (by omega) (by omega)])) (Below.refl _ _)
        · clear hix2; obtain rfl := Option.some.inj ho
          have e27 := hdep 4 27 (by omega) (by kernel_rfl) (by kernel_rfl)
          simp only at e27
          have e31 := hdep 8 31 (by omega) (by kernel_rfl) (by kernel_rfl)
          simp only at e31
          have e36 := hdep 13 36 (by omega) (by kernel_rfl) (by kernel_rfl)
          simp only at e36
          unfold Oper.wp
          simp only [execOp, Act.eval, e27, e31, e36]
          go_simp
          exact hK _ w1 (show Value.string (data.extract M0 M1) = Value.string CH from congrArg Value.string HCH.out.symm) (Below.refl _ _)
        · clear hix2; obtain rfl := Option.some.inj ho
          have e23 := hdep 0 23 (by omega) (by kernel_rfl) (by kernel_rfl)
          simp only at e23
          have e26 := hdep 3 26 (by omega) (by kernel_rfl) (by kernel_rfl)
          simp only at e26
          have e37 := hdep 14 37 (by omega) (by kernel_rfl) (by kernel_rfl)
          simp only at e37
          unfold Oper.wp
          simp only [execOp, Act.eval, e23, e26, e37]
          go_simp
          refine (CW.out w1 hbel).mono ?_
          rintro e' w4 ⟨vs4, vp4, rfl, hv4, hb4⟩
          exact hK _ w4 ⟨vs4, vp4, rfl, hv4⟩ hb4
        · clear hix2; obtain rfl := Option.some.inj ho
          have e38 := hdep 15 38 (by omega) (by kernel_rfl) (by kernel_rfl)
          simp only at e38
          obtain ⟨vs2, vp2, hx38, ht38⟩ := e38
          unfold Oper.wp
          simp only [execOp, Act.eval, hx38]
          go_simp
          exact hK _ w1 ⟨vs2, vp2, rfl, ht38⟩ (Below.refl _ _)
        · clear hix2; obtain rfl := Option.some.inj ho
          have e22 := hdep 16 22 (by omega) (by kernel_rfl) (by kernel_rfl)
          simp only at e22
          obtain ⟨vs2, vp2, hx22, ht22⟩ := e22
          unfold Oper.wp
          simp only [execOp, Act.eval, hx22]
          go_simp
          exact hK _ w1 ⟨vs2, vp2, rfl, ht22⟩ (Below.refl _ _)
        · exact hix2 rfl
        · clear hix2; obtain rfl := Option.some.inj ho
          unfold Oper.wp
          simp only [execOp, Act.eval]
          go_simp
          exact hK _ _ ⟨w1.heap.size, rfl, Var.zero w1, by have := hbel.size; have := HDR.out.size; omega⟩ ((Below.refl _ _).alloc (Nat.le_refl _) _)
      · rintro o ho a w1 hlen hold hbel hdep
        obtain rfl := Option.some.inj ho
        have e22 := hdep 16 22 (by omega) (by kernel_rfl) (by kernel_rfl)
        simp only at e22
        obtain ⟨vs2, vp2, hx22, ht22⟩ := e22
        refine ⟨_, rfl, fun w' => ?_⟩
        simp only [execOp, Act.eval, hx22]
        go_simp
      · rintro a w1 hdf hlen hold hbel hnew
        have e40 := hnew 18 40 (by omega) (by kernel_rfl)
        simp only at e40
        have e39 := hnew 17 39 (by omega) (by kernel_rfl)
        simp only at e39
        have e9 := hnew 19 9 (by omega) (by kernel_rfl)
        simp only at e9
        obtain ⟨vs2, vp2, e39, hd2⟩ := e39
        obtain ⟨b9, e9, hv9, hb9⟩ := e9
        have hact := act_eq [23, 24, 25, 26, 27, 28, 29, 30, 31, 32, 33, 34, 35, 36, 37, 38, 22, 39, 40, 9] hdf hlen (fun t ht => hold t (fun j hj hd => by
          have : j = 0 ∨ j = 1 ∨ j = 2 ∨ j = 3 ∨ j = 4 ∨ j = 5 ∨ j = 6 ∨ j = 7 ∨ j = 8 ∨ j = 9 ∨ j = 10 ∨ j = 11 ∨ j = 12 ∨ j = 13 ∨ j = 14 ∨ j = 15 ∨ j = 16 ∨ j = 17 ∨ j = 18 ∨ j = 19 := by omega
          rcases this with rfl | rfl | rfl | rfl | rfl | rfl | rfl | rfl | rfl | rfl | rfl | rfl | rfl | rfl | rfl | rfl | rfl | rfl | rfl | rfl <;> (obtain rfl := Option.some.inj hd; exact ht (by decide))))
        simp only [List.foldl, e40, e39, e9, List.setIfInBounds_toArray, List.set_cons_zero, List.set_cons_succ] at hact
        clear hdf hlen hold hnew e40 e39 e9
        generalize a.tmps.getD 23 undef = u23 at hact
        generalize a.tmps.getD 24 undef = u24 at hact
        generalize a.tmps.getD 25 undef = u25 at hact
        generalize a.tmps.getD 26 undef = u26 at hact
        generalize a.tmps.getD 27 undef = u27 at hact
        generalize a.tmps.getD 28 undef = u28 at hact
        generalize a.tmps.getD 29 undef = u29 at hact
        generalize a.tmps.getD 30 undef = u30 at hact
        generalize a.tmps.getD 31 undef = u31 at hact
        generalize a.tmps.getD 32 undef = u32 at hact
        generalize a.tmps.getD 33 undef = u33 at hact
        generalize a.tmps.getD 34 undef = u34 at hact
        generalize a.tmps.getD 35 undef = u35 at hact
        generalize a.tmps.getD 36 undef = u36 at hact
        generalize a.tmps.getD 37 undef = u37 at hact
        generalize a.tmps.getD 38 undef = u38 at hact
        generalize a.tmps.getD 22 undef = u22 at hact
        subst hact
        have kd := HDR.out.trans (hbel.mono (Nat.le_refl _))
        have HV3 := Lib.hid (HVc.out.keep kd)
        have HZ3 := Lib.hid (HZ.out.keep kd)
        have KB3 := Lib.hid (KB.out.trans (kd.mono KB.out.size))
        have hsw3 := Nat.lt_of_lt_of_le hsw kd.size
        obtain ⟨A2, c2, P2, cp2, rfl, rfl, _, _, _, _⟩ := hd2.form
        have HV9 := Lib.hid (hv9.assign hd2)
        have HV3' := Lib.hid (HV3.out.other (A2 := A2) (c2 := c2) (P2 := P2) (cp2 := cp2) (d2 := D2) hv9 (by omega))
        have HZ3' := Lib.hid (HZ3.out.other (A2 := A2) (c2 := c2) (P2 := P2) (cp2 := cp2) (d2 := D2) hv9 (by omega))
        have KB3' := Lib.hid (put4_below (A := A2) (c := c2) (P := P2) (cp := cp2) (d := D2) KB3.out (show W.heap.size ≤ b9 by omega))
        obtain ⟨t0, t1, t2, t3, r0, r1, r2, r3⟩ := hv9.facts
        simp only [noDisk, List.length_nil] at t0 t1 t2 t3
        have hsw9 : W.heap.size + 1 < (put4 w1 b9 A2 c2 P2 cp2 D2).heap.size := by have := HZ3'.out.blk.lt; exact this
        clear HVc HZ KB HDR hbel kd CW HV3 HZ3 KB3 hd2 hv9
        refine AtS.late (i := 20) (by simp only [List.getElem?_toArray, List.getElem?_cons_succ, List.getElem?_cons_zero]; rfl) (by kernel_rfl) (by kernel_rfl) (by kernel_rfl) ?_
        intro K hK
        go_simp
        refine hK _ _ ?_
        clear hK K
        change AtS _ _ _ _ _ _ _ _ _ (put4 w1 b9 A2 c2 P2 cp2 D2)
        clear t0 t1 t2 t3 r0 r1 r2 r3
        generalize put4 w1 b9 A2 c2 P2 cp2 D2 = w3 at *
        refine AtS.late (i := 21) (by simp only [List.getElem?_toArray, List.getElem?_cons_succ, List.getElem?_cons_zero]; rfl) (by kernel_rfl) (by kernel_rfl) (by kernel_rfl) ?_
        intro K hK
        go_simp
        refine hK _ _ (AtS.done (by kernel_rfl) (NoPanic.normal ?_))
        clear hK K
        rcases HWK.out with ⟨rfl, z1, z2, z3, z4⟩ | ⟨rfl, z1⟩
        · have HR2 : Hid (R = runD D2 ((wrO (at_ + (k + 1)) ((chkB data sz m).drop (k + 1))).map some ++ [none])) := by show _ = _; rw [HSTEP.out, if_neg (by simp)]
          have HDS2 := Lib.hid (z2.trans HDS.out)
          have HDL2 : Hid (at_ + m ≤ D2.secs.length) := by show _ ≤ _; rw [z3]; exact HDL.out
          have HDP2 : Hid (D2.pend.length + (m - (k + 1)) ≤ 90000) := by show _ ≤ _; rw [z4]; have := HDP.out; omega
          have HVL2 := Lib.hid z1
          clear HSTEP HWK z1 z2 z3 z4 HDS HDL HDP HVL
          obtain ⟨q0, q1, q2, q3, _⟩ := HV9.out.facts
          obtain ⟨t0, t1, t2, t3, r0, r1, r2, r3⟩ := HV3'.out.facts
          have VX := Lib.hid (HV3'.out.assign HV9.out.dk)
          have VZ := Lib.hid (HZ3'.out.other (A2 := A2) (c2 := c2) (P2 := P2) (cp2 := cp2) (d2 := D2) HV3'.out (by omega))
          have KX := Lib.hid (put4_below (A := A2) (c := c2) (P := P2) (cp := cp2) (d := D2) KB3'.out (Nat.le_refl W.heap.size))
          have hswX : W.heap.size + 1 < (put4 w3 W.heap.size A2 c2 P2 cp2 D2).heap.size := by have := VZ.out.blk.lt; exact this
          go_upto_region 3 with (fail)
          change Code.wp _ _ _ _ (put4 w3 W.heap.size A2 c2 P2 cp2 D2)
          clear q0 q1 q2 q3 t0 t1 t2 t3 r0 r1 r2 r3 HV9 HV3' HZ3' KB3'
          generalize put4 w3 W.heap.size A2 c2 P2 cp2 D2 = w4 at *
          go_wp2
          go_roundw
          case rel => exact ⟨k + 1, D2, A2, c2, P2, cp2, by omega, by go_num, VX, VZ, KX, HVL2, HDS2, HDL2, HDP2, HR2, hswX⟩
          case measure => simp [intOf]; omega
        · subst z1
          have HE : Hid (R = (D2, 20)) := by show _ = _; rw [HSTEP.out, if_pos (by simp)]
          have HZ := HZ3'
          have KB := KB3'
          clear HSTEP HWK
          obtain ⟨q0, q1, q2, q3, _⟩ := HV3'.out.facts
          obtain ⟨t0, t1, t2, t3, r0, r1, r2, r3⟩ := HZ.out.facts
          simp only [noDisk, List.length_nil] at t0 t1 t2 t3
          have VR := Lib.hid (HZ.out.assign HV3'.out.dk)
          have KR := Lib.hid (put4_below (A := A1) (c := c1) (P := P1) (cp := cp1) (d := D2) KB.out (show W.heap.size ≤ W.heap.size + 1 by omega))

          go_wp2
          change bodyPost _ _ _ _ _ (put4 w3 (W.heap.size + 1) A1 c1 P1 cp1 D2)
          obtain ⟨k0, k1, k2, k3, _⟩ := VR.out.facts
          clear q0 q1 q2 q3 t0 t1 t2 t3 r0 r1 r2 r3
          generalize put4 w3 (W.heap.size + 1) A1 c1 P1 cp1 D2 = wx at *
          exact bodyPost_ret (v := .tuple #[.agg #[.int .i64 D2.size, .slice A1 D2.secs.length c1, .slice P1 D2.pend.length cp1, .int .i64 D2.left], .int .i64 20]) (by simp [results, Try.results45, go_sem, k0, k1, k2, k3]) rfl (by rw [HE.out]; exact ⟨_, _, rfl, VR.out.dk, KR.out⟩)
    · obtain rfl : k = m := by omega
      have hcond : ¬ (M0 : Int) < (data.size : Int) := by
        rw [hM0, HM.out]; omega
      have HR' : Hid (R = if syE D ≠ 0 then (syD D, syE D) else (syD D, 0)) := by
        show _ = _
        rw [HR.out, List.drop_of_length_le (by rw [chkB_len]; omega)]; rfl
      have hsy := syD_keep HVL.out
      have CS := rsync_any wr _ _ D HVc.out.dk
      obtain ⟨D2, hD2⟩ : ∃ x, x = syD D := ⟨_, rfl⟩
      obtain ⟨N2, hN2⟩ : ∃ x, x = syE D := ⟨_, rfl⟩
      rw [← hD2, ← hN2] at hsy HR' CS
      have HSY := Lib.hid hsy
      have CS := Lib.hid CS
      clear hD2 hN2 hsy HR hM0 HDS HDL HDP HVL hsz0
      go_wp2_with fail
      refine CS.out.mono ?_
      rintro e w3 ⟨vs3, vp3, rfl, hd3, hb3⟩
      obtain ⟨A2, c2, P2, cp2, rfl, rfl, _, _, _, _⟩ := hd3.form
      have HV9 := Lib.hid (Var.new hd3)
      have HV3 := Lib.hid ((HVc.out.keep hb3).alloc (.cells #[.int .i64 D2.size, .slice A2 D2.secs.length c2, .slice P2 D2.pend.length cp2, .int .i64 D2.left] 25))
      have HZ' := Lib.hid ((HZ.out.keep hb3).alloc (.cells #[.int .i64 D2.size, .slice A2 D2.secs.length c2, .slice P2 D2.pend.length cp2, .int .i64 D2.left] 25))
      have KB2 := KB.out.trans (hb3.mono KB.out.size)
      have KB' := Lib.hid (KB2.alloc KB2.size (.cells #[.int .i64 D2.size, .slice A2 D2.secs.length c2, .slice P2 D2.pend.length cp2, .int .i64 D2.left] 25))
      clear CS q0 q1 q2 q3 hd3 hb3 HVc HZ KB KB2
      go_upto_region 9 with (fail)
      generalize w3.alloc (.cells #[.int .i64 D2.size, .slice A2 D2.secs.length c2, .slice P2 D2.pend.length cp2, .int .i64 D2.left] 25) = w4 at *
      have HZ := HZ'
      have KB := KB'
      rcases HSY.out with rfl | ⟨rfl, z1⟩
      · have HE : Hid (R = (D2, 0)) := by show _ = _; rw [HR'.out, if_neg (by simp)]
        clear HR' HSY
        obtain ⟨q0, q1, q2, q3, _⟩ := HV9.out.facts
        obtain ⟨t0, t1, t2, t3, r0, r1, r2, r3⟩ := HZ.out.facts
        simp only [noDisk, List.length_nil] at t0 t1 t2 t3
        have VR := Lib.hid (HZ.out.assign HV9.out.dk)
        have KR := Lib.hid (put4_below (A := A2) (c := c2) (P := P2) (cp := cp2) (d := D2) KB.out (show W.heap.size ≤ W.heap.size + 1 by omega))

        go_wp2
        change bodyPost _ _ _ _ _ (put4 w4 (W.heap.size + 1) A2 c2 P2 cp2 D2)
        obtain ⟨k0, k1, k2, k3, _⟩ := VR.out.facts
        clear q0 q1 q2 q3 t0 t1 t2 t3 r0 r1 r2 r3
        generalize put4 w4 (W.heap.size + 1) A2 c2 P2 cp2 D2 = wx at *
        exact bodyPost_ret (v := .tuple #[.agg #[.int .i64 D2.size, .slice A2 D2.secs.length c2, .slice P2 D2.pend.length cp2, .int .i64 D2.left], .int .i64 0]) (by simp [results, Try.results45, go_sem, k0, k1, k2, k3]) rfl (by rw [HE.out]; exact ⟨_, _, rfl, VR.out.dk, KR.out⟩)
      · subst z1
        have HE : Hid (R = (D2, 20)) := by show _ = _; rw [HR'.out, if_pos (by simp)]
        clear HR' HSY
        obtain ⟨q0, q1, q2, q3, _⟩ := HV3.out.facts
        obtain ⟨t0, t1, t2, t3, r0, r1, r2, r3⟩ := HZ.out.facts
        simp only [noDisk, List.length_nil] at t0 t1 t2 t3
        have VR := Lib.hid (HZ.out.assign HV3.out.dk)
        have KR := Lib.hid (put4_below (A := A1) (c := c1) (P := P1) (cp := cp1) (d := D2) KB.out (show W.heap.size ≤ W.heap.size + 1 by omega))

        go_wp2
        change bodyPost _ _ _ _ _ (put4 w4 (W.heap.size + 1) A1 c1 P1 cp1 D2)
        obtain ⟨k0, k1, k2, k3, _⟩ := VR.out.facts
        clear q0 q1 q2 q3 t0 t1 t2 t3 r0 r1 r2 r3
        generalize put4 w4 (W.heap.size + 1) A1 c1 P1 cp1 D2 = wx at *
        exact bodyPost_ret (v := .tuple #[.agg #[.int .i64 D2.size, .slice A1 D2.secs.length c1, .slice P1 D2.pend.length cp1, .int .i64 D2.left], .int .i64 20]) (by simp [results, Try.results45, go_sem, k0, k1, k2, k3]) rfl (by rw [HE.out]; exact ⟨_, _, rfl, VR.out.dk, KR.out⟩)
end Go.Proofs.Ytockmhhiomdlkaa
