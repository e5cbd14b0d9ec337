/- The walk of the law TextmergeApart. -/
import Derived.Test.YthobbcafemkhbaaTmApMrg
import Derived.Test.YthobbcafemkhbaaTmApClos
import Derived.Deep.RegionHeld3
namespace Go.Proofs.Ythobbcafemkhbaa
open Go.RowKit
set_option linter.unusedVariables false

theorem rl_one (s : ByteArray) (hs : s.size ≤ 1000000000) (w : World) : Calls Try.prog 19 #[.string s] w fun e w' => (∃ A c, e = .returned (.slice A (lines s.data.toList).length c)) ∧ Below w.heap.size w w' :=
  (rlines_any s hs w).mono fun e w' ⟨v, h1, h2, h3⟩ => by
    obtain ⟨A, c, rfl⟩ := own_form h2
    exact ⟨⟨A, c, h1⟩, h3⟩
theorem one_pos {s : ByteArray} (h : oneL s) : 0 < s.size := by
  rcases Nat.eq_zero_or_pos s.size with h0 | h0
  · exfalso
    have : s.data.toList = [] := by
      have : s.data.toList.length = 0 := h0
      exact List.length_eq_zero_iff.1 this
    unfold oneL at h
    rw [this] at h
    cases h
  · exact h0

set_option maxRecDepth 100000 in
set_option maxHeartbeats 4000000 in
theorem law_apart (w : World) (m : ByteArray) (hm : m.size ≤ 1048576) (v0 v1 v2 v3 : Value) (F L NF NL : List ByteArray) (h0 : Strs w v0 F) (h1 : Strs w v1 L) (h2 : Strs w v2 NF) (h3 : Strs w v3 NL) :
    Calls Try.prog 6 #[.agg #[v0, v1, v2, v3, .string m]] w fun e w' => e = .returned (.bool true) ∧ Below w.heap.size w w' := by
  have AW := Lib.hid awake19_any
  have hsz := ByteArray.size_append (a := m) (b := ⟨#[10]⟩)
  have hsz1 : (⟨#[10]⟩ : ByteArray).size = 1 := rfl
  obtain ⟨A0, c0, rfl, _, _⟩ := h0.form
  obtain ⟨A1, c1, rfl, _, _⟩ := h1.form
  obtain ⟨A2, c2, rfl, _, _⟩ := h2.form
  obtain ⟨A3, c3, rfl, _, _⟩ := h3.form
  have hend : endL (m ++ ⟨#[10]⟩) := by unfold endL; simp
  go_enter Try.func6, Try.ntmps6
  go_wp2_with fail
  have bs := (Blk.new w #[.slice A0 F.length c0, .slice A1 L.length c1, .slice A2 NF.length c2, .slice A3 NL.length c3, .string m] 38).alloc (.cells #[.string (m ++ ⟨#[10]⟩)] 9)
  have bm := Blk.new (w.alloc (.cells #[.slice A0 F.length c0, .slice A1 L.length c1, .slice A2 NF.length c2, .slice A3 NL.length c3, .string m] 38)) #[.string (m ++ ⟨#[10]⟩)] 9
  rw [World.size_alloc] at bm
  have hB : Below w.heap.size w ((w.alloc (.cells #[.slice A0 F.length c0, .slice A1 L.length c1, .slice A2 NF.length c2, .slice A3 NL.length c3, .string m] 38)).alloc (.cells #[.string (m ++ ⟨#[10]⟩)] 9)) := ((Below.refl _ _).alloc (Nat.le_refl _) _).alloc (by simp) _
  have h0 := h0.keep (Keeps.of_below hB)
  have h1 := h1.keep (Keeps.of_below hB)
  have h2 := h2.keep (Keeps.of_below hB)
  have h3 := h3.keep (Keeps.of_below hB)
  generalize (w.alloc (.cells #[.slice A0 F.length c0, .slice A1 L.length c1, .slice A2 NF.length c2, .slice A3 NL.length c3, .string m] 38)).alloc (.cells #[.string (m ++ ⟨#[10]⟩)] 9) = w1 at *
  generalize m ++ ⟨#[10]⟩ = mid at *
  have hmid : mid.size ≤ 1048577 := by omega
  clear hsz hsz1
  have CL := Lib.hid (rl_one mid (by omega) w1)
  obtain ⟨ln, hln⟩ : ∃ ln, (lines mid.data.toList).length = ln := ⟨_, rfl⟩
  rw [hln] at CL
  have HLN := Lib.hid hln
  clear hln
  refine CL.out.mono ?_
  rintro e w2 ⟨⟨A4, c4, rfl⟩, b2⟩
  have hB := hB.trans (b2.mono hB.size)
  have h0 := h0.keep (Keeps.of_below b2)
  have h1 := h1.keep (Keeps.of_below b2)
  have h2 := h2.keep (Keeps.of_below b2)
  have h3 := h3.keep (Keeps.of_below b2)
  have bs := bs.keep b2
  have bm := bm.keep b2
  have m0 : w2.cell? ⟨w.heap.size + 1, 0, none⟩ = some (.string mid) := bm.cell rfl
  clear CL b2
  by_cases hl1 : ln = 1
  · have e1 : ((ln : Int) == 1) = true := by rw [beq_iff_eq]; omega
    by_cases hl2 : mid.size ≤ 20
    · have e2 : decide ((20 : Int) < (mid.size : Int)) = false := by simp; omega
      have s0 : w2.cell? ⟨w.heap.size, 0, none⟩ = some (.slice A0 F.length c0) := bs.cell rfl
      have s1 : w2.cell? ⟨w.heap.size, 1, none⟩ = some (.slice A1 L.length c1) := bs.cell rfl
      have s2 : w2.cell? ⟨w.heap.size, 2, none⟩ = some (.slice A2 NF.length c2) := bs.cell rfl
      have s3 : w2.cell? ⟨w.heap.size, 3, none⟩ = some (.slice A3 NL.length c3) := bs.cell rfl
      have AP : ∀ k, k < 4 → ∃ Ak lk ck, (w2.alloc (.cells #[.slice A0 F.length c0, .slice A1 L.length c1, .slice A2 NF.length c2, .slice A3 NL.length c3] 36)).cell? ⟨w2.heap.size, k, none⟩ = some (.slice Ak lk.length ck) ∧ Strs w2 (.slice Ak lk.length ck) lk ∧ [F, L, NF, NL][k]? = some lk := by
        intro k hk
        have hb := Blk.new w2 #[.slice A0 F.length c0, .slice A1 L.length c1, .slice A2 NF.length c2, .slice A3 NL.length c3] 36
        match k, hk with
        | 0, _ => exact ⟨A0, F, c0, hb.cell rfl, h0, rfl⟩
        | 1, _ => exact ⟨A1, L, c1, hb.cell rfl, h1, rfl⟩
        | 2, _ => exact ⟨A2, NF, c2, hb.cell rfl, h2, rfl⟩
        | 3, _ => exact ⟨A3, NL, c3, hb.cell rfl, h3, rfl⟩
      have HAP := Lib.hid AP
      clear AP
      go_wp2_with fail
      have b3 : Below w2.heap.size w2 (w2.alloc (.cells #[.slice A0 F.length c0, .slice A1 L.length c1, .slice A2 NF.length c2, .slice A3 NL.length c3] 36)) := (Below.refl _ _).alloc (Nat.le_refl _) _
      generalize w2.alloc (.cells #[.slice A0 F.length c0, .slice A1 L.length c1, .slice A2 NF.length c2, .slice A3 NL.length c3] 36) = w3 at *
      generalize hg3 : w2.heap.size = g3 at *
      have hg3' : g3 ≤ w3.heap.size := by rw [← hg3]; exact b3.size
      go_loopw [36] (fun t wr => ∃ k : Nat, k ≤ 4 ∧ t = .int .i64 k ∧ Hid (∀ i l, i < k → [F, L, NF, NL][i]? = some l → apOkL mid l) ∧ Below g3 w2 wr ∧ Below w3.heap.size w3 wr) (fun t _ => 4 - (intOf t).toNat)
      case atStart => exact ⟨0, by omega, rfl, fun i l hi => absurd hi (by omega), b3, Below.refl _ _⟩
      case round =>
        obtain ⟨k, hk, rfl, HK, hb2, hb3⟩ := hrel
        generalize wr = wo at *
        have k2 : Keeps w2 _ := Keeps.of_below (by rw [hg3]; exact hb2)
        have m0 := k2 _ _ _ m0
        have hBr : Below w.heap.size w wo := hB.trans (hb2.mono (by rw [← hg3]; exact hB.size))
        by_cases hlt : k < 4
        · obtain ⟨Ak, lk, ck, a1, a2, a3⟩ := HAP.out k hlt
          have a1 := Keeps.of_below hb3 _ _ _ a1
          have a2 := a2.keep k2
          have e0 : decide ((k : Int) < 4) = true := by simp; omega
          by_cases h8 : lk.length ≤ 8
          · have e3 : decide ((8 : Int) < (lk.length : Int)) = false := by simp; omega
            go_wp2_with fail
            go_loopw [46] (fun t w4 => ∃ j : Nat, j ≤ lk.length ∧ t = .int .i64 j ∧ Hid (∀ i, i < j → ∀ (h : i < lk.length), apOk mid lk[i]) ∧ Below wo.heap.size wo w4) (fun t _ => lk.length - (intOf t).toNat)
            case atStart => exact ⟨0, by omega, rfl, fun i hi => absurd hi (by omega), Below.refl _ _⟩
            case round =>
              obtain ⟨j, hj, rfl, HJ, hb4⟩ := hrel
              have m0 := Keeps.of_below hb4 _ _ _ m0
              have hB4 := hBr.trans (hb4.mono hBr.size)
              by_cases hjl : j < lk.length
              · obtain ⟨b, off, rfl, a5⟩ := (a2.keep (Keeps.of_below hb4)).get hjl
                have HS : Hid (apOk mid lk[j] → ∀ i, i < j + 1 → ∀ (h : i < lk.length), apOk mid lk[i]) := fun hs i hi h => by
                  rcases Nat.lt_or_ge i j with hij | hij
                  · exact HJ.out i hij h
                  · have : i = j := by omega
                    subst this; exact hs
                generalize lk[j] = s at *
                by_cases g1 : s.size ≤ 20
                · have e4 : decide ((20 : Int) < (s.size : Int)) = false := by simp; omega
                  by_cases g2 : s = mid
                  · have e5 := str_eq g2
                    clear g2 HS HJ
                    go_wp2_with fail
                    refine (AW.out wr).mono ?_
                    rintro e w7 ⟨rfl, b7⟩
                    have hB := hB4.trans (b7.mono hB4.size)
                    go_wp2
                    go_ret
                    exact ⟨rfl, hB⟩
                  · have e5 := str_ne g2
                    have G2 := Lib.hid g2
                    clear g2
                    have CS := Lib.hid (rl_one s (by omega) wr)
                    obtain ⟨n, hn⟩ : ∃ n, (lines s.data.toList).length = n := ⟨_, rfl⟩
                    rw [hn] at CS
                    have HNS := Lib.hid hn
                    clear hn
                    by_cases g3' : n = 1
                    · have e6 : ((n : Int) == 1) = true := by rw [beq_iff_eq]; omega
                      have hone : oneL s := HNS.out.trans g3'
                      have hpos := one_pos hone
                      have hge : s.size - 1 < s.size := by omega
                      have hidx : ((s.size : Int) - 1).toNat = s.size - 1 := by omega
                      have hlast : s.data.toList.getLast? = some s[s.size - 1] := by rw [List.getLast?_eq_getElem?]; exact bget hge
                      have HO := Lib.hid hone
                      clear hone
                      by_cases g4 : s[s.size - 1] = 10
                      · have e7 : ((s[s.size - 1].toNat : Int) == 10) = true := by rw [u8_ten]; simpa using g4
                        have HE : Hid (endL s) := by show endL s; unfold endL; rw [hlast, g4]
                        have HJ2 : Hid (∀ i, i < j + 1 → ∀ (h : i < lk.length), apOk mid lk[i]) := HS.out ⟨g1, G2.out, HO.out, HE.out⟩
                        clear hlast g4 HS HJ HE HO
                        go_wp2_with fail
                        refine CS.out.mono ?_
                        rintro e w5 ⟨⟨A5, c5, rfl⟩, b5⟩
                        have hb5 := hb4.trans (b5.mono hb4.size)
                        clear CS b5 a5
                        go_wp2
                        go_roundw
                        case rel => exact ⟨j + 1, by omega, by go_num, HJ2, hb5⟩
                        case measure => simp [intOf]; omega
                      · have e7 : ((s[s.size - 1].toNat : Int) == 10) = false := by rw [u8_ten]; simpa using g4
                        clear hlast g4 HS HJ HO
                        go_wp2_with fail
                        refine CS.out.mono ?_
                        rintro e w5 ⟨⟨A5, c5, rfl⟩, b5⟩
                        have hB5 := hB4.trans (b5.mono hB4.size)
                        clear CS b5 a5
                        go_wp2_with fail
                        refine (AW.out w5).mono ?_
                        rintro e w7 ⟨rfl, b7⟩
                        have hB := hB5.trans (b7.mono hB5.size)
                        go_wp2
                        go_ret
                        exact ⟨rfl, hB⟩
                    · have e6 : ((n : Int) == 1) = false := by rw [beq_eq_false_iff_ne]; omega
                      clear HS HJ
                      go_wp2_with fail
                      refine CS.out.mono ?_
                      rintro e w5 ⟨⟨A5, c5, rfl⟩, b5⟩
                      have hB5 := hB4.trans (b5.mono hB4.size)
                      clear CS b5 a5
                      go_wp2_with fail
                      refine (AW.out w5).mono ?_
                      rintro e w7 ⟨rfl, b7⟩
                      have hB := hB5.trans (b7.mono hB5.size)
                      go_wp2
                      go_ret
                      exact ⟨rfl, hB⟩
                · have e4 : decide ((20 : Int) < (s.size : Int)) = true := by simp; omega
                  clear HS HJ
                  go_wp2_with fail
                  refine (AW.out wr).mono ?_
                  rintro e w7 ⟨rfl, b7⟩
                  have hB := hB4.trans (b7.mono hB4.size)
                  go_wp2
                  go_ret
                  exact ⟨rfl, hB⟩
              · have HK2 : Hid (∀ i l, i < k + 1 → [F, L, NF, NL][i]? = some l → apOkL mid l) := fun i l hi hl => by
                  rcases Nat.lt_or_ge i k with hik | hik
                  · exact HK.out i l hik hl
                  · have : i = k := by omega
                    subst this
                    rw [a3] at hl
                    obtain rfl := Option.some.inj hl
                    exact ⟨h8, fun s hs => by
                      obtain ⟨i, hi, rfl⟩ := List.getElem_of_mem hs
                      exact HJ.out i (by omega) hi⟩
                have hb2' := hb2.trans (hb4.mono (by rw [← hg3]; exact hb2.size))
                have hb3' := hb3.trans (hb4.mono hb3.size)
                clear HJ HK a2 a3
                go_wp2
                go_roundw
                case rel => exact ⟨k + 1, by omega, by go_num, HK2, hb2', hb3'⟩
                case measure => simp [intOf]; omega
          · have e3 : decide ((8 : Int) < (lk.length : Int)) = true := by simp; omega
            clear HK a2 a3
            go_wp2_with fail
            refine (AW.out wo).mono ?_
            rintro e w7 ⟨rfl, b7⟩
            have hB := hBr.trans (b7.mono hBr.size)
            go_wp2
            go_ret
            exact ⟨rfl, hB⟩
        · have e3 : k = 4 := by omega
          subst e3
          have q0 := HK.out 0 F (by omega) rfl
          have q1 := HK.out 1 L (by omega) rfl
          have q2 := HK.out 2 NF (by omega) rfl
          have q3 := HK.out 3 NL (by omega) rfl
          have hM : apMid mid := ⟨hl2, HLN.out.trans hl1, hend⟩
          have CT : Hid (∀ (w' : World) (va vb : Value) (a b : List ByteArray), Below wo.heap.size wo w' → Strs wo va a → Strs wo vb b → apOkL mid a → apOkL mid b → Calls Try.prog 20 #[va, vb, .pointer (some ⟨w.heap.size + 1, 0, none⟩)] w' fun e w'' => e = .returned (.string (apTxt mid a b)) ∧ Below w'.heap.size w' w'') :=
            fun w' va vb a b hb ha hb2 pa pb => (apText_any w' va vb a b _ mid (ha.keep (Keeps.of_below hb)) (hb2.keep (Keeps.of_below hb)) (Keeps.of_below hb _ _ _ m0) pa.1 pb.1 (ap_part pa) (ap_part pb) hl2).mono fun e w'' ⟨h1, n, h2⟩ => ⟨h1, by rw [h2]; exact below_drewN' (Below.refl _ _) n⟩
          have t0 := h0.keep k2
          have t1 := h1.keep k2
          have t2 := h2.keep k2
          have t3 := h3.keep k2
          have CFL := Lib.hid fun w' hb => CT.out w' _ _ F L hb t0 t1 q0 q1
          have CNL := Lib.hid fun w' hb => CT.out w' _ _ NF L hb t2 t1 q2 q1
          have CFN := Lib.hid fun w' hb => CT.out w' _ _ F NL hb t0 t3 q0 q3
          have CNN := Lib.hid fun w' hb => CT.out w' _ _ NF NL hb t2 t3 q2 q3
          have CM := Lib.hid fun w' => ap_merge hM q0 q1 q2 q3 w'
          have CC := Lib.hid fun w' v hr => ap_clean hM q2 q3 w' v hr
          have KEY : Hid (∀ w', Below wo.heap.size wo w' → w'.cell? ⟨w.heap.size, 0, none⟩ = some (.slice A0 F.length c0) ∧ w'.cell? ⟨w.heap.size, 1, none⟩ = some (.slice A1 L.length c1) ∧ w'.cell? ⟨w.heap.size, 2, none⟩ = some (.slice A2 NF.length c2) ∧ w'.cell? ⟨w.heap.size, 3, none⟩ = some (.slice A3 NL.length c3)) :=
            fun w' h => ⟨Keeps.of_below h _ _ _ (k2 _ _ _ s0), Keeps.of_below h _ _ _ (k2 _ _ _ s1), Keeps.of_below h _ _ _ (k2 _ _ _ s2), Keeps.of_below h _ _ _ (k2 _ _ _ s3)⟩
          have k0 : Below wo.heap.size wo wo := Below.refl _ _
          have k1 : Below wo.heap.size wo wo.drew := below_drew1 (Below.refl _ _)
          clear HK q0 q1 q2 q3 hM CT t0 t1 t2 t3 s0 s1 s2 s3 m0 h0 h1 h2 h3 hb2 hb3 k2 bs bm HAP HLN b3
          go_wp2_with fail
          go_region_held3 (fun w' => w'.cell? ⟨w.heap.size, 0, none⟩ = some (.slice A0 F.length c0) ∧ w'.cell? ⟨w.heap.size, 1, none⟩ = some (.slice A1 L.length c1) ∧ w'.cell? ⟨w.heap.size, 2, none⟩ = some (.slice A2 NF.length c2) ∧ w'.cell? ⟨w.heap.size, 3, none⟩ = some (.slice A3 NL.length c3)) (first | exact KEY.out _ (by assumption) | go_keep)
            (first
              | (go_at_call 14; refine (CM.out _).mono ?_; rintro e y4 ⟨v4, rfl, r4, o4⟩; obtain ⟨A4, c4, rfl, _, _⟩ := r4.form; have z4 := below_chain (a := wo) (by assumption) o4)
              | (go_at_call_of 20 (Value.slice A3 NL.length c3); refine (CFN.out _ (by assumption)).mono ?_; rintro e y3 ⟨rfl, o3⟩; have z3 := below_chain (a := wo) (by assumption) o3)
              | (go_at_call_of 20 (Value.slice A2 NF.length c2); refine (CNL.out _ (by assumption)).mono ?_; rintro e y2 ⟨rfl, o2⟩; have z2 := below_chain (a := wo) (by assumption) o2)
              | (go_at_call_of 20 (Value.slice A1 L.length c1); refine (CFL.out _ (by assumption)).mono ?_; rintro e y1 ⟨rfl, o1⟩; have z1 := below_chain (a := wo) (by assumption) o1))
          all_goals
            have hB4 := hBr.trans (z4.mono hBr.size)
            have CC4 := Lib.hid (CC.out y4 _ r4)
            clear CFL CNL CFN CM CC r4
            go_wp2_with fail
            refine CC4.out.mono ?_
            rintro e y5 ⟨rfl, o5⟩
            have z5 := below_chain (a := wo) z4 o5
            have hB5 := hBr.trans (z5.mono hBr.size)
            obtain ⟨s0, s1, s2, s3⟩ := KEY.out y5 z5
            have CN5 := Lib.hid (CNN.out y5 z5)
            clear CC4 CNN KEY o5
            go_wp2_with fail
            refine CN5.out.mono ?_
            rintro e y6 ⟨rfl, o6⟩
            have hB6 := hB5.trans (o6.mono hB5.size)
            clear CN5 o6
            go_wp2_with fail
            refine (AW.out y6).mono ?_
            rintro e y7 ⟨rfl, b7⟩
            have hB7 := hB6.trans (b7.mono hB6.size)
            go_wp2
            go_ret
            exact ⟨rfl, hB7⟩
    · have e2 : decide ((20 : Int) < (mid.size : Int)) = true := by simp; omega
      go_wp2_with fail
      refine (AW.out w2).mono ?_
      rintro e w3 ⟨rfl, b3⟩
      have hB := hB.trans (b3.mono hB.size)
      go_wp2
      go_ret
      exact ⟨rfl, hB⟩
  · have e1 : ((ln : Int) == 1) = false := by rw [beq_eq_false_iff_ne]; omega
    go_wp2_with fail
    refine (AW.out w2).mono ?_
    rintro e w3 ⟨rfl, b3⟩
    have hB := hB.trans (b3.mono hB.size)
    go_wp2
    go_ret
    exact ⟨rfl, hB⟩
end Go.Proofs.Ythobbcafemkhbaa
