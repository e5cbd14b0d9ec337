/- delta: the reference's Compose. (Printed by wip/gen/gen_dercomp.py.) -/
import Derived.Test.YtiioebpmfjipeaaDeRPart
import Derived.Test.YtiioebpmfjipeaaDeSize
import Derived.Test.YtiioebpmfjipeaaDeRAdd
namespace Go.Proofs.Ytiioebpmfjipeaa
set_option linter.unusedVariables false
set_option linter.unusedSimpArgs false
open Go.RowKit

/-- An answer of Compose. -/
def ComE (r : List DOp × Int) (w0 : World) (e : Ending) (w : World) : Prop := ∃ v, e = .returned (.tuple #[v, .int .i64 r.2]) ∧ Dls w v r.1 ∧ Below w0.heap.size w0 w
theorem ComE.nil {k : Int} {w0 w : World} (h : Below w0.heap.size w0 w) : ComE ([], k) w0 (.returned (.tuple #[.slice none 0 0, .int .i64 k])) w := ⟨_, rfl, Sl.nil _ _ _, h⟩
theorem sizeD_of {xs : List DOp} {n : Int} (h : checkD xs n = 0) : sizeD xs = sumD xs := by
  obtain ⟨⟨h0, h1⟩, h2, h3⟩ := checkD_iff.1 h
  unfold sizeD
  rw [if_pos]
  exact checkD_of (by omega) (by omega) (fun x hx => ⟨(h2 x hx).1, fun hc => by have := (h2 x hx).2 hc; omega⟩) h3
/-- What Compose's loops keep. -/
structure CmpI (n : Int) (rest out R : List DOp) : Prop where
  vo : ValL n out
  vr : ValL n rest
  sum : sumD out + sumD rest ≤ 65536
  eq : rest.foldl addD out = R
theorem CmpI.step {n : Int} {x : DOp} {rest out R : List DOp} (h : CmpI n (x :: rest) out R) : CmpI n rest (addD out x) R := by
  obtain ⟨v, s, _⟩ := addD_val out x h.vo (h.vr x (by simp))
  have hs := h.sum
  have e : sumD (x :: rest) = szD x + sumD rest := rfl
  exact ⟨v, fun y hy => h.vr y (by simp [hy]), by omega, h.eq⟩
theorem CmpI.bnd {n : Int} (hn : n ≤ 65536) {rest out R : List DOp} (h : CmpI n rest out R) : out.length ≤ 65536 ∧ ∀ y ∈ out, 0 ≤ y.len ∧ y.len ≤ 1000000000 ∧ -1000000000 ≤ y.off ∧ y.off ≤ 1000000000 ∧ y.data.length ≤ 1000000000 := by
  have hs := h.sum
  have h0 := sumD_pos rest
  have hl := val_count h.vo
  refine ⟨by omega, fun y hy => ?_⟩
  have hv := h.vo y hy
  have hm := sumD_mem hy
  have hz := szD_form hv.1
  have h1 := hv.len0
  rcases hv.1 with hc | hi
  · have := hv.2 hc; omega
  · have h2 := hi.1
    have h3 := hi.2.1
    omega
theorem comp_drop {first second : List DOp} {i : Nat} {x : DOp} (hx : second[i]? = some x) : compRaw first (second.drop i) = compX first x ++ compRaw first (second.drop (i + 1)) := by
  obtain ⟨h, rfl⟩ := List.getElem?_eq_some_iff.1 hx
  rw [List.drop_eq_getElem_cons h]
  exact List.flatMap_cons
theorem CmpI.head {n : Int} (hn : n ≤ 65536) {x : DOp} {rest out R : List DOp} (h : CmpI n (x :: rest) out R) : 0 ≤ x.len ∧ x.len ≤ 1000000000 ∧ x.data.length ≤ 1000000000 := by
  have hv := h.vr x (by simp)
  have hs := h.sum
  have e : sumD (x :: rest) = szD x + sumD rest := rfl
  have h0 := sumD_pos rest
  have h1 := sumD_pos out
  have hz := szD_form hv.1
  have h2 := hv.len0
  omega
theorem drop_cons {l : List DOp} {m : Nat} {y : DOp} (h : l[m]? = some y) : l.drop m = y :: l.drop (m + 1) := by
  obtain ⟨hh, rfl⟩ := List.getElem?_eq_some_iff.1 h
  exact List.drop_eq_getElem_cons hh
theorem Dls.form2 {w : World} {v : Value} {xs : List DOp} (h : Dls w v xs) : ∃ A c, v = .slice A xs.length c ∧ xs.length ≤ c ∧ c ≤ 9223372036854775807 := h.form

set_option maxRecDepth 100000 in
set_option maxHeartbeats 8000000 in
theorem rcompose_any (w : World) (n : Int) {va vb : Value} {xs ys : List DOp} (ha : Dls w va xs) (hb : Dls w vb ys) (hi : ∀ x ∈ xs, Int64 x.off ∧ Int64 x.len ∧ x.data.length ≤ 9000000000000000000) (hi2 : ∀ x ∈ ys, Int64 x.off ∧ Int64 x.len ∧ x.data.length ≤ 9000000000000000000) :
    Calls Try.prog 29 #[.int .i64 n, va, vb] w (ComE (composeD n xs ys) w) := by
  have CK := Lib.hid (rcheck_any w ha n hi)
  obtain ⟨A, c, rfl, h1, h2⟩ := ha.form
  obtain ⟨B, d, rfl, h3, h4⟩ := hb.form
  have HA := Lib.hid ha
  have HB := Lib.hid hb
  by_cases hc : checkD xs n = 0
  · have hsz := sizeD_of hc
    have CS := Lib.hid (fun w' h => rsize_all w' (va := .slice A xs.length c) (xs := xs) h hi)
    rw [hsz] at CS
    have CK2 := Lib.hid (fun w' h => rcheck_any w' (va := .slice B ys.length d) (xs := ys) h (sumD xs) hi2)
    obtain ⟨⟨hn0, hn1⟩, hvx, hsx⟩ := checkD_iff.1 hc
    have hr : composeD n xs ys = if checkD ys (sumD xs) ≠ 0 then ([], checkD ys (sumD xs)) else (joinD (compRaw xs ys), 0) := if_neg (fun e => e hc)
    have HR := Lib.hid hr
    generalize composeD n xs ys = rr at *
    rw [hc] at CK
    have hsx0 := sumD_pos xs
    have HVX := Lib.hid hvx
    clear hr hc ha hb hi hi2 hsz hvx
    go_enter Try.func29, Try.ntmps29
    go_wp2_with fail
    refine CK.out.mono ?_
    rintro e w1 ⟨rfl, hb1⟩
    have CS' := Lib.hid (CS.out w1 (HA.out.keep (Keeps.of_below hb1)))
    have K1 := Lib.hid hb1
    clear CK CS hb1
    unfold CheckE at CS' CK2
    go_wp2_with fail
    refine CS'.out.mono ?_
    rintro e w2 ⟨rfl, hb2⟩
    have K2 := Lib.hid (K1.out.trans (hb2.mono K1.out.size))
    have CK3 := Lib.hid (CK2.out w2 (HB.out.keep (Keeps.of_below K2.out)))
    clear hb2 K1 CS' CK2
    go_wp2_with fail
    refine CK3.out.mono ?_
    rintro e w3 ⟨rfl, hb3⟩
    have K3 := Lib.hid (K2.out.trans (hb3.mono K2.out.size))
    clear hb3 K2 CK3
    by_cases hc2 : checkD ys (sumD xs) = 0
    · obtain ⟨_, hvy, hsy⟩ := checkD_iff.1 hc2
      obtain ⟨q1, q2, _⟩ := comp_all HVX.out ys hvy
      have hq0 : ((checkD ys (sumD xs)) != 0) = false := by simpa using hc2
      have HI0 : Hid (CmpI n (compRaw xs (ys.drop 0)) [] (joinD (compRaw xs ys))) := ⟨ValL.nil n, q1, by rw [show sumD [] = 0 from rfl]; rw [List.drop_zero, q2]; omega, (joinD_eq fun x hx => (q1 x hx).1).symm⟩
      have HR2 : Hid (rr = (joinD (compRaw xs ys), 0)) := by show _ = _; rw [HR.out, if_neg (fun e => e hc2)]
      have HVY := Lib.hid hvy
      clear q1 q2 hvy HR
      generalize joinD (compRaw xs ys) = R at *
      generalize checkD ys (sumD xs) = qq at *
      clear hc2
      go_wp2
      go_loopw [10, 11] (fun vo ii wr => ∃ (k : Nat) (out : List DOp), k ≤ ys.length ∧ ii = .int .i64 k ∧ Hid (Dls wr vo out ∧ CmpI n (compRaw xs (ys.drop k)) out R) ∧ Below w.heap.size w wr) (fun _ ii _ => ys.length - (intOf ii).toNat)
      case atStart => exact ⟨0, [], by omega, rfl, ⟨Sl.nil _ _ _, HI0.out⟩, K3.out⟩
      case round =>
        clear HI0 K3 hq0
        obtain ⟨k, out, hk, rfl, HI, hbw⟩ := hrel
        have hsz := hbw.size
        by_cases hlt : k < ys.length
        · obtain ⟨x, hx⟩ : ∃ x, ys[k]? = some x := ⟨_, List.getElem?_eq_getElem hlt⟩
          have hbr := HB.out.keep (Keeps.of_below hbw)
          obtain ⟨b1, o1, rfl, c0, c1, c2⟩ := hbr.get hx
          have hval := HVY.out x (List.mem_of_getElem? hx)
          have hcd := comp_drop (first := xs) hx
          have hk1 : (k : Int) + 1 ≤ (ys.length : Int) := by omega
          have hsl := Lib.hid (Sl.sliced hbr (i := k) (j := k + 1) (by omega) (by omega))
          have HX := Lib.hid hx
          have hlx0 := hval.len0
          have HB1 := Lib.hid hbw
          obtain ⟨REST, hRE⟩ : ∃ l, compRaw xs (ys.drop (k + 1)) = l := ⟨_, rfl⟩
          have HREST := Lib.hid hRE
          by_cases hcl : 0 < x.len
          · have hq : decide ((0 : Int) < x.len) = true := by simp; omega
            have hcp : x.cp := hval.1.resolve_right fun hi => by have := hi.1; omega
            have hv2 := hval.2 hcp
            have HCX : Hid (compX xs x = partL 0 xs x.off (x.off + x.len)) := if_pos hcl
            have CP := Lib.hid (fun (w' : World) (h : Dls w' (.slice A xs.length c) xs) => rpart_any w' h hn1 HVX.out hsx x.off x.len hv2.1 hlx0 (by omega))
            have HI2 : Hid (Dls wr u10 out ∧ CmpI n (partL 0 xs x.off (x.off + x.len) ++ REST) out R) := by
              have h := HI.out
              rw [hcd, HCX.out, hRE] at h
              exact h
            generalize partL 0 xs x.off (x.off + x.len) = L at *
            have hS0 : wr.drew.cell? ⟨b1, o1 + k * 3, none⟩ = some (.int .i64 x.off) ∧ wr.drew.cell? ⟨b1, o1 + k * 3 + 1, none⟩ = some (.int .i64 x.len) := ⟨c0, c1⟩
            clear HI hx hval hcd hsl hcp hv2 HCX hbw hbr hRE
            go_wp2_with fail
            refine AtS.start (S := fun w' => w'.cell? ⟨b1, o1 + k * 3, none⟩ = some (.int .i64 x.off) ∧ w'.cell? ⟨b1, o1 + k * 3 + 1, none⟩ = some (.int .i64 x.len)) (by kernel_rfl) hS0 11 ?_
            clear hS0
            (refine AtS.free (i := 0) (v := ?_) (by simp only [List.getElem?_toArray, List.getElem?_cons_succ, List.getElem?_cons_zero]; rfl) (by kernel_rfl) (by kernel_rfl) (by kernel_rfl) (fun _ _ _ h => h) (by kernel_rfl) (Or.inl ⟨by rfl, fun w _ => ?_⟩) ?_; rotate_left; (go_simp; try with_reducible rfl); simp only [Act.put, List.setIfInBounds_toArray, List.set_cons_zero, List.set_cons_succ])
            (refine AtS.free (i := 1) (v := ?_) (by simp only [List.getElem?_toArray, List.getElem?_cons_succ, List.getElem?_cons_zero]; rfl) (by kernel_rfl) (by kernel_rfl) (by kernel_rfl) (fun _ _ _ h => h) (by kernel_rfl) (Or.inl ⟨by rfl, fun w _ => ?_⟩) ?_; rotate_left; (go_simp; try with_reducible rfl); simp only [Act.put, List.setIfInBounds_toArray, List.set_cons_zero, List.set_cons_succ])
            (refine AtS.free (i := 2) (v := ?_) (by simp only [List.getElem?_toArray, List.getElem?_cons_succ, List.getElem?_cons_zero]; rfl) (by kernel_rfl) (by kernel_rfl) (by kernel_rfl) (fun _ _ _ h => h) (by kernel_rfl) (Or.inl ⟨by rfl, fun w _ => ?_⟩) ?_; rotate_left; (go_simp; try with_reducible rfl); simp only [Act.put, List.setIfInBounds_toArray, List.set_cons_zero, List.set_cons_succ])
            (refine AtS.free (i := 3) (v := ?_) (by simp only [List.getElem?_toArray, List.getElem?_cons_succ, List.getElem?_cons_zero]; rfl) (by kernel_rfl) (by kernel_rfl) (by kernel_rfl) (fun _ _ _ h => h) (by kernel_rfl) (Or.inl ⟨by rfl, fun w _ => ?_⟩) ?_; rotate_left; (go_simp; try with_reducible rfl); simp only [Act.put, List.setIfInBounds_toArray, List.set_cons_zero, List.set_cons_succ])
            (refine AtS.free (i := 4) (v := ?_) (by simp only [List.getElem?_toArray, List.getElem?_cons_succ, List.getElem?_cons_zero]; rfl) (by kernel_rfl) (by kernel_rfl) (by kernel_rfl) (fun _ _ _ h => h) (by kernel_rfl) (Or.inl ⟨by rfl, fun w _ => ?_⟩) ?_; rotate_left; (go_simp; try with_reducible rfl); simp only [Act.put, List.setIfInBounds_toArray, List.set_cons_zero, List.set_cons_succ])
            (refine AtS.load (i := 5) (v := ?_) (by simp only [List.getElem?_toArray, List.getElem?_cons_succ, List.getElem?_cons_zero]; rfl) (by kernel_rfl) (by kernel_rfl) (by kernel_rfl) (fun _ _ _ h => h) [] (by kernel_rfl) (Or.inl ⟨by rfl, fun w hSw => ?_⟩) ?_; rotate_left; ((try dsimp only at hSw); go_split_ands; go_simp; try with_reducible rfl); simp only [Act.put, List.setIfInBounds_toArray, List.set_cons_zero, List.set_cons_succ])
            (refine AtS.free (i := 6) (v := ?_) (by simp only [List.getElem?_toArray, List.getElem?_cons_succ, List.getElem?_cons_zero]; rfl) (by kernel_rfl) (by kernel_rfl) (by kernel_rfl) (fun _ _ _ h => h) (by kernel_rfl) (Or.inl ⟨by rfl, fun w _ => ?_⟩) ?_; rotate_left; (go_simp; try with_reducible rfl); simp only [Act.put, List.setIfInBounds_toArray, List.set_cons_zero, List.set_cons_succ])
            (refine AtS.free (i := 7) (v := ?_) (by simp only [List.getElem?_toArray, List.getElem?_cons_succ, List.getElem?_cons_zero]; rfl) (by kernel_rfl) (by kernel_rfl) (by kernel_rfl) (fun _ _ _ h => h) (by kernel_rfl) (Or.inl ⟨by rfl, fun w _ => ?_⟩) ?_; rotate_left; (go_simp; try with_reducible rfl); simp only [Act.put, List.setIfInBounds_toArray, List.set_cons_zero, List.set_cons_succ])
            (refine AtS.free (i := 8) (v := ?_) (by simp only [List.getElem?_toArray, List.getElem?_cons_succ, List.getElem?_cons_zero]; rfl) (by kernel_rfl) (by kernel_rfl) (by kernel_rfl) (fun _ _ _ h => h) (by kernel_rfl) (Or.inl ⟨by rfl, fun w _ => ?_⟩) ?_; rotate_left; (go_simp; try with_reducible rfl); simp only [Act.put, List.setIfInBounds_toArray, List.set_cons_zero, List.set_cons_succ])
            (refine AtS.free (i := 9) (v := ?_) (by simp only [List.getElem?_toArray, List.getElem?_cons_succ, List.getElem?_cons_zero]; rfl) (by kernel_rfl) (by kernel_rfl) (by kernel_rfl) (fun _ _ _ h => h) (by kernel_rfl) (Or.inl ⟨by rfl, fun w _ => ?_⟩) ?_; rotate_left; (go_simp; try with_reducible rfl); simp only [Act.put, List.setIfInBounds_toArray, List.set_cons_zero, List.set_cons_succ])
            (refine AtS.load (i := 10) (v := ?_) (by simp only [List.getElem?_toArray, List.getElem?_cons_succ, List.getElem?_cons_zero]; rfl) (by kernel_rfl) (by kernel_rfl) (by kernel_rfl) (fun _ _ _ h => h) [] (by kernel_rfl) (Or.inl ⟨by rfl, fun w hSw => ?_⟩) ?_; rotate_left; ((try dsimp only at hSw); go_split_ands; go_simp; try with_reducible rfl); simp only [Act.put, List.setIfInBounds_toArray, List.set_cons_zero, List.set_cons_succ])
            refine AtS.late (i := 11) (by simp only [List.getElem?_toArray, List.getElem?_cons_succ, List.getElem?_cons_zero]; rfl) (by kernel_rfl) (by rfl) (by rfl) ?_
            intro K hK
            go_simp
            refine (CP.out _ (HA.out.keep (Keeps.of_below HB1.out.drew))).mono ?_
            rintro e w5 ⟨v5, rfl, own5, hb5⟩
            refine hK _ _ ?_
            clear hK K
            refine AtS.late (i := 12) (by simp only [List.getElem?_toArray, List.getElem?_cons_succ, List.getElem?_cons_zero]; rfl) (by kernel_rfl) (by rfl) (by rfl) ?_
            intro K hK
            go_simp
            refine hK _ _ (AtS.done (by kernel_rfl) (NoPanic.normal ?_))
            clear hK K
            obtain ⟨A5, c5, rfl⟩ := own_form own5
            have HL := Lib.hid (dls_own own5)
            have HB5 := Lib.hid (HB1.out.drew.trans (hb5.mono HB1.out.drew.size))
            have HI5 : Hid (Dls w5 u10 out ∧ CmpI n (L.drop 0 ++ REST) out R) := ⟨HI2.out.1.keep ((Keeps.drew wr).trans (Keeps.of_below hb5)), HI2.out.2⟩
            clear own5 hb5 CP HI2 HB1 c0 c1 c2 hlx0 hcl hq
            go_wp2
            go_loopw [10, 13] (fun vo mi wi => ∃ (m : Nat) (out2 : List DOp), m ≤ L.length ∧ mi = .int .i64 m ∧ Hid (Dls wi vo out2 ∧ CmpI n ((L).drop m ++ REST) out2 R) ∧ Below w5.heap.size w5 wi) (fun _ mi _ => L.length - (intOf mi).toNat)
            case atStart => exact ⟨0, out, by omega, rfl, HI5.out, Below.refl _ _⟩
            case round =>
              clear HI5
              obtain ⟨m, out2, hm, rfl, HI6, hbi⟩ := hrel
              have hLl := Sl.length_le HL.out
              by_cases hlm : m < L.length
              · obtain ⟨y, hy⟩ : ∃ y, (L)[m]? = some y := ⟨_, List.getElem?_eq_getElem hlm⟩
                obtain ⟨bb, ob, hbb, e0, e1, e2⟩ := (HL.out.keep (Keeps.of_below hbi)).get hy
                obtain rfl : A5 = some ⟨bb, ob, none⟩ := hbb
                have HI7 : Hid (Dls wr u10 out2 ∧ CmpI n (y :: ((L).drop (m + 1) ++ REST)) out2 R) := by
                  have h := HI6.out
                  rw [drop_cons hy] at h
                  exact h
                have hbd := HI7.out.2.bnd hn1
                have hhd := HI7.out.2.head hn1
                have CA := Lib.hid (radd_any wr HI7.out.1 y hhd (fun z hz => hbd.2 z hz) (by omega))
                have HI8 := Lib.hid HI7.out.2.step
                obtain ⟨AO, cO, hO, _⟩ := HI7.out.1.form2
                subst hO
                have HBI := Lib.hid hbi
                unfold dV at CA
                clear HI6 HI7 hbi hy hhd hbd
                go_wp2_with fail
                refine CA.out.mono ?_
                rintro e w6 ⟨v6, rfl, own6, hb6⟩
                have HD6 := Lib.hid (dls_own own6)
                have HBJ := Lib.hid (HBI.out.trans (hb6.mono HBI.out.size))
                clear CA own6 hb6 HBI e0 e1 e2
                go_wp2
                go_roundw
                case rel => exact ⟨m + 1, addD out2 y, by omega, by go_num, ⟨HD6.out, HI8.out⟩, HBJ.out⟩
                case measure => simp [intOf]; omega
              · have hqm : decide ((m : Int) < (L.length : Int)) = false := by simp; omega
                have HI7 : Hid (Dls wr u10 out2 ∧ CmpI n REST out2 R) := by
                  have h := HI6.out
                  rw [List.drop_eq_nil_of_le (by first | omega | (simp only [List.length_singleton]; omega)), List.nil_append] at h
                  exact h
                have HBK := Lib.hid (HB5.out.trans (hbi.mono HB5.out.size))
                clear HI6 hbi HL
                go_wp2
                go_roundw
                case rel => exact ⟨k + 1, out2, by omega, by go_num, by rw [HREST.out]; exact HI7.out, HBK.out⟩
                case measure => simp [intOf]; omega
          · have hq : decide ((0 : Int) < x.len) = false := by simp; omega
            have HCX : Hid (compX xs x = [x]) := if_neg hcl
            have hdk : k < d := by omega
            have HL : Hid (Dls wr (.slice (some ⟨b1, o1 + k * 3, none⟩) 1 (d - k)) [x]) := by
              have h := hsl.out
              have e1 : sliced (some ⟨b1, o1, none⟩) k (k + 1) d 3 = .slice (some ⟨b1, o1 + k * 3, none⟩) 1 (d - k) := by
                unfold Go.sliced
                rw [if_neg (by omega), show k + 1 - k = 1 by omega]
                simp [Addr.add]
              have e2 : (ys.drop k).take (k + 1 - k) = [x] := by
                obtain ⟨hh, rfl⟩ := List.getElem?_eq_some_iff.1 HX.out
                rw [List.drop_eq_getElem_cons hh, show k + 1 - k = 1 by omega]
                rfl
              rw [e1, e2] at h
              exact h
            have HI5 : Hid (Dls wr u10 out ∧ CmpI n ([x].drop 0 ++ REST) out R) := by
              have h := HI.out
              rw [hcd, HCX.out, hRE] at h
              exact h
            have HB5 := HB1
            clear HI hx hval hcd hsl hbw hbr HB1 hRE
            go_wp2
            go_loopw [10, 13] (fun vo mi wi => ∃ (m : Nat) (out2 : List DOp), m ≤ 1 ∧ mi = .int .i64 m ∧ Hid (Dls wi vo out2 ∧ CmpI n (([x]).drop m ++ REST) out2 R) ∧ Below wr.heap.size wr wi) (fun _ mi _ => 1 - (intOf mi).toNat)
            case atStart => exact ⟨0, out, by omega, rfl, HI5.out, Below.refl _ _⟩
            case round =>
              clear HI5
              obtain ⟨m, out2, hm, rfl, HI6, hbi⟩ := hrel
              have hLl := Sl.length_le HL.out
              by_cases hlm : m < 1
              · obtain ⟨y, hy⟩ : ∃ y, ([x])[m]? = some y := ⟨_, List.getElem?_eq_getElem hlm⟩
                obtain ⟨bb, ob, hbb, e0, e1, e2⟩ := (HL.out.keep (Keeps.of_below hbi)).get hy
                obtain ⟨rfl, rfl⟩ : b1 = bb ∧ o1 + k * 3 = ob := by cases hbb; exact ⟨rfl, rfl⟩
                have HI7 : Hid (Dls wr u10 out2 ∧ CmpI n (y :: (([x]).drop (m + 1) ++ REST)) out2 R) := by
                  have h := HI6.out
                  rw [drop_cons hy] at h
                  exact h
                have hbd := HI7.out.2.bnd hn1
                have hhd := HI7.out.2.head hn1
                have CA := Lib.hid (radd_any wr HI7.out.1 y hhd (fun z hz => hbd.2 z hz) (by omega))
                have HI8 := Lib.hid HI7.out.2.step
                obtain ⟨AO, cO, hO, _⟩ := HI7.out.1.form2
                subst hO
                have HBI := Lib.hid hbi
                unfold dV at CA
                clear HI6 HI7 hbi hy hhd hbd
                go_wp2_with fail
                refine CA.out.mono ?_
                rintro e w6 ⟨v6, rfl, own6, hb6⟩
                have HD6 := Lib.hid (dls_own own6)
                have HBJ := Lib.hid (HBI.out.trans (hb6.mono HBI.out.size))
                clear CA own6 hb6 HBI e0 e1 e2
                go_wp2
                go_roundw
                case rel => exact ⟨m + 1, addD out2 y, by omega, by go_num, ⟨HD6.out, HI8.out⟩, HBJ.out⟩
                case measure => simp [intOf]; omega
              · have hqm : decide ((m : Int) < (1 : Int)) = false := by simp; omega
                have HI7 : Hid (Dls wr u10 out2 ∧ CmpI n REST out2 R) := by
                  have h := HI6.out
                  rw [List.drop_eq_nil_of_le (by first | omega | (simp only [List.length_singleton]; omega)), List.nil_append] at h
                  exact h
                have HBK := Lib.hid (HB5.out.trans (hbi.mono HB5.out.size))
                clear HI6 hbi HL
                go_wp2
                go_roundw
                case rel => exact ⟨k + 1, out2, by omega, by go_num, by rw [HREST.out]; exact HI7.out, HBK.out⟩
                case measure => simp [intOf]; omega
        · have hq : decide ((k : Int) < (ys.length : Int)) = false := by simp; omega
          obtain ⟨d1, d2⟩ := HI.out
          rw [List.drop_eq_nil_of_le (by omega)] at d2
          have hR : out = R := d2.eq
          subst hR
          have HE := Lib.hid (show ComE rr w (.returned (.tuple #[u10, .int .i64 0])) wr from by rw [HR2.out]; exact ⟨_, rfl, d1, hbw⟩)
          clear HI d1 d2 hbw
          go_wp2
          go_ret2
          exact HE.out
    · have hq0 : ((checkD ys (sumD xs)) != 0) = true := by simpa using hc2
      have HE := Lib.hid (show ComE rr w (.returned (.tuple #[.slice none 0 0, .int .i64 (checkD ys (sumD xs))])) w3 from by rw [HR.out, if_pos hc2]; exact ComE.nil K3.out)
      generalize checkD ys (sumD xs) = qq at *
      clear K3 hc2 HR
      go_wp2
      go_ret2
      exact HE.out
  · have hr : composeD n xs ys = ([], checkD xs n) := if_pos hc
    rw [hr]
    have hne : ((checkD xs n) != 0) = true := by simpa using hc
    generalize checkD xs n = q at *
    clear hr ha hb hi hi2 hc
    go_enter Try.func29, Try.ntmps29
    go_wp2_with fail
    refine CK.out.mono ?_
    rintro e w1 ⟨rfl, hb1⟩
    have HE := Lib.hid (show ComE ([], q) w (.returned (.tuple #[.slice none 0 0, .int .i64 q])) w1 from ComE.nil hb1)
    clear hb1 CK
    go_wp2
    go_ret2
    exact HE.out
end Go.Proofs.Ytiioebpmfjipeaa
