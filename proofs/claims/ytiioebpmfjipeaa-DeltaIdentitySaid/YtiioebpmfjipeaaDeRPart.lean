/- delta: the reference's part. (Printed by wip/gen/gen_dercomp.py.) -/
import Derived.Test.YtiioebpmfjipeaaCompP
import Derived.Test.YtiioebpmfjipeaaDeDec
namespace Go.Proofs.Ytiioebpmfjipeaa
set_option linter.unusedVariables false
set_option linter.unusedSimpArgs false
open Go.RowKit

/-- What part's loop keeps. -/
def PrtI (first : List DOp) (lo hi : Int) (k : Nat) (acc R : List DOp) : Prop := acc ++ partL (sumD (first.take k)) (first.drop k) lo hi = R
theorem PrtI.start (first : List DOp) (lo hi : Int) : PrtI first lo hi 0 [] (partL 0 first lo hi) := rfl
theorem PrtI.step {first : List DOp} {lo hi : Int} {k : Nat} {acc R : List DOp} {x : DOp} (h : PrtI first lo hi k acc R) (hx : first[k]? = some x) :
    PrtI first lo hi (k + 1) (if max lo (sumD (first.take k)) < min hi (sumD (first.take k) + szD x) then acc ++ [cutX x (max lo (sumD (first.take k)) - sumD (first.take k)) (min hi (sumD (first.take k) + szD x) - sumD (first.take k))] else acc) R := by
  unfold PrtI at h ⊢
  rw [sumD_take hx]
  obtain ⟨hl, rfl⟩ := List.getElem?_eq_some_iff.1 hx
  rw [List.drop_eq_getElem_cons hl] at h
  rw [← h]
  show _ = acc ++ (if max lo (sumD (first.take k)) < min hi (sumD (first.take k) + szD first[k]) then cutX first[k] (max lo (sumD (first.take k)) - sumD (first.take k)) (min hi (sumD (first.take k) + szD first[k]) - sumD (first.take k)) :: partL (sumD (first.take k) + szD first[k]) (first.drop (k + 1)) lo hi else partL (sumD (first.take k) + szD first[k]) (first.drop (k + 1)) lo hi)
  split <;> simp
theorem extract_str (d : List UInt8) {p q : Nat} (h : p ≤ q) : (strB d).extract p q = strB ((d.drop p).take (q - p)) := by
  apply ByteArray.ext
  rw [ByteArray.data_extract]
  apply Array.toList_inj.1
  simp [strB, Array.toList_extract, List.extract_eq_take_drop]
theorem PrtI.fin {first : List DOp} {lo hi : Int} {k : Nat} {acc R : List DOp} (h : PrtI first lo hi k acc R) (hk : first.length ≤ k) : acc = R := by
  unfold PrtI at h
  rw [List.drop_eq_nil_of_le hk] at h
  simpa [partL] using h

set_option maxRecDepth 100000 in
set_option maxHeartbeats 8000000 in
theorem rpart_any (w : World) {va : Value} {xs : List DOp} (ha : Dls w va xs) {N : Int} (hN : N ≤ 65536) (hv : ValL N xs) (hs : sumD xs ≤ 65536) (lo m : Int) (h0 : 0 ≤ lo) (hm : 0 ≤ m) (hlm : lo + m ≤ 65536) :
    Calls Try.prog 52 #[va, .int .i64 lo, .int .i64 m] w (RowE (partL 0 xs lo (lo + m)) w) := by
  obtain ⟨i1, hi1, hy0, hy1, hy2⟩ := info_parts Try.info_op
  have hxl : xs.length ≤ 65536 := by have := val_count hv; omega
  obtain ⟨A, c, rfl, h1, h2⟩ := ha.form
  have HA := Lib.hid ha
  have HV := Lib.hid hv
  have HP : Hid (∀ k, sumD (xs.take k) ≤ sumD xs) := sumD_prefix xs
  have HI0 := Lib.hid (PrtI.start xs lo (lo + m))
  generalize partL 0 xs lo (lo + m) = R at *
  clear ha hv
  obtain ⟨hi, hhi⟩ : ∃ hi, hi = lo + m := ⟨_, rfl⟩
  have hzh : IntKind.i64.wrap (lo + m) = hi := by rw [i64w (by omega) (by omega), hhi]
  have hh0 : lo ≤ hi := by omega
  have hh1 : hi ≤ 65536 := by omega
  rw [← hhi] at HI0
  clear hhi hlm
  go_enter Try.func52, Try.ntmps52
  go_wp2
  go_loopw [7, 8, 9] (fun vo ai ii wr => ∃ (k : Nat) (acc : List DOp), k ≤ xs.length ∧ acc.length ≤ k ∧ ii = .int .i64 k ∧ ai = .int .i64 (sumD (xs.take k)) ∧ wr.ownsRow w.heap.size 28 3 vo acc.length (acc.flatMap dC) ∧ Hid (PrtI xs lo hi k acc R) ∧ Below w.heap.size w wr) (fun _ _ ii _ => xs.length - (intOf ii).toNat)
  case atStart => exact ⟨0, [], by omega, by simp, rfl, rfl, World.ownsRow_nil _ _ _ _, HI0, Below.refl _ _⟩
  case round =>
    clear HI0
    obtain ⟨k, acc, hk, hal, rfl, rfl, hown, HI, hbw⟩ := hrel
    have hsz := hbw.size
    by_cases hlt : k < xs.length
    · obtain ⟨x, hx⟩ : ∃ x, xs[k]? = some x := ⟨_, List.getElem?_eq_getElem hlt⟩
      obtain ⟨b1, o1, rfl, c0, c1, c2⟩ := (HA.out.keep (Keeps.of_below hbw)).get hx
      have hval := HV.out x (List.mem_of_getElem? hx)
      have HI2 := Lib.hid (HI.out.step hx)
      have hst := sumD_take hx
      have hp := HP.out (k + 1)
      have hp0 := sumD_pos (xs.take k)
      have hz0 := szD_pos x
      have HST := Lib.hid hst
      have hzf := szD_form hval.1
      have hx0 := hval.len0
      rw [hst] at hp
      obtain ⟨z, hz⟩ : ∃ z, z = szD x := ⟨_, rfl⟩
      obtain ⟨at_, hat⟩ : ∃ a, a = sumD (xs.take k) := ⟨_, rfl⟩
      rw [← hz] at HI2 hp hz0 hzf HST
      rw [← hat] at HI2 hp hp0 HST ⊢
      have hss := strB_size x.data
      have hw1 : IntKind.i64.wrap (x.len + ((strB x.data).size : Int)) = z := by rw [hss, hzf, i64w (by omega) (by omega)]
      have HB := Lib.hid hbw
      have HOW := Lib.hid hown
      have HBD : Hid (∀ m, Below w.heap.size w (wr.drewN m)) := fun m => hbw.trans (((Drawn.refl wr).drewN m).below _)
      clear hst hat hbw hown HI hss hzf
      have hzz := Lib.hid hz
      clear hz
      go_wp2
      go_quiet (fail)
      go_upto_region 8 with (fail)
      have hL0 : at_ ≤ max lo at_ := by omega
      have hL1 : lo ≤ max lo at_ := by omega
      have hH0 : min hi (at_ + z) ≤ at_ + z := by omega
      have hH1 : min hi (at_ + z) ≤ hi := by omega
      generalize max lo at_ = L at *
      generalize min hi (at_ + z) = H at *
      by_cases hLH : L < H
      · have HI3' := HI2.out
        rw [if_pos hLH] at HI3'
        have hcz : x.len ≤ 65536 ∧ x.data.length ≤ 65536 := by
          have := (szD_form hval.1)
          rw [← hzz.out] at this
          omega
        by_cases hcl : 0 < x.len
        · have hcp : x.cp := hval.1.resolve_right fun hi => by have := hi.1; omega
          have hv2 := hval.2 hcp
          have hq : decide ((0 : Int) < x.len) = true := by simp; omega
          have hcut : cutX x (L - at_) (H - at_) = ⟨x.off + L - at_, H - L, []⟩ := by
            unfold cutX
            rw [if_pos hcl]
            simp only [DOp.mk.injEq, and_true]
            omega
          rw [hcut] at HI3'
          have HI3 := Lib.hid HI3'
          have wa : IntKind.i64.wrap (x.off + L) = x.off + L := i64w (by omega) (by omega)
          have wb : IntKind.i64.wrap (x.off + L - at_) = x.off + L - at_ := i64w (by omega) (by omega)
          have wc : IntKind.i64.wrap (H - L) = H - L := i64w (by omega) (by omega)
          clear HI3' hcut HI2 hval hcp
          go_wp2_with (at_builtin; go_must (refine wpList_append_any _ rfl (.tmp 52) (.tmp 66) _ rfl w.heap.size 28 i1 _ 3 32 Try.underlying24 hi1 hy0 hy1 hy2 rfl (by omega) u7 acc.length _ rfl ((HOW.out.kept (grown_of_below (((Drawn.refl wr).drewN nq).below _)) (by cases u7.ownBlock <;> simp)).alloc _) _ 1 1 [.int .i64 (x.off + L - at_), .int .i64 (H - L), .string ⟨#[]⟩] rfl rfl (CellsAt.of_new _ _ _ _) (by simp [Value.oneCell']) (by omega) (by omega) (by simp; omega) ?_; intro v7 w7 hown7 hgr7 hat7))
          have HO7 : Hid (w7.ownsRow w.heap.size 28 3 v7 (acc ++ [(⟨x.off + L - at_, H - L, []⟩ : DOp)]).length ((acc ++ [(⟨x.off + L - at_, H - L, []⟩ : DOp)]).flatMap dC)) := by
            show World.ownsRow _ _ _ _ _ _ _
            rw [flat_snoc, List.length_append, List.length_singleton]
            exact hown7
          have HB7 := Lib.hid (((HBD.out nq).alloc (by simp; omega) (.cells #[.int .i64 (x.off + L - at_), .int .i64 (H - L), .string ⟨#[]⟩] 28)).grown hgr7 (by simp; omega) (fun g h => (HOW.out.lt g h).1))
          clear hown7 hgr7 hat7 HOW HBD HB
          go_wp2
          go_roundw
          case rel => exact ⟨k + 1, acc ++ [(⟨x.off + L - at_, H - L, []⟩ : DOp)], by omega, by rw [List.length_append, List.length_singleton]; omega, by go_num, by rw [HST.out], HO7.out, HI3, HB7.out⟩
          case measure => simp [intOf]; omega
        · have hq : decide ((0 : Int) < x.len) = false := by simp; omega
          have hzl : z = x.data.length := by rw [hzz.out]; exact if_neg hcl
          obtain ⟨p, hp'⟩ : ∃ p : Nat, L - at_ = (p : Int) := ⟨(L - at_).toNat, by omega⟩
          obtain ⟨q, hq'⟩ : ∃ q : Nat, H - at_ = (q : Int) := ⟨(H - at_).toNat, by omega⟩
          have hpq : p ≤ q := by omega
          have hqz : q ≤ (strB x.data).size := by rw [strB_size]; omega
          have hcut : cutX x (L - at_) (H - at_) = ⟨0, 0, (x.data.drop p).take (q - p)⟩ := by
            unfold cutX
            rw [if_neg hcl, hp', hq']
            simp only [DOp.mk.injEq, true_and]
            congr 1
            omega
          rw [hcut] at HI3'
          have HI3 := Lib.hid HI3'
          have wa : IntKind.i64.wrap (L - at_) = (p : Int) := by rw [i64w (by omega) (by omega), hp']
          have wb : IntKind.i64.wrap (H - at_) = (q : Int) := by rw [i64w (by omega) (by omega), hq']
          have hex := extract_str x.data hpq
          clear HI3' hcut HI2 hval hp' hq' hzl
          go_wp2_with (at_builtin; go_must (refine wpList_append_any _ rfl (.tmp 71) (.tmp 85) _ rfl w.heap.size 28 i1 _ 3 32 Try.underlying24 hi1 hy0 hy1 hy2 rfl (by omega) u7 acc.length _ rfl ((HOW.out.kept (grown_of_below (((Drawn.refl wr).drewN nq).below _)) (by cases u7.ownBlock <;> simp)).alloc _) _ 1 1 [.int .i64 0, .int .i64 0, .string (strB ((x.data.drop p).take (q - p)))] rfl rfl (CellsAt.of_new _ _ _ _) (by simp [Value.oneCell']) (by omega) (by omega) (by simp; omega) ?_; intro v7 w7 hown7 hgr7 hat7))
          have HO7 : Hid (w7.ownsRow w.heap.size 28 3 v7 (acc ++ [(⟨0, 0, (x.data.drop p).take (q - p)⟩ : DOp)]).length ((acc ++ [(⟨0, 0, (x.data.drop p).take (q - p)⟩ : DOp)]).flatMap dC)) := by
            show World.ownsRow _ _ _ _ _ _ _
            rw [flat_snoc, List.length_append, List.length_singleton]
            exact hown7
          have HB7 := Lib.hid (((HBD.out nq).alloc (by simp; omega) (.cells #[.int .i64 0, .int .i64 0, .string (strB ((x.data.drop p).take (q - p)))] 28)).grown hgr7 (by simp; omega) (fun g h => (HOW.out.lt g h).1))
          clear hown7 hgr7 hat7 HOW HBD HB
          go_wp2
          go_roundw
          case rel => exact ⟨k + 1, acc ++ [(⟨0, 0, (x.data.drop p).take (q - p)⟩ : DOp)], by omega, by rw [List.length_append, List.length_singleton]; omega, by go_num, by rw [HST.out], HO7.out, HI3, HB7.out⟩
          case measure => simp [intOf]; omega
      · have HI3' := HI2.out
        rw [if_neg hLH] at HI3'
        have HI3 := Lib.hid HI3'
        have hq : decide (L < H) = false := by simp; omega
        have HO7 := Lib.hid (HOW.out.kept (grown_of_below (((Drawn.refl wr).drewN nq).below _)) (by cases u7.ownBlock <;> simp))
        clear HI3' HI2 hval
        go_wp2
        go_roundw
        case rel => exact ⟨k + 1, acc, by omega, by omega, by go_num, by rw [HST.out], HO7.out, HI3, HBD.out _⟩
        case measure => simp [intOf]; omega
    · have hq : decide ((k : Int) < (xs.length : Int)) = false := by simp; omega
      have hR := HI.out.fin (by omega)
      subst hR
      have HE := Lib.hid (show RowE acc w (.returned u7) wr from ⟨_, rfl, hown, hbw⟩)
      clear HI hown hbw
      go_wp2
      go_ret
      exact HE.out
end Go.Proofs.Ytiioebpmfjipeaa
