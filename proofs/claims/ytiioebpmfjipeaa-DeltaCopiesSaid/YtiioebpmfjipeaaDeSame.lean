/- Deltas as arguments; the reference's Same. -/
import Derived.Test.YtiioebpmfjipeaaDeDiff
namespace Go.Proofs.Ytiioebpmfjipeaa
set_option linter.unusedVariables false
set_option linter.unusedSimpArgs false
open Go.RowKit

/-- A slice that reads as a delta. -/
def Dls (w : World) (v : Value) (xs : List DOp) : Prop := Sl w 3 (fun us x => us = dC x) v xs
theorem Dls.keep {w w' : World} {v : Value} {xs : List DOp} (h : Dls w v xs) (k : Keeps w w') : Dls w' v xs := Sl.keep h k fun _ _ h => h
theorem elems_dC : ∀ (xs : List DOp), Elems 3 (fun us x => us = dC x) xs (xs.flatMap dC)
  | [] => rfl
  | x :: xs => ⟨dC x, xs.flatMap dC, by rw [List.flatMap_cons], rfl, rfl, elems_dC xs⟩
theorem dls_own {w : World} {B : Nat} {v : Value} {xs : List DOp} (h : w.ownsRow B 28 3 v xs.length (xs.flatMap dC)) : Dls w v xs := by
  rcases id h.2 with ⟨rfl, hn⟩ | ⟨g, cap, cur, rfl, _, hg, hnc, hcm, _, htk⟩
  · have : xs = [] := List.length_eq_zero_iff.1 hn
    subst this
    exact Sl.nil _ _ _
  · refine ⟨some ⟨g, 0, none⟩, cap, xs.flatMap dC, rfl, hnc, hcm, fun k u hu => ⟨g, 0, rfl, ?_⟩, elems_dC xs⟩
    have hk := (List.getElem?_eq_some_iff.1 hu).1
    rw [flat_len dC_len] at hk
    rw [Nat.zero_add, h.cellAt k hk]
    exact hu
theorem Dls.get {w : World} {xs : List DOp} {A : Option Addr} {c n : Nat} (h : Dls w (.slice A n c) xs) {i : Nat} {x : DOp} (hi : xs[i]? = some x) :
    ∃ b off, A = some ⟨b, off, none⟩ ∧ w.cell? ⟨b, off + i * 3, none⟩ = some (.int .i64 x.off) ∧ w.cell? ⟨b, off + i * 3 + 1, none⟩ = some (.int .i64 x.len) ∧ w.cell? ⟨b, off + i * 3 + 2, none⟩ = some (.string (strB x.data)) := by
  obtain ⟨b, off, us, e, rfl, _, hc⟩ := Sl.get h hi (by omega)
  exact ⟨b, off, e, hc 0 _ rfl, hc 1 _ rfl, hc 2 _ rfl⟩
theorem strB_inj {a b : List UInt8} (h : strB a = strB b) : a = b := by rw [← strB_data a, h, strB_data]

set_option maxRecDepth 100000 in
set_option maxHeartbeats 2000000 in
theorem same_any (w : World) {va vb : Value} {xs ys : List DOp} (ha : Dls w va xs) (hb : Dls w vb ys) (hl : xs.length ≤ 9000000000000000000) :
    Calls Try.prog 14 #[va, vb] w fun e w' => e = .returned (.bool (eqB xs ys)) ∧ Drawn w w' := by
  obtain ⟨Aa, ca, rfl, ha1, ha2⟩ := ha.form
  obtain ⟨Ab, cb, rfl, hb1, hb2⟩ := hb.form
  by_cases hn : xs.length = ys.length
  · have HA := Lib.hid ha
    have HB := Lib.hid hb
    have HN := Lib.hid hn
    have hnb : ((xs.length : Int) == (ys.length : Int)) = true := by simp [hn]
    have hnb2 : ((xs.length : Int) != (ys.length : Int)) = false := by simp [hn]
    have HE : Hid (∀ (i : Nat) (x y : DOp), (∀ j, j < i → xs[j]? = ys[j]?) → xs[i]? = some x → ys[i]? = some y → x ≠ y → eqB xs ys = false) := fun i x y _ hx hy hne => eqB_false fun e => by rw [e, hy] at hx; exact hne (Option.some.inj hx).symm
    have HT : Hid ((∀ j, j < xs.length → xs[j]? = ys[j]?) → eqB xs ys = true) := fun h => eqB_true (List.ext_getElem? fun j => by
      rcases Nat.lt_or_ge j xs.length with hj | hj
      · exact h j hj
      · rw [List.getElem?_eq_none hj, List.getElem?_eq_none (by omega)])
    clear ha hb hn
    generalize eqB xs ys = r at *
    go_enter Try.func14, Try.ntmps14
    go_wp2
    go_loopw [5] (fun i wr => ∃ k : Nat, k ≤ xs.length ∧ i = .int .i64 k ∧ Hid (∀ j, j < k → xs[j]? = ys[j]?) ∧ Drawn w wr) (fun i _ => xs.length - (intOf i).toNat)
    case atStart => exact ⟨0, by omega, rfl, fun j hj => by omega, Drawn.refl _⟩
    case round =>
      obtain ⟨k, hk, rfl, HK, hd⟩ := hrel
      by_cases hlt : k < xs.length
      · have hn := HN.out
        obtain ⟨x, hx⟩ : ∃ x, xs[k]? = some x := ⟨_, List.getElem?_eq_getElem hlt⟩
        obtain ⟨y, hy⟩ : ∃ y, ys[k]? = some y := ⟨_, List.getElem?_eq_getElem (by omega)⟩
        obtain ⟨b1, o1, rfl, c0, c1, c2⟩ := (HA.out.keep hd.keeps).get hx
        obtain ⟨b2, o2, rfl, d0, d1, d2⟩ := (HB.out.keep hd.keeps).get hy
        have hlt2 : k < ys.length := by omega
        clear hn
        by_cases e : x = y
        · subst e
          go_wp2
          go_quiet (fail)
          go_wp2
          go_roundw
          case rel => exact ⟨k + 1, by omega, by go_num, fun j hj => by
            rcases Nat.lt_or_ge j k with h | h
            · exact HK.out j h
            · have : j = k := by omega
              subst this; rw [hx, hy], hd.drewN _⟩
          case measure => simp [intOf]; omega
        · have HR := Lib.hid (HE.out k x y HK.out hx hy e)
          obtain ⟨xo, xl, xd⟩ := x
          obtain ⟨yo, yl, yd⟩ := y
          simp only at c0 c1 c2 d0 d1 d2
          clear HE HT HK hx hy
          by_cases e0 : xo = yo
          · by_cases e1 : xl = yl
            · have e2 : xd ≠ yd := fun e2 => e (by rw [e0, e1, e2])
              subst e0
              subst e1
              have hbe : ((strB xd).toList == (strB yd).toList) = false := by rw [strB_toList, strB_toList]; simpa using e2
              clear e e2
              go_wp2
              go_quiet (fail)
              go_wp2
              go_ret
              exact ⟨by rw [HR.out]; rfl, hd.drewN _⟩
            · subst e0
              have hbe : (xl == yl) = false := by simpa using e1
              clear e e1
              go_wp2
              go_quiet (fail)
              go_wp2
              go_ret
              exact ⟨by rw [HR.out]; rfl, hd.drewN _⟩
          · have hbe : (xo == yo) = false := by simpa using e0
            clear e e0
            go_wp2
            go_quiet (fail)
            go_wp2
            go_ret
            exact ⟨by rw [HR.out]; rfl, hd.drewN _⟩
      · have HR := Lib.hid (HT.out fun j hj => HK.out j (by omega))
        clear HT HK HE
        go_wp2
        go_ret
        exact ⟨by rw [HR.out]; rfl, hd⟩
  · have HR := Lib.hid (eqB_false (fun e : xs = ys => hn (by rw [e])))
    have hnb : ((xs.length : Int) == (ys.length : Int)) = false := by simp; omega
    have hnb2 : ((xs.length : Int) != (ys.length : Int)) = true := by simp; omega
    generalize eqB xs ys = r at *
    clear ha hb hn
    go_enter Try.func14, Try.ntmps14
    go_wp2
    go_ret
    exact ⟨by rw [HR.out]; rfl, Drawn.refl _⟩
end Go.Proofs.Ytiioebpmfjipeaa
