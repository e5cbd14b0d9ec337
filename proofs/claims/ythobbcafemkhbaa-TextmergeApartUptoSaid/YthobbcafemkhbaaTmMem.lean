/- Regions in memory; cordwoodref19.Same. -/
import Derived.Test.YthobbcafemkhbaaRead
namespace Go.Proofs.Ythobbcafemkhbaa
open Go.RowKit

/-- A region: conflict, base, left, right. -/
abbrev Rg := Bool × List ByteArray × List ByteArray × List ByteArray
def RgR (w : World) : List Value → Rg → Prop := fun us x => ∃ vb vl vr, us = [.bool x.1, vb, vl, vr] ∧ Strs w vb x.2.1 ∧ Strs w vl x.2.2.1 ∧ Strs w vr x.2.2.2
def Rgs (w : World) (v : Value) (L : List Rg) : Prop := Sl w 4 (RgR w) v L
theorem RgR.keep {w w' : World} (k : Keeps w w') : ∀ us x, RgR w us x → RgR w' us x := fun _ _ ⟨vb, vl, vr, e, h1, h2, h3⟩ => ⟨vb, vl, vr, e, h1.keep k, h2.keep k, h3.keep k⟩
theorem Rgs.keep {w w' : World} {v : Value} {L : List Rg} (h : Rgs w v L) (k : Keeps w w') : Rgs w' v L := Sl.keep h k (RgR.keep k)
theorem Rgs.form {w : World} {v : Value} {xs : List Rg} (h : Rgs w v xs) : ∃ A c, v = .slice A xs.length c ∧ xs.length ≤ c ∧ c ≤ 9223372036854775807 := Sl.form h
theorem Rgs.get {w : World} {L : List Rg} {A : Option Addr} {c n : Nat} (h : Rgs w (.slice A n c) L) {i : Nat} (hi : i < L.length) :
    ∃ b off vb vl vr, A = some ⟨b, off, none⟩ ∧ w.cell? ⟨b, off + i * 4, none⟩ = some (.bool L[i].1) ∧ w.cell? ⟨b, off + i * 4 + 1, none⟩ = some vb ∧ w.cell? ⟨b, off + i * 4 + 2, none⟩ = some vl ∧ w.cell? ⟨b, off + i * 4 + 3, none⟩ = some vr ∧
      Strs w vb L[i].2.1 ∧ Strs w vl L[i].2.2.1 ∧ Strs w vr L[i].2.2.2 := by
  obtain ⟨b, off, us, e, ⟨vb, vl, vr, rfl, h1, h2, h3⟩, _, hc⟩ := Sl.get h (List.getElem?_eq_getElem hi) (by omega)
  exact ⟨b, off, vb, vl, vr, e, hc 0 _ rfl, hc 1 _ rfl, hc 2 _ rfl, hc 3 _ rfl, h1, h2, h3⟩

set_option maxRecDepth 100000 in
set_option maxHeartbeats 4000000 in
theorem rgSame_any (w : World) (va vb : Value) (xs ys : List Rg) (ha : Rgs w va xs) (hb : Rgs w vb ys) :
    Calls Try.prog 16 #[va, vb] w fun e w' => e = .returned (.bool (eqB xs ys)) ∧ Drawn w w' := by
  obtain ⟨A, c, rfl, hc, hm⟩ := ha.form
  obtain ⟨B, d, rfl, hc', hm'⟩ := hb.form
  by_cases hl : xs.length = ys.length
  · have hle : ys.length ≤ xs.length := by omega
    have hle' : xs.length ≤ ys.length := by omega
    have hne : ((xs.length : Int) != ys.length) = false := by simp [hl]
    have HL := Lib.hid hl
    clear hl
    go_enter Try.func16, Try.ntmps16
    go_wp2
    go_loopw [5] (fun i wr => ∃ k : Nat, k ≤ xs.length ∧ i = .int .i64 k ∧ xs.take k = ys.take k ∧ Drawn w wr) (fun i _ => xs.length - (intOf i).toNat)
    case atStart => exact ⟨0, by omega, rfl, rfl, Drawn.refl _⟩
    case round =>
      obtain ⟨k, hk, rfl, ht, hd⟩ := hrel
      have ha := ha.keep hd.keeps
      have hb := hb.keep hd.keeps
      have HT := Lib.hid ht
      clear ht
      by_cases hlt : k < xs.length
      · have hlt' : k < ys.length := by omega
        obtain ⟨b, off, v1, v2, v3, rfl, a1, a2, a3, a4, a5, a6, a7⟩ := ha.get hlt
        obtain ⟨b', off', u1, u2, u3, rfl, b1, b2, b3, b4, b5, b6, b7⟩ := hb.get hlt'
        have c1 := fun m => same_any _ _ _ _ _ (a5.keep (Keeps.drewN wr m)) (b5.keep (Keeps.drewN wr m))
        have c2 := fun m => same_any _ _ _ _ _ (a6.keep (Keeps.drewN wr m)) (b6.keep (Keeps.drewN wr m))
        have c3 := fun m => same_any _ _ _ _ _ (a7.keep (Keeps.drewN wr m)) (b7.keep (Keeps.drewN wr m))
        have hext : xs[k].1 = ys[k].1 → xs[k].2.1 = ys[k].2.1 → xs[k].2.2.1 = ys[k].2.2.1 → xs[k].2.2.2 = ys[k].2.2.2 → xs[k] = ys[k] := fun h1 h2 h3 h4 => Prod.ext h1 (Prod.ext h2 (Prod.ext h3 h4))
        have HX := Lib.hid hext
        have HLT := Lib.hid (fun (h : ¬ xs[k] = ys[k]) => eqB_ne_at hlt hlt' h)
        have HLE := Lib.hid (fun (h : xs[k] = ys[k]) => take_succ_eq hlt hlt' HT.out h)
        clear hext ha hb a5 a6 a7 b5 b6 b7
        generalize xs[k] = x at *
        generalize ys[k] = y at *
        obtain ⟨x1, x2, x3, x4⟩ := x
        obtain ⟨y1, y2, y3, y4⟩ := y
        simp only at *
        by_cases h1 : x1 = y1
        · have e1 : (x1 == y1) = true := by simp [h1]
          by_cases h2 : x2 = y2
          · rw [eqB_true h2] at c1
            by_cases h3 : x3 = y3
            · rw [eqB_true h3] at c2
              by_cases h4 : x4 = y4
              · rw [eqB_true h4] at c3
                have HE := Lib.hid (HLE.out (HX.out h1 h2 h3 h4))
                have C1 := Lib.hid c1
                have C2 := Lib.hid c2
                have C3 := Lib.hid c3
                clear HX HLT HLE c1 c2 c3 h1 h2 h3 h4
                go_wp2
                go_quiet ((first
                  | (go_at_call_of 42 (v1); exact quiet_drawn (C1.out _))
                  | (go_at_call_of 42 (v2); exact quiet_drawn (C2.out _))
                  | (go_at_call_of 42 (v3); exact quiet_drawn (C3.out _))))
                go_wp2
                go_roundw
                case rel => exact ⟨k + 1, by omega, by go_num, HE.out, hd.drewN _⟩
                case measure => simp [intOf]; omega
              · rw [eqB_false h4] at c3
                have HE := Lib.hid (HLT.out (fun h => h4 (by rw [Prod.mk.injEq, Prod.mk.injEq, Prod.mk.injEq] at h; exact h.2.2.2)))
                have C1 := Lib.hid c1
                have C2 := Lib.hid c2
                have C3 := Lib.hid c3
                clear HX HLT HLE c1 c2 c3 h1 h2 h3 h4
                go_wp2
                go_quiet ((first
                  | (go_at_call_of 42 (v1); exact quiet_drawn (C1.out _))
                  | (go_at_call_of 42 (v2); exact quiet_drawn (C2.out _))
                  | (go_at_call_of 42 (v3); exact quiet_drawn (C3.out _))))
                go_wp2
                go_ret
                exact ⟨ret_bool HE.out.symm, hd.drewN _⟩
            · rw [eqB_false h3] at c2
              have HE := Lib.hid (HLT.out (fun h => h3 (by rw [Prod.mk.injEq, Prod.mk.injEq, Prod.mk.injEq] at h; exact h.2.2.1)))
              have C1 := Lib.hid c1
              have C2 := Lib.hid c2
              clear HX HLT HLE c1 c2 c3 h1 h2 h3
              go_wp2
              go_quiet ((first
                | (go_at_call_of 42 (v1); exact quiet_drawn (C1.out _))
                | (go_at_call_of 42 (v2); exact quiet_drawn (C2.out _))))
              go_wp2
              go_ret
              exact ⟨ret_bool HE.out.symm, hd.drewN _⟩
          · rw [eqB_false h2] at c1
            have HE := Lib.hid (HLT.out (fun h => h2 (by rw [Prod.mk.injEq, Prod.mk.injEq] at h; exact h.2.1)))
            have C1 := Lib.hid c1
            clear HX HLT HLE c1 c2 c3 h1 h2
            go_wp2
            go_quiet ((first
              | (go_at_call_of 42 (v1); exact quiet_drawn (C1.out _))))
            go_wp2
            go_ret
            exact ⟨ret_bool HE.out.symm, hd.drewN _⟩
        · have e1 : (x1 == y1) = false := by simp [h1]
          have HE := Lib.hid (HLT.out (fun h => h1 (by rw [Prod.mk.injEq] at h; exact h.1)))
          clear HX HLT HLE c1 c2 c3 h1
          go_wp2
          go_quiet (fail)
          go_wp2
          go_ret
          exact ⟨ret_bool HE.out.symm, hd.drewN _⟩
      · go_wp2
        go_ret
        exact ⟨ret_bool (eqB_take HL.out HT.out hlt).symm, hd⟩
  · have hne : ((xs.length : Int) != ys.length) = true := by simp; omega
    go_enter Try.func16, Try.ntmps16
    go_wp2
    go_ret
    exact ⟨ret_bool (eqB_ne_len hl).symm, Drawn.refl _⟩
end Go.Proofs.Ythobbcafemkhbaa
