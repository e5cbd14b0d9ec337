/- Plain: settling by the place of a conflict. textmerge.Settle. -/
import Derived.Test.YthobbcafemkhbaaTmClean
import Derived.Test.YthobbcafemkhbaaTmCount
import Derived.Test.YthobbcafemkhbaaTmAdd
import Derived.Test.YthobbcafemkhbaaTmExch
namespace Go.Proofs.Ythobbcafemkhbaa

/-- The place of the i-th conflict, as the program finds it. -/
def plF (i : Int) : Nat → Nat → List Rg → Int → Int
  | _, _, [], pl => pl
  | k, n, x :: t, pl => if x.1 = true then plF i (k + 1) (n + 1) t (if (n : Int) = i then (k : Int) else pl) else plF i (k + 1) n t pl
/-- Settling the region at place p. -/
def stlP (p : Int) (s : Nat) : Nat → List Rg → List Rg → List Rg
  | _, [], out => out
  | k, x :: t, out => stlP p s (k + 1) t (if (k : Int) = p then addL out (side3 s x.2) else if x.1 = true then out ++ [x] else addL out x.2.2.1)
theorem plF_app (i : Int) : ∀ (D : List Rg) (k n : Nat) (R : List Rg) (pl : Int), (∀ m : Nat, n ≤ m → m < n + cntL D → (m : Int) ≠ i) → plF i k n (D ++ R) pl = plF i (k + D.length) (n + cntL D) R pl
  | [], k, n, R, pl, _ => rfl
  | x :: D, k, n, R, pl, h => by
    show (if x.1 = true then plF i (k + 1) (n + 1) (D ++ R) (if (n : Int) = i then (k : Int) else pl) else plF i (k + 1) n (D ++ R) pl) = _
    by_cases hx : x.1 = true
    · have hc : cntL (x :: D) = cntL D + 1 := by unfold cntL; rw [List.countP_cons_of_pos hx]
      rw [if_pos hx, if_neg (h n (Nat.le_refl _) (by omega)), plF_app i D (k + 1) (n + 1) R pl (fun m h1 h2 => h m (by omega) (by omega)), hc, List.length_cons, show k + 1 + D.length = k + (D.length + 1) by omega, show n + 1 + cntL D = n + (cntL D + 1) by omega]
    · have hc : cntL (x :: D) = cntL D := by unfold cntL; rw [List.countP_cons_of_neg hx]
      rw [if_neg hx, plF_app i D (k + 1) n R pl (fun m h1 h2 => h m h1 (by omega)), hc, List.length_cons, show k + 1 + D.length = k + (D.length + 1) by omega]
theorem plF_none (i : Int) (L : List Rg) (k n : Nat) (pl : Int) (h : ∀ m : Nat, n ≤ m → m < n + cntL L → (m : Int) ≠ i) : plF i k n L pl = pl := by
  have := plF_app i L k n [] pl h
  rw [List.append_nil] at this
  rw [this]; rfl
theorem cnt_split : ∀ (L : List Rg) (i : Nat), i < cntL L → ∃ D c R, L = D ++ (true, c) :: R ∧ cntL D = i
  | [], i, h => by cases h
  | (false, c) :: L, i, h => by
    have hc : cntL ((false, c) :: L) = cntL L := by unfold cntL; rw [List.countP_cons_of_neg (by simp)]
    obtain ⟨D, c', R, e, h1⟩ := cnt_split L i (by omega)
    refine ⟨(false, c) :: D, c', R, by rw [e]; rfl, ?_⟩
    unfold cntL at h1 ⊢
    rw [List.countP_cons_of_neg (by simp)]; exact h1
  | (true, c) :: L, 0, _ => ⟨[], c, L, rfl, rfl⟩
  | (true, c) :: L, i + 1, h => by
    have hc : cntL ((true, c) :: L) = cntL L + 1 := by unfold cntL; rw [List.countP_cons_of_pos (by simp)]
    obtain ⟨D, c', R, e, h1⟩ := cnt_split L i (by omega)
    refine ⟨(true, c) :: D, c', R, by rw [e]; rfl, ?_⟩
    unfold cntL at h1 ⊢
    rw [List.countP_cons_of_pos (by simp)]; omega
theorem plF_hit {D R : List Rg} {c : List ByteArray × List ByteArray × List ByteArray} : plF (cntL D : Nat) 0 0 (D ++ (true, c) :: R) (-1) = (D.length : Int) := by
  rw [plF_app _ D 0 0 _ _ (fun m h1 h2 => by omega)]
  show plF _ _ _ R (if ((0 + cntL D : Nat) : Int) = ((cntL D : Nat) : Int) then ((0 + D.length : Nat) : Int) else -1) = _
  rw [if_pos (by omega), plF_none _ R _ _ _ (fun m h1 h2 => by omega), Nat.zero_add]
theorem stlP_app (p : Int) (s : Nat) : ∀ (D : List Rg) (k : Nat) (R out : List Rg), stlP p s k (D ++ R) out = stlP p s (k + D.length) R (stlP p s k D out)
  | [], k, R, out => rfl
  | x :: D, k, R, out => by
    show stlP p s (k + 1) (D ++ R) _ = _
    rw [stlP_app p s D (k + 1) R _, List.length_cons, show k + 1 + D.length = k + (D.length + 1) by omega]; rfl
theorem stlF_app (i s : Nat) : ∀ (D : List Rg) (n : Nat) (R out : List Rg), stlF i s n (D ++ R) out = stlF i s (n + cntL D) R (stlF i s n D out)
  | [], n, R, out => rfl
  | (false, b, l, r) :: D, n, R, out => by
    have hc : cntL ((false, b, l, r) :: D) = cntL D := by unfold cntL; rw [List.countP_cons_of_neg (by simp)]
    show stlF i s n (D ++ R) (addL out l) = _
    rw [stlF_app i s D n R _, hc]; rfl
  | (true, c) :: D, n, R, out => by
    have hc : cntL ((true, c) :: D) = cntL D + 1 := by unfold cntL; rw [List.countP_cons_of_pos (by simp)]
    show stlF i s (n + 1) (D ++ R) _ = _
    rw [stlF_app i s D (n + 1) R _, hc, show n + 1 + cntL D = n + (cntL D + 1) by omega]; rfl
theorem stl_same (i s : Nat) (p : Int) : ∀ (D : List Rg) (k n : Nat) (out : List Rg), (p < k ∨ (k + D.length : Nat) ≤ p) → (i < n ∨ n + cntL D ≤ i) → stlP p s k D out = stlF i s n D out
  | [], _, _, _, _, _ => rfl
  | (false, b, l, r) :: D, k, n, out, h1, h2 => by
    have hc : cntL ((false, b, l, r) :: D) = cntL D := by unfold cntL; rw [List.countP_cons_of_neg (by simp)]
    rw [List.length_cons] at h1
    show stlP p s (k + 1) D (if (k : Int) = p then _ else if (false : Bool) = true then _ else addL out l) = stlF i s n D (addL out l)
    rw [if_neg (by omega), if_neg (by simp)]
    exact stl_same i s p D (k + 1) n _ (by omega) (by omega)
  | (true, c) :: D, k, n, out, h1, h2 => by
    have hc : cntL ((true, c) :: D) = cntL D + 1 := by unfold cntL; rw [List.countP_cons_of_pos (by simp)]
    rw [List.length_cons] at h1
    show stlP p s (k + 1) D (if (k : Int) = p then _ else if (true : Bool) = true then out ++ [(true, c)] else _) = stlF i s (n + 1) D (if n = i then _ else out ++ [(true, c)])
    rw [if_neg (by omega), if_pos rfl, if_neg (by omega)]
    exact stl_same i s p D (k + 1) (n + 1) _ (by omega) (by omega)
/-- Both ways of settling agree. -/
theorem stlP_eq {L : List Rg} {i : Nat} (s : Nat) (h : i < cntL L) : plF (i : Nat) 0 0 L (-1) ≥ 0 ∧ stlP (plF (i : Nat) 0 0 L (-1)) s 0 L [] = stlF i s 0 L [] := by
  obtain ⟨D, c, R, rfl, rfl⟩ := cnt_split L i h
  rw [plF_hit]
  refine ⟨by omega, ?_⟩
  rw [stlP_app, stlF_app, stl_same (cntL D) s D.length D 0 0 [] (by omega) (by omega)]
  show stlP _ s (0 + D.length + 1) R (if ((0 + D.length : Nat) : Int) = (D.length : Int) then addL _ (side3 s c) else _) = stlF _ s (0 + cntL D + 1) R (if 0 + cntL D = cntL D then addL _ (side3 s c) else _)
  rw [if_pos (by omega), if_pos (by omega)]
  exact stl_same _ s _ R _ _ _ (by omega) (by omega)
theorem plF_out {L : List Rg} {i : Int} (h : i < 0 ∨ (cntL L : Int) ≤ i) : plF i 0 0 L (-1) = -1 := plF_none i L 0 0 (-1) fun m h1 h2 => by omega
/-- What Settle returns. -/
def settleS (L : List Rg) (i side : Int) : List Rg × Int :=
  if vldF false L = false then ([], 1) else if i < 0 ∨ (cntL L : Int) ≤ i ∨ side < 0 ∨ 2 < side then ([], 2) else (stlF i.toNat side.toNat 0 L [], 0)
end Go.Proofs.Ythobbcafemkhbaa

namespace Go.Proofs.Ythobbcafemkhbaa
open Go.RowKit

theorem crow_push {w w1 w2 : World} {B : Nat} {v v2 vb vl vr : Value} {L : List Rg} {b l r : List ByteArray} {ob : Obj} {cells : List Value} (hst : Stab w (OwnOf v) fun w' => Elems 4 (RgR w') L cells) (hown : w.ownsRow B 58 4 v L.length cells) (hB : B ≤ w.heap.size) (hb1 : Below w.heap.size w w1)
    (hb : Far w1 B fun w' => Strs w' vb b) (hl : Far w1 B fun w' => Strs w' vl l) (hr : Far w1 B fun w' => Strs w' vr r)
    (hg2 : (w1.alloc ob).grownBy w2 v.ownBlock) (ho2 : w2.ownsRow B 58 4 v2 (L.length + 1) (cells ++ [.bool true, vb, vl, vr])) (ha2 : v2.ownBlock = v.ownBlock ∨ v2.ownBlock = some (w1.alloc ob).heap.size) :
    CRow w2 B v2 (L ++ [(true, b, l, r)]) ∧ Below B w w2 := by
  have how : ∀ g, v.ownBlock = some g → B ≤ g := fun g hg => (hown.lt g hg).1
  obtain ⟨⟨cs, r1, r2⟩, r3, _, _⟩ := row_end hst hown hB hb1 (reg_stab (c := true) (hb.own how) (hl.own how) (hr.own how)) hg2 ho2 ha2
  exact ⟨⟨cs, r1, .inl ⟨.inr ⟨L, _, rfl⟩, r2⟩⟩, r3⟩
theorem ret_se {w' : World} {w : World} {p : List Rg × Int} {v : Value} {L : List Rg} {z : Int} (h : p = (L, z)) (hr : Rgs w' v L) (hb : Below w.heap.size w w') :
    ∃ v', Ending.returned (.tuple #[v, .int .i64 z]) = .returned (.tuple #[v', .int .i64 p.2]) ∧ Rgs w' v' p.1 ∧ Below w.heap.size w w' := by rw [h]; exact ⟨v, rfl, hr, hb⟩
/-- How great regions are, all lists. -/
def LnR (N : Nat) (L : List Rg) : Prop := ∀ x ∈ L, x.2.1.length ≤ N ∧ x.2.2.1.length ≤ N ∧ x.2.2.2.length ≤ N

set_option maxRecDepth 100000 in
set_option maxHeartbeats 4000000 in
theorem settle_any (w : World) (v : Value) (L : List Rg) (i side : Int) (h : Rgs w v L) (hsz : SzR L) (hlen : L.length ≤ 100) (hl : LnR 1000 L) (i0 : -9223372036854775808 ≤ i) (i1 : i ≤ 9223372036854775807) (s0 : -9223372036854775808 ≤ side) (s1 : side ≤ 9223372036854775807) :
    Calls Try.prog 23 #[v, .int .i64 i, .int .i64 side] w fun e w' => ∃ v', e = .returned (.tuple #[v', .int .i64 (settleS L i side).2]) ∧ Rgs w' v' (settleS L i side).1 ∧ Below w.heap.size w w' := by
  obtain ⟨it, hi1, hy0, hy1, hy2⟩ := info_parts Try.info_reg
  have cv := Lib.hid (valid_any w v L h hsz)
  obtain ⟨A, c, rfl, hc, hm⟩ := h.form
  have HL := Lib.hid hl
  clear hl
  cases hv : vldF false L
  · have HE : Hid (settleS L i side = ([], 1)) := if_pos hv
    rw [hv] at cv
    clear hv
    go_enter Try.func23, Try.ntmps23
    go_wp2_with fail
    refine cv.out.mono ?_
    rintro e w1 ⟨rfl, hb⟩
    go_wp2
    go_ret2
    exact ret_se HE.out (Sl.nil _ _ _) hb
  · rw [hv] at cv
    have HS0 : Hid (settleS L i side = if i < 0 ∨ (cntL L : Int) ≤ i ∨ side < 0 ∨ 2 < side then ([], 2) else (stlF i.toNat side.toNat 0 L [], 0)) := if_neg (by rw [hv]; simp)
    clear hv
    obtain ⟨P, hP⟩ : ∃ P, plF i 0 0 L (-1) = P := ⟨_, rfl⟩
    have HP0 : Hid (P = plF i 0 0 (L.drop 0) (-1)) := hP.symm
    have hout : (i < 0 ∨ (cntL L : Int) ≤ i) → P = -1 := fun h => by rw [← hP]; exact plF_out h
    have hin : ¬ (i < 0 ∨ (cntL L : Int) ≤ i) → 0 ≤ P ∧ ∀ s, stlP P s 0 L [] = stlF i.toNat s 0 L [] := fun h => by
      obtain ⟨j, rfl⟩ : ∃ j : Nat, i = (j : Int) := ⟨i.toNat, by omega⟩
      refine ⟨by rw [← hP]; exact (stlP_eq 0 (by omega)).1, fun s => ?_⟩
      rw [← hP]
      exact (stlP_eq s (by omega)).2
    have HOUT := Lib.hid hout
    have HIN := Lib.hid hin
    clear hP hout hin
    go_enter Try.func23, Try.ntmps23
    go_wp2_with fail
    refine cv.out.mono ?_
    rintro e w1 ⟨rfl, hb⟩
    clear cv
    go_wp2_with fail
    go_loopw [8, 9, 20] (fun pl n t wr => ∃ (k m : Nat) (q : Int), k ≤ L.length ∧ t = .int .i64 k ∧ n = .int .i64 m ∧ pl = .int .i64 q ∧ m ≤ k ∧ Hid (P = plF i k m (L.drop k) q) ∧ -1 ≤ q ∧ q ≤ k ∧ Below w.heap.size w wr) (fun _ _ t _ => L.length - (intOf t).toNat)
    case atStart => exact ⟨0, 0, -1, by omega, rfl, rfl, rfl, by omega, HP0, by omega, by omega, hb⟩
    case round =>
      clear HP0 hb
      obtain ⟨k, m, q, hk, rfl, rfl, rfl, hmk, HP, q0, q1, hb⟩ := hrel
      by_cases hlt : k < L.length
      · obtain ⟨b, off, v1, v2, v3, rfl, a1, a2, a3, a4, a5, a6, a7⟩ := (h.keep (Keeps.of_below hb)).get hlt
        have hdr : L.drop k = L[k] :: L.drop (k + 1) := List.drop_eq_getElem_cons hlt
        rw [hdr] at HP
        generalize L[k] = x at *
        obtain ⟨x1, x2⟩ := x
        obtain ⟨A1, c1, rfl, _, _⟩ := a5.form
        obtain ⟨A2, c2, rfl, _, _⟩ := a6.form
        obtain ⟨A3, c3, rfl, _, _⟩ := a7.form
        have hb2 := hb.alloc hb.size (.cells #[.bool x1, .slice A1 x2.1.length c1, .slice A2 x2.2.1.length c2, .slice A3 x2.2.2.length c3] 58)
        clear a5 a6 a7 hdr
        simp only at a1 a2 a3 a4
        cases x1
        · have HP2 : Hid (P = plF i (k + 1) m (L.drop (k + 1)) q) := by
            have e : plF i k m ((false, x2) :: L.drop (k + 1)) q = plF i (k + 1) m (L.drop (k + 1)) q := if_neg (by simp)
            show _ = _; rw [HP.out, e]
          clear HP
          go_wp2
          go_roundw
          case rel => exact ⟨k + 1, m, q, by omega, by go_num, rfl, rfl, by omega, HP2, q0, by omega, hb2⟩
          case measure => simp [intOf]; omega
        · by_cases hmi : (m : Int) = i
          · have he : ((m : Int) == i) = true := by rw [beq_iff_eq]; exact hmi
            have HP2 : Hid (P = plF i (k + 1) (m + 1) (L.drop (k + 1)) (k : Int)) := by
              have e : plF i k m ((true, x2) :: L.drop (k + 1)) q = plF i (k + 1) (m + 1) (L.drop (k + 1)) (if (m : Int) = i then (k : Int) else q) := if_pos rfl
              show _ = _; rw [HP.out, e, if_pos hmi]
            clear HP hmi
            go_wp2
            go_roundw
            case rel => exact ⟨k + 1, m + 1, k, by omega, by go_num, by go_num, rfl, by omega, HP2, by omega, by omega, hb2⟩
            case measure => simp [intOf]; omega
          · have he : ((m : Int) == i) = false := by rw [beq_eq_false_iff_ne]; exact hmi
            have HP2 : Hid (P = plF i (k + 1) (m + 1) (L.drop (k + 1)) q) := by
              have e : plF i k m ((true, x2) :: L.drop (k + 1)) q = plF i (k + 1) (m + 1) (L.drop (k + 1)) (if (m : Int) = i then (k : Int) else q) := if_pos rfl
              show _ = _; rw [HP.out, e, if_neg hmi]
            clear HP hmi
            go_wp2
            go_roundw
            case rel => exact ⟨k + 1, m + 1, q, by omega, by go_num, by go_num, rfl, by omega, HP2, q0, by omega, hb2⟩
            case measure => simp [intOf]; omega
      · have hq : P = q := by have := HP.out; rw [List.drop_of_length_le (by omega)] at this; exact this
        subst hq
        clear HP
        by_cases hio : i < 0 ∨ (cntL L : Int) ≤ i
        · have hp1 : P < 0 := by have := HOUT.out hio; omega
          have HE : Hid (settleS L i side = ([], 2)) := by show _ = _; rw [HS0.out, if_pos (by omega)]
          clear HOUT HIN HS0 hio
          go_wp2
          go_ret2
          exact ret_se HE.out (Sl.nil _ _ _) hb
        · obtain ⟨hp1, hstl⟩ := HIN.out hio
          have HST := Lib.hid hstl
          by_cases hs1 : side < 0
          · have HE : Hid (settleS L i side = ([], 2)) := by show _ = _; rw [HS0.out, if_pos (by omega)]
            clear HOUT HIN HS0 hio hstl
            go_wp2
            go_ret2
            exact ret_se HE.out (Sl.nil _ _ _) hb
          · by_cases hs2 : 2 < side
            · have HE : Hid (settleS L i side = ([], 2)) := by show _ = _; rw [HS0.out, if_pos (by omega)]
              clear HOUT HIN HS0 hio hstl
              go_wp2
              go_ret2
              exact ret_se HE.out (Sl.nil _ _ _) hb
            · obtain ⟨s, rfl⟩ : ∃ s : Nat, side = (s : Int) := ⟨side.toNat, by omega⟩
              have HE : Hid (settleS L i (s : Int) = (stlP P s 0 L [], 0)) := by show _ = _; rw [HS0.out, if_neg (by omega), HST.out, Int.toNat_natCast]
              clear HOUT HIN HS0 hio hstl HST
              obtain ⟨R, hR⟩ : ∃ R, stlP P s 0 L [] = R := ⟨_, rfl⟩
              have HR : Hid (R = stlP P s 0 (L.drop 0) []) := hR.symm
              rw [hR] at HE
              clear hR
              have fL : ∀ k, (hk : k < L.length) → ∃ b off v1 v2 v3, A = some ⟨b, off, none⟩ ∧ w.cell? ⟨b, off + k * 4, none⟩ = some (.bool L[k].1) ∧ w.cell? ⟨b, off + k * 4 + 1, none⟩ = some v1 ∧ w.cell? ⟨b, off + k * 4 + 2, none⟩ = some v2 ∧ w.cell? ⟨b, off + k * 4 + 3, none⟩ = some v3 ∧
                  (Far w w.heap.size fun w' => Strs w' v1 L[k].2.1) ∧ (Far w w.heap.size fun w' => Strs w' v2 L[k].2.2.1) ∧ (Far w w.heap.size fun w' => Strs w' v3 L[k].2.2.2) := fun k hk => by
                obtain ⟨b, off, v1, v2, v3, e, a1, a2, a3, a4, a5, a6, a7⟩ := h.get hk
                exact ⟨b, off, v1, v2, v3, e, a1, a2, a3, a4, far_strs a5, far_strs a6, far_strs a7⟩
              have FL := Lib.hid fL
              clear fL
              go_wp2_with fail
              go_loopw [12, 46] (fun vo t wr => ∃ (k : Nat) (out : List Rg), k ≤ L.length ∧ t = .int .i64 k ∧ CRow wr w.heap.size vo out ∧ Hid (R = stlP P s k (L.drop k) out) ∧ RgB (1002 * k) out ∧ Below w.heap.size w wr) (fun _ t _ => L.length - (intOf t).toNat)
              case atStart => exact ⟨0, [], by omega, rfl, CRow.nil _ _, HR, RgB.nil, hb⟩
              case round =>
                clear HR hb
                obtain ⟨k, out, hk, rfl, hcr, HR, hN, hb⟩ := hrel
                have hbs := hb.size
                by_cases hlt : k < L.length
                · obtain ⟨b, off, v1, v2, v3, rfl, a1, a2, a3, a4, f1, f2, f3⟩ := FL.out k hlt
                  have a1 := cell_later hb a1
                  have a2 := cell_later hb a2
                  have a3 := cell_later hb a3
                  have a4 := cell_later hb a4
                  have f1 := f1.below hb
                  have f2 := f2.below hb
                  have f3 := f3.below hb
                  obtain ⟨n1, n2, n3⟩ := HL.out L[k] (List.getElem_mem hlt)
                  have hdr : L.drop k = L[k] :: L.drop (k + 1) := List.drop_eq_getElem_cons hlt
                  rw [hdr] at HR
                  generalize L[k] = x at *
                  obtain ⟨x1, xb, xl, xr⟩ := x
                  simp only at a1 f1 f2 f3 n1 n2 n3
                  have bx : Below wr.heap.size wr (wr.alloc (.cells #[.bool x1, v1, v2, v3] 58)) := (Below.refl _ _).alloc (Nat.le_refl _) _
                  obtain ⟨A1, c1, rfl, _, _⟩ := Strs.form f1.now
                  obtain ⟨A2, c2, rfl, _, _⟩ := Strs.form f2.now
                  obtain ⟨A3, c3, rfl, _, _⟩ := Strs.form f3.now
                  obtain ⟨Av, cv, rfl, _, _⟩ := hcr.form
                  clear hdr
                  by_cases hkp : (k : Int) = P
                  · have he : ((k : Int) == P) = true := by rw [beq_iff_eq]; exact hkp
                    have HR2 : Hid (R = stlP P s (k + 1) (L.drop (k + 1)) (addL out (side3 s (xb, xl, xr)))) := by
                      have e : stlP P s k ((x1, xb, xl, xr) :: L.drop (k + 1)) out = stlP P s (k + 1) (L.drop (k + 1)) (if (k : Int) = P then addL out (side3 s (xb, xl, xr)) else if x1 = true then out ++ [(x1, xb, xl, xr)] else addL out xl) := rfl
                      show _ = _; rw [HR.out, e, if_pos hkp]
                    have by_ : Below wr.heap.size wr ((wr.alloc (.cells #[.bool x1, .slice A1 xb.length c1, .slice A2 xl.length c2, .slice A3 xr.length c3] 58)).alloc (.cells #[.slice A2 xl.length c2, .slice A1 xb.length c1, .slice A3 xr.length c3] 36)) := bx.alloc bx.size _
                    have hblk := Blk.new (wr.alloc (.cells #[.bool x1, .slice A1 xb.length c1, .slice A2 xl.length c2, .slice A3 xr.length c3] 58)) #[.slice A2 xl.length c2, .slice A1 xb.length c1, .slice A3 xr.length c3] 36
                    rw [World.size_alloc] at hblk
                    have hsl : ∃ vs, (#[.slice A2 xl.length c2, .slice A1 xb.length c1, .slice A3 xr.length c3] : Array Value)[s]? = some vs ∧ Strs wr vs (side3 s (xb, xl, xr)) ∧ (side3 s (xb, xl, xr)).length ≤ 1000 := by
                      rcases (by omega : s = 0 ∨ s = 1 ∨ s = 2) with rfl | rfl | rfl
                      · exact ⟨_, rfl, f2.now, n2⟩
                      · exact ⟨_, rfl, f1.now, n1⟩
                      · exact ⟨_, rfl, f3.now, n3⟩
                    obtain ⟨vs, e1, e2, e3⟩ := hsl
                    have hsel := hblk.cell e1
                    have HN2 := (hN.addL (side3 s (xb, xl, xr))).mono (M := 1002 * (k + 1)) (by omega)
                    have CA := Lib.hid (addLines_any _ w.heap.size _ vs out _ (hcr.below by_) (by have := by_.size; omega) (e2.keep (Keeps.of_below by_)) hN (by omega) (by omega))
                    obtain ⟨As, cs, rfl, _, _⟩ := e2.form
                    have hby := hb.trans (by_.mono hbs)
                    clear HR hkp f1 f2 f3 n1 n2 n3 hblk e1 e2 e3 bx by_ hcr hN
                    generalize side3 s (xb, xl, xr) = ls at *
                    go_wp2_with fail
                    refine CA.out.mono ?_
                    rintro e w5 ⟨v5, rfl, r5, b5, _⟩
                    have hb5 := hby.trans b5
                    clear CA hsel a1 a2 a3 a4 b5 hby
                    go_wp2
                    go_roundw
                    case rel => exact ⟨k + 1, _, by omega, by go_num, r5, HR2, HN2, hb5⟩
                    case measure => simp [intOf]; omega
                  · have he : ((k : Int) == P) = false := by rw [beq_eq_false_iff_ne]; exact hkp
                    have hbx := hb.trans (bx.mono hbs)
                    have hbxs := bx.size
                    cases x1
                    · have HR2 : Hid (R = stlP P s (k + 1) (L.drop (k + 1)) (addL out xl)) := by
                        have e : stlP P s k ((false, xb, xl, xr) :: L.drop (k + 1)) out = stlP P s (k + 1) (L.drop (k + 1)) (if (k : Int) = P then addL out (side3 s (xb, xl, xr)) else if (false : Bool) = true then out ++ [(false, xb, xl, xr)] else addL out xl) := rfl
                        show _ = _; rw [HR.out, e, if_neg hkp, if_neg (by simp)]
                      have HN2 := (hN.addL xl).mono (M := 1002 * (k + 1)) (by omega)
                      have CA := Lib.hid (addLines_any _ w.heap.size _ _ out xl (hcr.below bx) (by omega) (f2.now.keep (Keeps.of_below hbx)) hN (by omega) (by omega))
                      clear HR hkp f1 f2 f3 n1 n2 n3 bx hcr hN
                      go_wp2_with fail
                      refine CA.out.mono ?_
                      rintro e w5 ⟨v5, rfl, r5, b5, _⟩
                      have hb5 := hbx.trans b5
                      clear CA a1 a2 a3 a4 b5 hbx
                      go_wp2
                      go_roundw
                      case rel => exact ⟨k + 1, _, by omega, by go_num, r5, HR2, HN2, hb5⟩
                      case measure => simp [intOf]; omega
                    · have HR2 : Hid (R = stlP P s (k + 1) (L.drop (k + 1)) (out ++ [(true, xb, xl, xr)])) := by
                        have e : stlP P s k ((true, xb, xl, xr) :: L.drop (k + 1)) out = stlP P s (k + 1) (L.drop (k + 1)) (if (k : Int) = P then addL out (side3 s (xb, xl, xr)) else if (true : Bool) = true then out ++ [(true, xb, xl, xr)] else addL out xl) := rfl
                        show _ = _; rw [HR.out, e, if_neg hkp, if_pos rfl]
                      have HN2 := (hN.snoc (true, xb, xl, xr)).mono (M := 1002 * (k + 1)) (by show 1002 * k + xl.length + 1 ≤ _; omega)
                      have hlo := hN.1
                      obtain ⟨cells, hown, hst⟩ := hcr.row
                      have hown1 := own_below hown bx
                      have key : ∀ ob w2 v2, ((wr.alloc (.cells #[.bool true, .slice A1 xb.length c1, .slice A2 xl.length c2, .slice A3 xr.length c3] 58)).alloc ob).grownBy w2 (Value.slice Av out.length cv).ownBlock →
                          w2.ownsRow w.heap.size 58 4 v2 (out.length + 1) (cells ++ [.bool true, .slice A1 xb.length c1, .slice A2 xl.length c2, .slice A3 xr.length c3]) →
                          (v2.ownBlock = (Value.slice Av out.length cv).ownBlock ∨ v2.ownBlock = some ((wr.alloc (.cells #[.bool true, .slice A1 xb.length c1, .slice A2 xl.length c2, .slice A3 xr.length c3] 58)).alloc ob).heap.size) →
                          CRow w2 w.heap.size v2 (out ++ [(true, xb, xl, xr)]) ∧ Below w.heap.size wr w2 := fun ob w2 v2 h1 h2 h3 =>
                        crow_push hst hown hbs bx (f1.below hbx) (f2.below hbx) (f3.below hbx) h1 h2 h3
                      have KEY := Lib.hid key
                      clear HR hkp f1 f2 f3 n1 n2 n3 bx hcr hN key hst
                      go_wp2_with (at_builtin; go_must (refine wpList_append_any _ rfl (.tmp 74) (.tmp 76) _ rfl w.heap.size 58 it _ 4 80 Try.underlying24 hi1 hy0 hy1 hy2 rfl (by omega) (.slice Av out.length cv) out.length cells rfl (hown1.alloc _) _ 1 1 [.bool true, .slice A1 xb.length c1, .slice A2 xl.length c2, .slice A3 xr.length c3] rfl rfl (cells_new1 _ _ _ _) (by simp [Value.oneCell']) (by omega) (by omega) (by simp; omega) ?_)
                                   intro v5 w5 ho5 hg5 ha5)
                      obtain ⟨r5, b5⟩ := KEY.out _ _ _ hg5 ho5 (by simpa using ha5)
                      have hb5 := hb.trans b5
                      clear KEY a1 a2 a3 a4 hbx ho5 hg5 ha5
                      go_roundw
                      case rel => exact ⟨k + 1, _, by omega, by go_num, r5, HR2, HN2, hb5⟩
                      case measure => simp [intOf]; omega
                · have hR : R = out := by have := HR.out; rw [List.drop_of_length_le (by omega)] at this; exact this
                  subst hR
                  clear HR
                  go_wp2
                  go_ret2
                  exact ret_se HE.out hcr.rgs hb
end Go.Proofs.Ythobbcafemkhbaa
