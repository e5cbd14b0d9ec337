/- textmerge.kept: the places of the lines that both sides keep. -/
import Derived.Test.YthobbcafemkhbaaTmPlc
import Derived.Test.YthobbcafemkhbaaTmRmerge
import Derived.Test.YthobbcafemkhbaaTmP
import Derived.Test.YthobbcafemkhbaaTmAdd
import Derived.Deep.RegionHeld3
import Derived.Sort.QuietIn
namespace Go.Proofs.Ythobbcafemkhbaa
open Go.RowKit
attribute [local go_sem] Oper.semAt_some

/-! ### plain -/
def keptF : Nat → List Int → List Int → List (Nat × Nat × Nat)
  | n, x :: X, y :: Y => if x < 0 ∨ y < 0 then keptF (n + 1) X Y else (n, x.toNat, y.toNat) :: keptF (n + 1) X Y
  | _, _, _ => []
theorem kept_skip {n : Nat} {x y : Int} {X Y : List Int} (h : x < 0 ∨ y < 0) : keptF n (x :: X) (y :: Y) = keptF (n + 1) X Y := if_pos h
theorem kept_take {n p q : Nat} {X Y : List Int} : keptF n ((p : Int) :: X) ((q : Int) :: Y) = (n, p, q) :: keptF (n + 1) X Y := by
  show (if (p : Int) < 0 ∨ (q : Int) < 0 then _ else _) = _
  rw [if_neg (by omega)]; rfl
section
variable {α : Type} [DecidableEq α]
def mgK (a b c : List α) : List (Nat × Nat × Nat) → Nat → Nat → Nat → List (RgA α) → List (RgA α)
  | [], i, j, k, L => addG L (a.drop i) (b.drop j) (c.drop k)
  | (n, p, q) :: t, i, j, k, L => mgK a b c t (n + 1) (p + 1) (q + 1) (addL (addG L ((a.drop i).take (n - i)) ((b.drop j).take (p - j)) ((c.drop k).take (q - k))) ((a.drop n).take 1))
theorem mgK_eq (a b c : List α) : ∀ (X Y : List Int) (n i j k : Nat) (L : List (RgA α)), mgI a b c (X.zip Y) n i j k L = mgK a b c (keptF n X Y) i j k L
  | [], Y, n, i, j, k, L => by cases Y <;> rfl
  | x :: X, [], n, i, j, k, L => rfl
  | x :: X, y :: Y, n, i, j, k, L => by
    show (if x < 0 ∨ y < 0 then _ else _) = _
    by_cases h : x < 0 ∨ y < 0
    · rw [if_pos h, kept_skip h]
      exact mgK_eq a b c X Y (n + 1) i j k L
    · rw [if_neg h]
      have e : keptF n (x :: X) (y :: Y) = (n, x.toNat, y.toNat) :: keptF (n + 1) X Y := if_neg h
      rw [e]
      exact mgK_eq a b c X Y (n + 1) _ _ _ _
end
def incK (la lb lc : Nat) : Nat → Nat → Nat → List (Nat × Nat × Nat) → Prop
  | i, j, k, [] => i ≤ la ∧ j ≤ lb ∧ k ≤ lc
  | i, j, k, (n, p, q) :: t => i ≤ n ∧ n < la ∧ j ≤ p ∧ p < lb ∧ k ≤ q ∧ q < lc ∧ incK la lb lc (n + 1) (p + 1) (q + 1) t
theorem incK_kept {lb lc : Nat} : ∀ (X Y : List Int) (n i j k la : Nat), i ≤ n → n + X.length ≤ la → incP j lb X → incP k lc Y → incK la lb lc i j k (keptF n X Y)
  | [], Y, n, i, j, k, la, h1, h2, hx, hy => by
    have : keptF n [] Y = [] := by cases Y <;> rfl
    rw [this]
    simp only [List.length_nil] at h2
    exact ⟨by omega, incP_le hx, incP_le hy⟩
  | x :: X, [], n, i, j, k, la, h1, h2, hx, hy => ⟨by omega, incP_le hx, incP_le hy⟩
  | x :: X, y :: Y, n, i, j, k, la, h1, h2, hx, hy => by
    simp only [List.length_cons] at h2
    by_cases h : x < 0 ∨ y < 0
    · rw [kept_skip h]
      exact incK_kept X Y (n + 1) i j k la (by omega) (by omega) (inc_skip hx) (inc_skip hy)
    · obtain ⟨p, rfl, p1, p2, p3⟩ := inc_take hx (by omega)
      obtain ⟨q, rfl, q1, q2, q3⟩ := inc_take hy (by omega)
      rw [kept_take]
      exact ⟨h1, by omega, p1, p2, q1, q2, incK_kept X Y (n + 1) (n + 1) (p + 1) (q + 1) la (Nat.le_refl _) (by omega) p3 q3⟩

/-! ### the iterator -/
theorem own_keepT {w w' : World} {base : Nat} {e : TypeId} {sz n : Nat} {v : Value} {xs : List Value} (h : w.ownsRow base e sz v n xs) (k : KeepT e w w') : w'.ownsRow base e sz v n xs := by
  refine ⟨h.1, ?_⟩
  rcases h.2 with hn | ⟨g, cap, cur, rfl, hb, hg, rest⟩
  · exact .inl hn
  · exact .inr ⟨g, cap, cur, rfl, hb, k g cur hg, rest⟩
theorem below_chain {a w w' : World} (h : Below a.heap.size a w) (hb : Below w.heap.size w w') : Below a.heap.size a w' := h.trans (hb.mono h.size)
theorem below_drew1 {B : Nat} {a w : World} (h : Below B a w) : Below B a w.drew := h.drew
def enc3 (p : Nat × Nat × Nat) : Value := .agg #[.int .i64 p.1, .int .i64 p.2.1, .int .i64 p.2.2]

set_option maxRecDepth 100000 in
set_option maxHeartbeats 2000000 in
theorem kept1_in (n l g : Nat) (hn : 1 ≤ n) (J : List (Nat × Nat × Nat) → World → Prop) (hJ : ∀ pre W W', Below W.heap.size W W' → J pre W → J pre W') (va vb vc : Value) (a b c : List ByteArray) (W : World)
    (ha : Strs W va a) (hb : Strs W vb b) (hc : Strs W vc c) (ha1 : a.length ≤ 1000) (hb1 : b.length ≤ 1000) (hc1 : c.length ≤ 1000)
    (x1 : W.cell? ⟨g, 0, none⟩ = some va) (x2 : W.cell? ⟨g + 1, 0, none⟩ = some vb) (x3 : W.cell? ⟨g + 2, 0, none⟩ = some vc)
    (hY : ∀ pre x W, J pre W → (∃ rest, keptF 0 (plcL a b) (plcL a c) = pre ++ x :: rest) → YieldAt Fence.wide (n - 1) Try.prog l #[enc3 x] W fun e W' => e = .returned (.bool true) ∧ J (pre ++ [x]) W' ∧ KeepT 3 W W')
    (h0 : J [] W) :
    CallsIn Fence.wide n Try.prog 58 #[.func (.yield l) #[] #[], .pointer (some ⟨g, 0, none⟩), .pointer (some ⟨g + 1, 0, none⟩), .pointer (some ⟨g + 2, 0, none⟩)] W fun e W' => (∃ v, e = .returned v) ∧ J (keptF 0 (plcL a b) (plcL a c)) W' := by
  have hlX := plcL_len a b
  have hlY := plcL_len a c
  have C1 : Hid (∀ w', Below W.heap.size W w' → Calls Try.prog 59 #[va, vb] w' fun e w'' => ∃ v, e = .returned v ∧ w''.ownsRow w'.heap.size 3 1 v (plcL a b).length ((plcL a b).map (.int .i64)) ∧ Below w'.heap.size w' w'') :=
    fun w' h => places_any w' _ _ a b (ha.keep (Keeps.of_below h)) (hb.keep (Keeps.of_below h)) ha1 hb1
  have C2 : Hid (∀ w', Below W.heap.size W w' → Calls Try.prog 59 #[va, vc] w' fun e w'' => ∃ v, e = .returned v ∧ w''.ownsRow w'.heap.size 3 1 v (plcL a c).length ((plcL a c).map (.int .i64)) ∧ Below w'.heap.size w' w'') :=
    fun w' h => places_any w' _ _ a c (ha.keep (Keeps.of_below h)) (hc.keep (Keeps.of_below h)) ha1 hc1
  have hinX := Lib.hid (plcL_inc a b)
  have hinY := Lib.hid (plcL_inc a c)
  have HXS : Hid (keptF 0 (plcL a b) (plcL a c) = [] ++ keptF 0 ((plcL a b).drop 0) ((plcL a c).drop 0)) := rfl
  obtain ⟨Aa, ca, rfl, a1, a2⟩ := ha.form
  obtain ⟨Ab, cb, rfl, b1, b2⟩ := hb.form
  obtain ⟨Ac, cc, rfl, e1, e2⟩ := hc.form
  generalize keptF 0 (plcL a b) (plcL a c) = xs at *
  generalize plcL a b = X at *
  generalize plcL a c = Y at *
  have HY := Lib.hid hY
  have HJ := Lib.hid hJ
  have HLX := Lib.hid hlX
  have HLY := Lib.hid hlY
  clear hY hJ ha hb hc hlX hlY
  refine callsIn_of_wp Try.func58 rfl trivial ?_ rfl
  simp only [Try.ntmps58, List.size_toArray, List.length_cons, List.length_nil, Nat.reduceAdd, Nat.reduceSub, Array.replicate_succ, Array.replicate_zero, List.push_toArray, List.append_toArray, List.nil_append, List.cons_append]
  gi_wp2
  have KEY : Hid (∀ w', Below W.heap.size W w' → w'.cell? ⟨g, 0, none⟩ = some (.slice Aa a.length ca) ∧ w'.cell? ⟨g + 1, 0, none⟩ = some (.slice Ab b.length cb) ∧ w'.cell? ⟨g + 2, 0, none⟩ = some (.slice Ac c.length cc)) :=
    fun w' h => ⟨cell_later h x1, cell_later h x2, cell_later h x3⟩
  have k0 : Below W.heap.size W W := Below.refl _ _
  have k1 : Below W.heap.size W W.drew := below_drew1 (Below.refl _ _)
  clear x1 x2 x3
  refine wpIn_wide.2 ?_
  go_region_held3 (fun w' => w'.cell? ⟨g, 0, none⟩ = some (.slice Aa a.length ca) ∧ w'.cell? ⟨g + 1, 0, none⟩ = some (.slice Ab b.length cb) ∧ w'.cell? ⟨g + 2, 0, none⟩ = some (.slice Ac c.length cc)) (first | exact KEY.out _ (by assumption) | go_keep)
    (first
      | (go_at_call_of 59 (Value.slice Ab b.length cb); refine (C1.out _ (by assumption)).mono ?_; rintro e y1 ⟨v1, rfl, o1, t1⟩; have z1 := below_chain (a := W) (by assumption) t1)
      | (go_at_call_of 59 (Value.slice Ac c.length cc); refine (C2.out _ (by assumption)).mono ?_; rintro e y2 ⟨v2, rfl, o2, t2⟩; have z2 := below_chain (a := W) (by assumption) t2))
  have ox := own_below o1 t2
  obtain ⟨Ax, cx, rfl⟩ := own_form o1
  obtain ⟨Ay, cy, rfl⟩ := own_form o2
  have hj0 := HJ.out _ _ _ z2 h0
  obtain ⟨q1, q2, q3⟩ := KEY.out _ z2
  have hszx := y1.heap.size
  clear KEY C1 C2 h0 k0 k1 z1 z2 t1 t2 o1
  generalize y1.heap.size = B1 at *
  generalize W.drew.heap.size = B2 at *
  gi_wp2
  gi_loopw [16] (fun t wr => ∃ (nn : Nat) (pre : List (Nat × Nat × Nat)), t = .int .i64 nn ∧ nn ≤ a.length ∧ Hid (xs = pre ++ keptF nn (X.drop nn) (Y.drop nn)) ∧ wr.ownsRow B2 3 1 (.slice Ax X.length cx) X.length (X.map (.int .i64)) ∧ wr.ownsRow B1 3 1 (.slice Ay Y.length cy) Y.length (Y.map (.int .i64)) ∧ J pre wr) (fun t _ => a.length - (intOf t).toNat)
  case atStart => exact ⟨0, [], rfl, by omega, HXS, ox, o2, hj0⟩
  case round =>
    clear ox o2 hj0 HXS q1 q2 q3
    obtain ⟨nn, pre, rfl, hnn, HX, ox, oy, hj⟩ := hrel
    by_cases hlt : nn < a.length
    · have hlX := HLX.out
      have hlY := HLY.out
      obtain ⟨x, hx⟩ : ∃ x, X[nn]? = some x := ⟨_, List.getElem?_eq_getElem (by omega)⟩
      obtain ⟨y, hy⟩ : ∃ y, Y[nn]? = some y := ⟨_, List.getElem?_eq_getElem (by omega)⟩
      have dx : X.drop nn = x :: X.drop (nn + 1) := by
        obtain ⟨h1, h2⟩ := List.getElem?_eq_some_iff.1 hx
        rw [List.drop_eq_getElem_cons h1, h2]
      have dy : Y.drop nn = y :: Y.drop (nn + 1) := by
        obtain ⟨h1, h2⟩ := List.getElem?_eq_some_iff.1 hy
        rw [List.drop_eq_getElem_cons h1, h2]
      obtain ⟨bx, fx, rfl, cx1⟩ := int_cell (own_cellsAt ox) hx
      obtain ⟨by_, fy, rfl, cy1⟩ := int_cell (own_cellsAt oy) hy
      rw [dx, dy] at HX
      have hnx : (nn : Int) < (X.length : Int) := by omega
      have hny : (nn : Int) < (Y.length : Int) := by omega
      clear hlX hlY hx hy dx dy
      have hn0 : (0 : Int) ≤ (nn : Int) := by omega
      by_cases hx0 : x < 0
      · have HX2 : Hid (xs = pre ++ keptF (nn + 1) (X.drop (nn + 1)) (Y.drop (nn + 1))) := by show _ = _; rw [HX.out, kept_skip (.inl hx0)]
        have hdx : decide ((0 : Int) ≤ x) = false := by simp; omega
        have hjd := fun m => HJ.out pre wr (wr.drewN m) (below_drewN' (Below.refl _ _) m) hj
        have HJD := Lib.hid hjd
        clear HX hjd hx0
        gi_wp2
        refine wpIn_wide.2 ?_
        go_quiet (fail)
        gi_wp2
        go_roundw
        case rel => exact ⟨nn + 1, pre, by go_num, by omega, HX2, own_below ox (below_drewN' (Below.refl _ _) _), own_below oy (below_drewN' (Below.refl _ _) _), HJD.out _⟩
        case measure => simp [intOf]; omega
      · obtain ⟨p, rfl⟩ : ∃ p : Nat, x = (p : Int) := ⟨x.toNat, by omega⟩
        have hdx : decide ((0 : Int) ≤ (p : Int)) = true := by simp
        by_cases hy0 : y < 0
        · have HX2 : Hid (xs = pre ++ keptF (nn + 1) (X.drop (nn + 1)) (Y.drop (nn + 1))) := by show _ = _; rw [HX.out, kept_skip (.inr hy0)]
          have hdy : decide ((0 : Int) ≤ y) = false := by simp; omega
          have hjd := fun m => HJ.out pre wr (wr.drewN m) (below_drewN' (Below.refl _ _) m) hj
          have HJD := Lib.hid hjd
          clear HX hjd hy0 hx0
          gi_wp2
          refine wpIn_wide.2 ?_
          go_quiet (fail)
          gi_wp2
          go_roundw
          case rel => exact ⟨nn + 1, pre, by go_num, by omega, HX2, own_below ox (below_drewN' (Below.refl _ _) _), own_below oy (below_drewN' (Below.refl _ _) _), HJD.out _⟩
          case measure => simp [intOf]; omega
        · obtain ⟨q, rfl⟩ : ∃ q : Nat, y = (q : Int) := ⟨y.toNat, by omega⟩
          have hdy : decide ((0 : Int) ≤ (q : Int)) = true := by simp
          have hxs : xs = pre ++ (nn, p, q) :: keptF (nn + 1) (X.drop (nn + 1)) (Y.drop (nn + 1)) := by rw [HX.out, kept_take]
          have HX2 : Hid (xs = (pre ++ [(nn, p, q)]) ++ keptF (nn + 1) (X.drop (nn + 1)) (Y.drop (nn + 1))) := by show _ = _; rw [hxs, List.append_assoc]; rfl
          obtain ⟨fn, tmps, assign, body, hy, hR⟩ := HY.out pre (nn, p, q) wr.drew (HJ.out _ _ _ (Below.refl _ _).drew hj) ⟨_, hxs⟩
          have hoxd := own_below ox ((Below.refl _ _).drew)
          have hoyd := own_below oy ((Below.refl _ _).drew)
          have HR := Lib.hid hR
          unfold enc3 at hy
          simp only at hy
          clear HX hxs hx0 hy0 hR ox oy hj
          gi_wp2
          refine wpIn_region_still_tail Wid.wide 24 (by kernel_rfl) (by kernel_rfl) (by kernel_rfl) ?_
          simp only [List.take_succ_cons, List.take_zero, List.drop_succ_cons, List.drop_zero]
          repeat still_step
          refine wpStill_nil ?_
          gi_wp2_with fail
          refine HR.out.mono ?_
          rintro e W3 ⟨rfl, hj3, hk3⟩
          have ox3 := own_keepT hoxd hk3
          have oy3 := own_keepT hoyd hk3
          clear hoxd hoyd hk3 HR hy cx1 cy1
          gi_wp2
          go_roundw
          case rel => exact ⟨nn + 1, pre ++ [(nn, p, q)], by go_num, by omega, HX2, ox3, oy3, hj3⟩
          case measure => simp [intOf]; omega
    · have HE : Hid (xs = pre) := by
        show _ = _
        rw [HX.out, List.drop_of_length_le (by have := HLX.out; omega)]
        have : keptF nn [] (Y.drop nn) = [] := by cases Y.drop nn <;> rfl
        rw [this, List.append_nil]
      gi_wp2
      go_end0
      exact ⟨⟨_, rfl⟩, by rw [HE.out]; exact hj⟩
end Go.Proofs.Ythobbcafemkhbaa
