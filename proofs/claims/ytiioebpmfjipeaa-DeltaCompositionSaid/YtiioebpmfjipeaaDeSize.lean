/- delta: total, Size; the reference's Size. -/
import Derived.Test.YtiioebpmfjipeaaDeRchk
import Derived.Test.YtiioebpmfjipeaaDeGreat
namespace Go.Proofs.Ytiioebpmfjipeaa
set_option linter.unusedVariables false
set_option linter.unusedSimpArgs false
open Go.RowKit

def sumD : List DOp → Int
  | [] => 0
  | x :: l => szD x + sumD l
def sizeD (xs : List DOp) : Int := if checkD xs 65536 = 0 then sumD xs else 0
theorem sumD_append : ∀ (a b : List DOp), sumD (a ++ b) = sumD a + sumD b
  | [], b => by simp [sumD]
  | x :: a, b => by
    show szD x + sumD (a ++ b) = szD x + sumD a + sumD b
    rw [sumD_append a b]; omega
theorem szD_pos (x : DOp) : 0 ≤ szD x := by
  unfold szD
  split <;> omega
theorem sumD_pos : ∀ (a : List DOp), 0 ≤ sumD a
  | [] => Int.le_refl _
  | x :: a => by
    have := szD_pos x
    have := sumD_pos a
    show 0 ≤ szD x + sumD a
    omega
theorem sumD_take {xs : List DOp} {k : Nat} {x : DOp} (hx : xs[k]? = some x) : sumD (xs.take (k + 1)) = sumD (xs.take k) + szD x := by
  obtain ⟨h, rfl⟩ := List.getElem?_eq_some_iff.1 hx
  rw [List.take_succ_eq_append_getElem h, sumD_append]
  simp [sumD]
/-- What a delta that fits is. -/
theorem checkF_ok {n : Int} : ∀ (xs : List DOp) (p : Int), p ≤ 65536 → checkF n p xs = 0 → (∀ x ∈ xs, (x.cp ∨ x.ins) ∧ (x.cp → 0 ≤ x.off ∧ x.off + x.len ≤ n)) ∧ p + sumD xs ≤ 65536
  | [], p, hp, _ => ⟨fun x hx => by simp at hx, by show p + 0 ≤ _; omega⟩
  | x :: xs, p, hp, h => by
    have h' : (if ¬ x.cp ∧ ¬ x.ins then (1 : Int) else if x.cp ∧ (x.off < 0 ∨ n < x.len ∨ n - x.len < x.off) then 2 else if 65536 - p < szD x then 4 else checkF n (p + szD x) xs) = 0 := h
    split at h'
    · cases h'
    · rename_i h1
      split at h'
      · cases h'
      · rename_i h2
        split at h'
        · cases h'
        · rename_i h3
          obtain ⟨k1, k2⟩ := checkF_ok xs (p + szD x) (by omega) h'
          refine ⟨fun y hy => ?_, by show p + (szD x + sumD xs) ≤ _; omega⟩
          rcases List.mem_cons.1 hy with rfl | hy
          · refine ⟨?_, fun hc => ?_⟩
            · by_cases hc : y.cp
              · exact .inl hc
              · by_cases hin : y.ins
                · exact .inr hin
                · exact absurd ⟨hc, hin⟩ h1
            · have : ¬ (y.off < 0 ∨ n < y.len ∨ n - y.len < y.off) := fun h => h2 ⟨hc, h⟩
              omega
          · exact k1 y hy
theorem checkD_ok {xs : List DOp} {n : Int} (h : checkD xs n = 0) : (0 ≤ n ∧ n ≤ 65536) ∧ (∀ x ∈ xs, (x.cp ∨ x.ins) ∧ (x.cp → 0 ≤ x.off ∧ x.off + x.len ≤ n)) ∧ sumD xs ≤ 65536 := by
  unfold checkD at h
  split at h
  · cases h
  · obtain ⟨h1, h2⟩ := checkF_ok xs 0 (by omega) h
    exact ⟨by omega, h1, by omega⟩
theorem sumD_prefix (xs : List DOp) (k : Nat) : sumD (xs.take k) ≤ sumD xs := by
  have h := sumD_append (xs.take k) (xs.drop k)
  rw [List.take_append_drop] at h
  have := sumD_pos (xs.drop k)
  omega

set_option maxRecDepth 100000 in
set_option maxHeartbeats 2000000 in
theorem total_any (w : World) {va : Value} {xs : List DOp} (ha : Dls w va xs) (hs : sumD xs ≤ 9000000000000000000) :
    Calls Try.prog 38 #[va] w (CheckE (sumD xs) w) := by
  obtain ⟨A, c, rfl, h1, h2⟩ := ha.form
  have HA := Lib.hid ha
  have HP : Hid (∀ k, sumD (xs.take k) ≤ sumD xs) := sumD_prefix xs
  have HE0 : Hid (sumD (xs.take xs.length) = sumD xs) := by show _ = _; rw [List.take_length]
  clear ha
  go_enter Try.func38, Try.ntmps38
  go_wp2
  go_loopw [3, 8] (fun sm i wr => ∃ k : Nat, k ≤ xs.length ∧ i = .int .i64 k ∧ sm = .int .i64 (sumD (xs.take k)) ∧ Below w.heap.size w wr) (fun _ i _ => xs.length - (intOf i).toNat)
  case atStart => exact ⟨0, by omega, rfl, rfl, Below.refl _ _⟩
  case round =>
    obtain ⟨k, hk, rfl, rfl, hbw⟩ := hrel
    by_cases hlt : k < xs.length
    · obtain ⟨x, hx⟩ : ∃ x, xs[k]? = some x := ⟨_, List.getElem?_eq_getElem hlt⟩
      obtain ⟨b1, o1, rfl, c0, c1, c2⟩ := (HA.out.keep (Keeps.of_below hbw)).get hx
      have hn := sumD_take hx
      have hle := HP.out (k + 1)
      have hp0 := sumD_pos (xs.take k)
      have hp1 := szD_pos x
      rw [hn] at hle
      have HN := Lib.hid hn
      have hal := (Below.refl wr.heap.size wr).alloc (Nat.le_refl _) (.cells #[.int .i64 x.off, .int .i64 x.len, .string (strB x.data)] 28)
      have CZ := size_any x (wr.alloc (.cells #[.int .i64 x.off, .int .i64 x.len, .string (strB x.data)] 28))
      unfold dV at CZ
      generalize szD x = z at *
      have CZ' := Lib.hid CZ
      have HB := Lib.hid (hbw.trans (hal.mono hbw.size))
      clear CZ hn hx hal hbw
      generalize hs0 : sumD (xs.take k) = s0 at *
      clear hs0
      go_wp2_with fail
      refine CZ'.out.mono ?_
      rintro e w2 ⟨rfl, hb2⟩
      have HB2 := Lib.hid (HB.out.trans (hb2.mono HB.out.size))
      clear hb2 HB CZ' c0 c1 c2
      go_wp2
      go_roundw
      case rel => exact ⟨k + 1, by omega, by go_num, by rw [HN.out], HB2.out⟩
      case measure => simp [intOf]; omega
    · have hke : k = xs.length := by omega
      subst hke
      have HE : CheckE (sumD xs) w (.returned (.int .i64 (sumD (xs.take xs.length)))) wr := ⟨by rw [HE0.out], hbw⟩
      have HE' := Lib.hid HE
      clear HE hbw
      go_wp2
      go_ret
      exact HE'.out

set_option maxRecDepth 100000 in
set_option maxHeartbeats 2000000 in
theorem size_all (w : World) {va : Value} {xs : List DOp} (ha : Dls w va xs) (hi : ∀ x ∈ xs, Int64 x.off ∧ Int64 x.len ∧ x.data.length ≤ 9000000000000000000) :
    Calls Try.prog 20 #[va] w (CheckE (sizeD xs) w) := by
  have CK := Lib.hid (check_any w ha 65536 hi)
  obtain ⟨A, c, rfl, h1, h2⟩ := ha.form
  by_cases hc : checkD xs 65536 = 0
  · have hr : sizeD xs = sumD xs := if_pos hc
    rw [hr]
    rw [hc] at CK
    have hs := (checkD_ok hc).2.2
    have HA := Lib.hid ha
    clear hr hc ha hi
    go_enter Try.func20, Try.ntmps20
    go_wp2_with fail
    refine CK.out.mono ?_
    rintro e w1 ⟨rfl, hb1⟩
    have CT := Lib.hid (total_any w1 (HA.out.keep (Keeps.of_below hb1)) (by omega))
    have HB := Lib.hid hb1
    clear CK hb1
    go_wp2_with fail
    refine CT.out.mono ?_
    rintro e w2 ⟨rfl, hb2⟩
    have HE := Lib.hid (show CheckE (sumD xs) w (.returned (.int .i64 (sumD xs))) w2 from ⟨rfl, HB.out.trans (hb2.mono HB.out.size)⟩)
    clear hb2 HB CT
    go_wp2
    go_ret
    exact HE.out
  · have hr : sizeD xs = 0 := if_neg hc
    rw [hr]
    have hne : ((checkD xs 65536) != 0) = true := by simpa using hc
    generalize checkD xs 65536 = q at *
    clear hr hc ha hi
    go_enter Try.func20, Try.ntmps20
    go_wp2_with fail
    refine CK.out.mono ?_
    rintro e w1 ⟨rfl, hb1⟩
    have HE := Lib.hid (show CheckE 0 w (.returned (.int .i64 0)) w1 from ⟨rfl, hb1⟩)
    clear hb1 CK
    go_wp2
    go_ret
    exact HE.out

set_option maxRecDepth 100000 in
set_option maxHeartbeats 2000000 in
theorem rsize_all (w : World) {va : Value} {xs : List DOp} (ha : Dls w va xs) (hi : ∀ x ∈ xs, Int64 x.off ∧ Int64 x.len ∧ x.data.length ≤ 9000000000000000000) :
    Calls Try.prog 21 #[va] w (CheckE (sizeD xs) w) := by
  have CK := Lib.hid (rcheck_any w ha 65536 hi)
  obtain ⟨A, c, rfl, h1, h2⟩ := ha.form
  by_cases hc : checkD xs 65536 = 0
  · have hr : sizeD xs = sumD xs := if_pos hc
    rw [hr]
    rw [hc] at CK
    obtain ⟨_, hval, hs⟩ := checkD_ok hc
    have HV := Lib.hid hval
    have HA := Lib.hid ha
    have HP : Hid (∀ k, sumD (xs.take k) ≤ sumD xs) := sumD_prefix xs
    have HE0 : Hid (sumD (xs.take xs.length) = sumD xs) := by show _ = _; rw [List.take_length]
    clear hr hc ha hi hval
    go_enter Try.func21, Try.ntmps21
    go_wp2_with fail
    refine CK.out.mono ?_
    rintro e w1 ⟨rfl, hb1⟩
    have HB1 := Lib.hid hb1
    clear CK hb1
    go_wp2
    go_loopw [3, 4] (fun sm i wr => ∃ k : Nat, k ≤ xs.length ∧ i = .int .i64 k ∧ sm = .int .i64 (sumD (xs.take k)) ∧ Below w.heap.size w wr) (fun _ i _ => xs.length - (intOf i).toNat)
    case atStart => exact ⟨0, by omega, rfl, rfl, HB1.out⟩
    case round =>
      clear HB1
      obtain ⟨k, hk, rfl, rfl, hbw⟩ := hrel
      by_cases hlt : k < xs.length
      · obtain ⟨x, hx⟩ : ∃ x, xs[k]? = some x := ⟨_, List.getElem?_eq_getElem hlt⟩
        obtain ⟨b1, o1, rfl, c0, c1, c2⟩ := (HA.out.keep (Keeps.of_below hbw)).get hx
        have hn := sumD_take hx
        have hf := (HV.out x (List.mem_of_getElem? hx)).1
        have hzf := szD_form hf
        have hl0 : 0 ≤ x.len := hf.elim (fun h => Int.le_of_lt h.1) (fun h => by have := h.1; omega)
        have hle := HP.out (k + 1)
        have hp0 := sumD_pos (xs.take k)
        rw [hn, hzf] at hle
        rw [hzf] at hn
        have hz := strB_size x.data
        have HN : Hid (sumD (xs.take (k + 1)) = sumD (xs.take k) + x.len + ((strB x.data).size : Int)) := by show _ = _; rw [hn, hz]; omega
        have hle2 : sumD (xs.take k) + x.len + ((strB x.data).size : Int) ≤ 65536 := by rw [hz]; omega
        have HBD : Hid (∀ m, Below w.heap.size w (wr.drewN m)) := fun m => hbw.trans (((Drawn.refl wr).drewN m).below _)
        clear hn hzf hle hz hf hx hbw
        generalize hs0 : sumD (xs.take k) = s0 at *
        clear hs0
        have hw1 : IntKind.i64.wrap (s0 + x.len) = s0 + x.len := i64w (by omega) (by omega)
        have hw2 : IntKind.i64.wrap (s0 + x.len + (strB x.data).size) = s0 + x.len + (strB x.data).size := i64w (by omega) (by omega)
        go_wp2
        go_quiet (fail)
        go_wp2
        go_roundw
        case rel => exact ⟨k + 1, by omega, by go_num, by rw [HN.out], HBD.out _⟩
        case measure => simp [intOf]; omega
      · have hke : k = xs.length := by omega
        subst hke
        have HE : CheckE (sumD xs) w (.returned (.int .i64 (sumD (xs.take xs.length)))) wr := ⟨by rw [HE0.out], hbw⟩
        have HE' := Lib.hid HE
        clear HE hbw
        go_wp2
        go_ret
        exact HE'.out
  · have hr : sizeD xs = 0 := if_neg hc
    rw [hr]
    have hne : ((checkD xs 65536) != 0) = true := by simpa using hc
    generalize checkD xs 65536 = q at *
    clear hr hc ha hi
    go_enter Try.func21, Try.ntmps21
    go_wp2_with fail
    refine CK.out.mono ?_
    rintro e w1 ⟨rfl, hb1⟩
    have HE := Lib.hid (show CheckE 0 w (.returned (.int .i64 0)) w1 from ⟨rfl, hb1⟩)
    clear hb1 CK
    go_wp2
    go_ret
    exact HE.out
end Go.Proofs.Ytiioebpmfjipeaa
