/- The reference's Great. -/
import Derived.Test.YtiioebpmfjipeaaDeSame
namespace Go.Proofs.Ytiioebpmfjipeaa
set_option linter.unusedVariables false
set_option linter.unusedSimpArgs false
open Go.RowKit

/-- Larger than the statements examine. -/
def greatX (x : DOp) : Prop := 100 < x.data.length ∨ (100 < x.len ∧ x.len ≤ 65536)
instance (x : DOp) : Decidable (greatX x) := by unfold greatX; exact inferInstance
def greatB (xs : List DOp) : Bool := decide (30 < xs.length) || xs.any fun x => decide (greatX x)
theorem greatB_false {xs : List DOp} (h : greatB xs = false) : xs.length ≤ 30 ∧ ∀ x ∈ xs, x.data.length ≤ 100 ∧ (100 < x.len → 65536 < x.len) := by
  unfold greatB at h
  rw [Bool.or_eq_false_iff] at h
  refine ⟨by have := of_decide_eq_false h.1; omega, fun x hx => ?_⟩
  have := List.any_eq_false.1 h.2 x hx
  simp only [decide_eq_true_eq] at this
  unfold greatX at this
  exact ⟨by omega, by omega⟩

set_option maxRecDepth 100000 in
set_option maxHeartbeats 2000000 in
theorem great_any (w : World) {va : Value} {xs : List DOp} (ha : Dls w va xs) :
    Calls Try.prog 17 #[va] w fun e w' => e = .returned (.bool (greatB xs)) ∧ w = w' := by
  obtain ⟨A, c, rfl, h1, h2⟩ := ha.form
  by_cases hn : 30 < xs.length
  · have hg : greatB xs = true := by unfold greatB; simp [hn]
    rw [hg]
    have hd : decide ((30 : Int) < (xs.length : Int)) = true := by simp; omega
    clear ha hg
    go_enter Try.func17, Try.ntmps17
    go_wp2
    go_ret
    exact ⟨rfl, rfl⟩
  · have hd : decide ((30 : Int) < (xs.length : Int)) = false := by simp; omega
    have HT : Hid (∀ (k : Nat) (x : DOp), xs[k]? = some x → greatX x → greatB xs = true) := fun k x hx hg => by
      unfold greatB
      rw [Bool.or_eq_true]
      exact .inr (List.any_eq_true.2 ⟨x, List.mem_of_getElem? hx, decide_eq_true hg⟩)
    have HF : Hid ((∀ (k : Nat) (x : DOp), k < xs.length → xs[k]? = some x → ¬ greatX x) → greatB xs = false) := fun h => by
      unfold greatB
      rw [Bool.or_eq_false_iff]
      refine ⟨decide_eq_false hn, List.any_eq_false.2 fun x hx => ?_⟩
      obtain ⟨k, hk⟩ := List.mem_iff_getElem?.1 hx
      simp only [decide_eq_true_eq]
      exact h k x (List.getElem?_eq_some_iff.1 hk).1 hk
    have HA := Lib.hid ha
    generalize greatB xs = r at *
    clear ha
    go_enter Try.func17, Try.ntmps17
    go_wp2
    go_loop [3] (fun i => ∃ k : Nat, k ≤ xs.length ∧ i = .int .i64 k ∧ Hid (∀ (j : Nat) (x : DOp), j < k → xs[j]? = some x → ¬ greatX x)) (fun i => xs.length - (intOf i).toNat)
    case atStart => exact ⟨0, by omega, rfl, fun j x hj => by omega⟩
    case round =>
      obtain ⟨k, hk, rfl, HK⟩ := hrel
      by_cases hlt : k < xs.length
      · obtain ⟨x, hx⟩ : ∃ x, xs[k]? = some x := ⟨_, List.getElem?_eq_getElem hlt⟩
        obtain ⟨b1, o1, rfl, c0, c1, c2⟩ := HA.out.get hx
        have hz := strB_size x.data
        have HX := Lib.hid hx
        clear hx
        by_cases g1 : 100 < x.data.length
        · have d1 : decide ((100 : Int) < ((strB x.data).size : Int)) = true := by rw [hz]; simp; omega
          have HR := Lib.hid (HT.out k x HX.out (.inl g1))
          clear hz HT HF HK
          go_wp2
          go_ret
          exact ⟨by rw [HR.out]; rfl, rfl⟩
        · have d1 : decide ((100 : Int) < ((strB x.data).size : Int)) = false := by rw [hz]; simp; omega
          by_cases g2 : 100 < x.len
          · have d2 : decide ((100 : Int) < x.len) = true := by simpa using g2
            by_cases g3 : x.len ≤ 65536
            · have d3 : decide (x.len ≤ 65536) = true := by simpa using g3
              have HR := Lib.hid (HT.out k x HX.out (.inr ⟨g2, g3⟩))
              clear hz HT HF HK
              go_wp2
              go_ret
              exact ⟨by rw [HR.out]; rfl, rfl⟩
            · have d3 : decide (x.len ≤ 65536) = false := by simpa using g3
              have HN : Hid (∀ (j : Nat) (y : DOp), j < k + 1 → xs[j]? = some y → ¬ greatX y) := fun j y hj hy => by
                rcases Nat.lt_or_ge j k with h | h
                · exact HK.out j y h hy
                · have : j = k := by omega
                  subst this
                  rw [HX.out] at hy; cases hy
                  unfold greatX; omega
              clear hz HT HF HK
              go_wp2
              go_round
              case rel => exact ⟨k + 1, by omega, by go_num, HN⟩
              case measure => simp [intOf]; omega
          · have d2 : decide ((100 : Int) < x.len) = false := by simpa using g2
            have HN : Hid (∀ (j : Nat) (y : DOp), j < k + 1 → xs[j]? = some y → ¬ greatX y) := fun j y hj hy => by
              rcases Nat.lt_or_ge j k with h | h
              · exact HK.out j y h hy
              · have : j = k := by omega
                subst this
                rw [HX.out] at hy; cases hy
                unfold greatX; omega
            clear hz HT HF HK
            go_wp2
            go_round
            case rel => exact ⟨k + 1, by omega, by go_num, HN⟩
            case measure => simp [intOf]; omega
      · have HR := Lib.hid (HF.out fun j x hj hx => HK.out j x (by omega) hx)
        clear HT HF HK
        go_wp2
        go_ret
        exact ⟨by rw [HR.out]; rfl, rfl⟩
end Go.Proofs.Ytiioebpmfjipeaa
