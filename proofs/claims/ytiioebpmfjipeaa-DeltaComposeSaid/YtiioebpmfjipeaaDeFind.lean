/- delta: find, step. -/
import Derived.Test.YtiioebpmfjipeaaDeMem
namespace Go.Proofs.Ytiioebpmfjipeaa
open Go.RowKit

/-- The edge that find answers. -/
def Found (es : List Ed) (own : Nat → Nat) (v : Nat) (c : UInt8) (e0 : Option Nat) : Prop := Seek es own v c e0 ∧ ∀ j y, e0 = some j → es[j]? = some y → y.letter = c

set_option maxRecDepth 100000 in
set_option maxHeartbeats 1000000 in
theorem find_any (w : World) {B g : Nat} {ns : List Nd} {es : List Ed} {own : Nat → Nat} {A : Aut} (M : IdxM w B g ns es) (R : Rep ns es own A) {v : Nat} {x : Nd} (hx : ns[v]? = some x) (c : UInt8) :
    Calls Try.prog 70 #[.pointer (some ⟨g, 0, none⟩), .int .i64 v, .int .u8 c.toNat] w fun e w' => w' = w ∧ ∃ e0, e = .returned (.int .i64 (optI e0)) ∧ Found es own v c e0 := by
  obtain ⟨vn, ve, h⟩ := M
  obtain ⟨gn, cn, rfl, hv, hc1, hc2, n0, n1, n2, n3⟩ := h.node_at hx
  have b0 : w.cell? ⟨g, 0, none⟩ = some (.slice (some ⟨gn, 0, none⟩) ns.length cn) := h.box.cell rfl
  have b1 : w.cell? ⟨g, 1, none⟩ = some ve := h.box.cell rfl
  have hs := Lib.hid (R.seek_start hx c)
  have HR := Lib.hid R
  have H := Lib.hid h
  clear h R n0 n1 n2
  go_enter Try.func70, Try.ntmps70
  go_wp2
  go_loopw [7] (fun i wr => ∃ e0 : Option Nat, i = .int .i64 (optI e0) ∧ Hid (Seek es own v c e0) ∧ wr = w) (fun i _ => (intOf i + 1).toNat)
  case atStart => exact ⟨_, rfl, hs, rfl⟩
  case round =>
    obtain ⟨e0, rfl, hse, rfl⟩ := hrel
    cases e0 with
    | none =>
      simp only [optI_none]
      go_wp2
      go_ret
      exact ⟨rfl, none, rfl, hse.out, fun j y h => (by cases h)⟩
    | some j =>
      obtain ⟨y, hy, hoj⟩ := hse.out.at
      obtain ⟨ge, ce, rfl, hj, hce1, hce2, e0, e1, e2⟩ := H.out.edge_at hy
      simp only [optI_some]
      by_cases hl : y.letter = c
      · have hl' : y.letter.toNat = c.toNat := by rw [hl]
        rw [hl'] at e0
        go_wp2
        go_ret
        exact ⟨rfl, some j, rfl, hse.out, fun j' y' h h' => by cases h; rw [hy] at h'; cases h'; exact hl⟩
      · have hl' : y.letter.toNat ≠ c.toNat := fun e => hl (UInt8.toNat_inj.1 e)
        have hn := Lib.hid (HR.out.seek_next hse.out hy hl)
        have hlt : optI y.next < j := by
          have := (HR.out.next j y hy).2.2
          rw [this]
          cases hq : headOf own (own j) j with
          | none => simp [optI]; omega
          | some q => have := (headOf_some hq).1; simp [optI]; omega
        have hge : -1 ≤ optI y.next := by
          cases y.next with
          | none => simp [optI]
          | some q => simp only [optI]; omega
        generalize y.letter.toNat = l1 at *
        generalize c.toNat = l2 at *
        go_wp2
        go_roundw
        case rel => exact ⟨_, rfl, hn, trivial⟩
        case measure => simp [intOf]; omega

variable {ns : List Nd} {es : List Ed} {own : Nat → Nat} {A : Aut} in
theorem Found.none (R : Rep ns es own A) {v : Nat} (hv : v < ns.length) {c : UInt8} (h : Found es own v c none) : A.go v c = none := R.seek_none hv h.1
variable {ns : List Nd} {es : List Ed} {own : Nat → Nat} {A : Aut} in
theorem Found.some (R : Rep ns es own A) {v j : Nat} {c : UInt8} (h : Found es own v c (some j)) : ∃ y, es[j]? = some y ∧ own j = v ∧ y.letter = c ∧ A.go v c = some y.to := by
  obtain ⟨y, hy, ho⟩ := h.1.at
  have hl := h.2 j y rfl hy
  exact ⟨y, hy, ho, hl, (R.seek_some h.1 hy hl).1⟩

set_option maxRecDepth 100000 in
set_option maxHeartbeats 1000000 in
theorem step_any (w : World) {B g : Nat} {ns : List Nd} {es : List Ed} {own : Nat → Nat} {A : Aut} (M : IdxM w B g ns es) (R : Rep ns es own A) {v : Nat} (hv : v < ns.length) (c : UInt8) :
    Calls Try.prog 55 #[.pointer (some ⟨g, 0, none⟩), .int .i64 v, .int .u8 c.toNat] w fun e w' => w' = w ∧ e = .returned (.int .i64 (optI (A.go v c))) := by
  have hx := List.getElem?_eq_getElem hv
  have HF := find_any w M R hx c
  have hM := Lib.hid M
  have HR := Lib.hid R
  clear M R
  go_enter Try.func55, Try.ntmps55
  go_wp2_with fail
  refine HF.mono ?_
  rintro e w1 ⟨rfl, e0, rfl, hf⟩
  cases e0 with
  | none =>
    have hg := Lib.hid (Found.none HR.out hv hf)
    simp only [optI_none]
    go_wp2
    go_ret
    exact ⟨rfl, by rw [hg.out]; rfl⟩
  | some j =>
    obtain ⟨y, hy, ho, hl, hg'⟩ := Found.some HR.out hf
    have hg := Lib.hid hg'
    clear hg' hl ho
    obtain ⟨vn, ve, h⟩ := hM.out
    obtain ⟨ge, ce, rfl, hj, hce1, hce2, e0, e1, e2⟩ := h.edge_at hy
    have b1 := h.box.cell (j := 1) rfl
    simp only [optI_some]
    go_wp2
    go_ret
    exact ⟨rfl, by rw [hg.out]; rfl⟩
end Go.Proofs.Ytiioebpmfjipeaa
