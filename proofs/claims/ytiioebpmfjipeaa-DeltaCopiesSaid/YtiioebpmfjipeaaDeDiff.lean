/- delta: Source.Diff, Diff. -/
import Derived.Test.YtiioebpmfjipeaaDeIter
namespace Go.Proofs.Ytiioebpmfjipeaa
set_option linter.unusedVariables false
set_option linter.unusedSimpArgs false
open Go.RowKit

theorem diffF_bd {a b : List UInt8} (ha : a.length ≤ 65536) (hb : b.length ≤ 65536) : ∀ f k, (diffF a b f k).length ≤ f ∧ ∀ x ∈ diffF a b f k, OkD x
  | 0, k => ⟨by simp [diffF], fun x hx => by simp [diffF] at hx⟩
  | f + 1, k => by
    by_cases hk : k < b.length
    · obtain ⟨p1, p2⟩ := pick_le a (b.drop k)
      rw [List.length_drop] at p2
      by_cases h4 : 4 ≤ (pick a (b.drop k)).2
      · rw [diffF_copy hk h4]
        obtain ⟨h1, h2⟩ := diffF_bd ha hb f (k + (pick a (b.drop k)).2)
        refine ⟨by rw [List.length_cons]; omega, fun x hx => ?_⟩
        rcases List.mem_cons.1 hx with rfl | hx
        · refine ⟨by simp only; omega, by simp only; omega, by simp only; omega, by simp only; omega, by simp⟩
        · exact h2 x hx
      · rw [diffF_ins hk h4]
        obtain ⟨h1, h2⟩ := diffF_bd ha hb f (k + 1)
        refine ⟨by rw [List.length_cons]; omega, fun x hx => ?_⟩
        rcases List.mem_cons.1 hx with rfl | hx
        · refine ⟨by simp, by simp, by simp, by simp, by simp only [List.length_take]; omega⟩
        · exact h2 x hx
    · rw [diffF_end hk]
      exact ⟨by simp, fun x hx => by simp at hx⟩
theorem own_base {w : World} {B B' sz n : Nat} {e : TypeId} {v : Value} {xs : List Value} (h : w.ownsRow B e sz v n xs) (hb : B' ≤ B) : w.ownsRow B' e sz v n xs := by
  refine ⟨h.1, ?_⟩
  rcases h.2 with hn | ⟨g, cap, cur, rfl, hb2, rest⟩
  · exact .inl hn
  · exact .inr ⟨g, cap, cur, rfl, by omega, rest⟩
/-- A call that answers a row of elements of its own. -/
def RowE (xs : List DOp) (w0 : World) (e : Ending) (w : World) : Prop := ∃ v, e = .returned v ∧ w.ownsRow w0.heap.size 28 3 v xs.length (xs.flatMap dC) ∧ Below w0.heap.size w0 w

set_option maxRecDepth 100000 in
set_option maxHeartbeats 2000000 in
theorem sdiff_any (w : World) {t : List UInt8} {b : ByteArray} {B g : Nat} (hI : IndexP t B g w) (hb : b.size ≤ 65536) (ht : t.length ≤ 65536) :
    Calls Try.prog 31 #[.agg #[.pointer (some ⟨g, 0, none⟩)], .string b] w (RowE (diffD t b.data.toList) w) := by
  have HI := Lib.hid hI
  have hd : decide ((65536 : Int) < (b.size : Int)) = false := by simp; omega
  clear hI
  go_enter Try.func31, Try.ntmps31
  go_wp2_with fail
  obtain ⟨o1, ho1⟩ : ∃ o, o = Obj.cells #[.pointer (some ⟨g, 0, none⟩)] 47 := ⟨_, rfl⟩
  obtain ⟨H, hH⟩ : ∃ H, H = w.heap.size := ⟨_, rfl⟩
  have z1 : (w.alloc (.cells #[.pointer (some ⟨g, 0, none⟩)] 47)).heap.size = w.heap.size + 1 := by simp
  have z2 : ((w.alloc (.cells #[.pointer (some ⟨g, 0, none⟩)] 47)).alloc (.cells #[.string b] 9)).heap.size = w.heap.size + 1 + 1 := by simp
  have z3 : (((w.alloc (.cells #[.pointer (some ⟨g, 0, none⟩)] 47)).alloc (.cells #[.string b] 9)).alloc (.cells #[.pointer (some ⟨g, 0, none⟩)] 45)).heap.size = w.heap.size + 1 + 1 + 1 := by simp
  have x1 := (((Blk.new (w.alloc (.cells #[.pointer (some ⟨g, 0, none⟩)] 47)) #[.string b] 9).alloc (.cells #[.pointer (some ⟨g, 0, none⟩)] 45)).alloc (.cells #[longV (w.heap.size + 1) (w.heap.size + 1 + 1)] 87))
  have x2 := ((Blk.new ((w.alloc (.cells #[.pointer (some ⟨g, 0, none⟩)] 47)).alloc (.cells #[.string b] 9)) #[.pointer (some ⟨g, 0, none⟩)] 45).alloc (.cells #[longV (w.heap.size + 1) (w.heap.size + 1 + 1)] 87))
  have x3 := Blk.new (((w.alloc (.cells #[.pointer (some ⟨g, 0, none⟩)] 47)).alloc (.cells #[.string b] 9)).alloc (.cells #[.pointer (some ⟨g, 0, none⟩)] 45)) #[longV (w.heap.size + 1) (w.heap.size + 1 + 1)] 87
  have k1 := ((((Below.refl w.heap.size w).alloc (Nat.le_refl _) (.cells #[.pointer (some ⟨g, 0, none⟩)] 47)).alloc (by simp) (.cells #[.string b] 9)).alloc (by simp <;> omega) (.cells #[.pointer (some ⟨g, 0, none⟩)] 45)).alloc (by simp <;> omega) (.cells #[longV (w.heap.size + 1) (w.heap.size + 1 + 1)] 87)
  rw [z1] at x1
  rw [z2] at x2
  rw [z3] at x3
  have hI4 := HI.out.below k1
  have hU := diff2_in _ hI4 x1 x2 x3 hb ht
  obtain ⟨hl, hok⟩ := diffF_bd (b := b.data.toList) ht (by simpa using hb) (b.data.toList.length + 1) 0
  have hbl : b.data.toList.length = b.size := by simp
  have CJ := join_any _ 56 #[.pointer (some ⟨w.heap.size + 1, 0, none⟩), .pointer (some ⟨w.heap.size + 1 + 1 + 1, 0, none⟩)] (enters_of Try.func56 (by kernel_rfl) rfl) _ hok (by omega) hU
  unfold longV at CJ k1
  have CJ' := Lib.hid CJ
  have K1 := Lib.hid k1
  clear CJ k1 x1 x2 x3 hI4 hU hl hok z1 z2 z3 HI hbl
  refine CJ'.out.mono ?_
  rintro e w5 ⟨v, rfl, hr, hb5⟩
  have HE : RowE (diffD t b.data.toList) w (.returned v) w5 := ⟨v, rfl, own_base hr K1.out.size, K1.out.trans (hb5.mono K1.out.size)⟩
  have HE' := Lib.hid HE
  clear HE hr hb5 CJ' K1 hH ho1
  go_wp2
  go_ret
  exact HE'.out

set_option maxRecDepth 100000 in
set_option maxHeartbeats 2000000 in
theorem diff_any (w : World) (a b : ByteArray) (ha : a.size ≤ 65536) (hb : b.size ≤ 65536) :
    Calls Try.prog 15 #[.string a, .string b] w (RowE (diffD a.data.toList b.data.toList) w) := by
  have hd : decide ((65536 : Int) < (a.size : Int)) = false := by simp; omega
  have CN := Lib.hid (newSource_any w a ha)
  go_enter Try.func15, Try.ntmps15
  go_wp2_with fail
  refine CN.out.mono ?_
  rintro e w1 ⟨B, g, hB, rfl, hI, hb1⟩
  have CS := Lib.hid (sdiff_any w1 (b := b) hI hb (by simpa using ha))
  have HB := Lib.hid hb1
  clear CN hI hb1 hB
  go_wp2_with fail
  refine CS.out.mono ?_
  rintro e w2 ⟨v, rfl, hr, hb2⟩
  have HE : RowE (diffD a.data.toList b.data.toList) w (.returned v) w2 := ⟨v, rfl, own_base hr HB.out.size, HB.out.trans (hb2.mono HB.out.size)⟩
  have HE' := Lib.hid HE
  clear HE hr hb2 HB CS
  go_wp2
  go_ret
  exact HE'.out
end Go.Proofs.Ytiioebpmfjipeaa
