/- delta: newIndex, NewSource. -/
import Derived.Test.YtiioebpmfjipeaaDeExt
namespace Go.Proofs.Ytiioebpmfjipeaa
set_option linter.unusedVariables false
set_option linter.unusedSimpArgs false
open Go.RowKit

theorem Rep.start : Rep [⟨0, none, 0, none⟩] [] (fun _ => 0) Aut.start := by
  refine ⟨fun v => ?_, fun v x hx => ?_, fun e x hx => by simp at hx, fun e x hx => by simp at hx, fun v c u _ h => (by cases h), fun e _ x _ hx => by simp at hx⟩
  · show v = 0 ↔ v < 1
    omega
  · have hv := (List.getElem?_eq_some_iff.1 hx).1
    simp only [List.length_cons, List.length_nil] at hv
    obtain rfl : v = 0 := by omega
    cases hx
    exact ⟨rfl, rfl, rfl, rfl⟩
theorem take_snoc (s : ByteArray) (k : Nat) (h : k < s.size) : s.data.toList.take (k + 1) = s.data.toList.take k ++ [s[k]] := by
  rw [List.take_succ_eq_append_getElem (by simpa using h)]; rfl
/-- An index of a text, in memory. -/
def IndexP (t : List UInt8) (B g : Nat) (w : World) : Prop := ∃ m last, ExtR t B g m last w
def NewE (t : List UInt8) (w0 : World) (e : Ending) (w : World) : Prop := ∃ g, e = .returned (.pointer (some ⟨g, 0, none⟩)) ∧ IndexP t w0.heap.size g w ∧ Below w0.heap.size w0 w

set_option maxRecDepth 100000 in
set_option maxHeartbeats 2000000 in
theorem newIndex_any (w : World) (s : ByteArray) (hs : s.size ≤ 65536) :
    Calls Try.prog 53 #[.string s] w (NewE s.data.toList w) := by
  have h0 : ExtR [] w.heap.size (w.heap.size + 1) 1 0 ((w.alloc (.cells #[.int .i64 0, .int .i64 (-1), .int .i64 0, .int .i64 (-1)] 82)).alloc (.cells #[.slice (some ⟨w.heap.size, 0, none⟩) 1 1, .slice none 0 0] 86)) := by
    refine ⟨[⟨0, none, 0, none⟩], [], _, Aut.start, _, ⟨.slice (some ⟨w.heap.size, 0, none⟩) 1 1, .slice none 0 0, ⟨?_, by omega, ?_, World.ownsRow_nil _ _ _ _⟩⟩, Rep.start, Aut.start_inv, by simp⟩
    · have := heap_alloc_new (w.alloc (.cells #[.int .i64 0, .int .i64 (-1), .int .i64 0, .int .i64 (-1)] 82)) (.cells #[.slice (some ⟨w.heap.size, 0, none⟩) 1 1, .slice none 0 0] 86)
      rwa [World.size_alloc] at this
    · refine World.ownsRow.alloc ⟨rfl, .inr ⟨w.heap.size, 1, #[.int .i64 0, .int .i64 (-1), .int .i64 0, .int .i64 (-1)], rfl, Nat.le_refl _, heap_alloc_new w _, Nat.le_refl _, by unfold maxLen; omega, rfl, rfl⟩⟩ _
  have hb0 := ((Below.refl w.heap.size w).alloc (Nat.le_refl _) (.cells #[.int .i64 0, .int .i64 (-1), .int .i64 0, .int .i64 (-1)] 82)).alloc (by simp) (.cells #[.slice (some ⟨w.heap.size, 0, none⟩) 1 1, .slice none 0 0] 86)
  have H0 := Lib.hid h0
  have HB := Lib.hid hb0
  clear h0 hb0
  go_enter Try.func53, Try.ntmps53
  go_wp2
  go_loopw [4, 12] (fun la i wr => ∃ k last : Nat, k ≤ s.size ∧ i = .int .i64 k ∧ la = .int .i64 last ∧ ExtR (s.data.toList.take k) w.heap.size (w.heap.size + 1) (2 * k + 1) last wr ∧ Below w.heap.size w wr) (fun _ i _ => s.size - (intOf i).toNat)
  case atStart => exact ⟨0, 0, by omega, rfl, rfl, H0.out, HB.out⟩
  case round =>
    obtain ⟨k, la, hk, rfl, rfl, hE, hB⟩ := hrel
    clear H0 HB
    by_cases hlt : k < s.size
    · obtain ⟨ns, es, own, A, L, M, R, I, hl⟩ := hE
      have hlen : (s.data.toList.take k).length ≤ k := List.length_take_le _ _
      have CE := extend_any wr (c := s[k]) M R I (by omega) (by omega)
      rw [← take_snoc s k hlt] at CE
      have CE' := Lib.hid CE
      have HB' := Lib.hid hB
      clear M R I hB CE
      go_wp2_with fail
      refine CE'.out.mono ?_
      rintro e w1 ⟨last', rfl, hE, hb1⟩
      have HB2 := Lib.hid (HB'.out.trans hb1)
      have HE2 := Lib.hid hE
      clear hE hb1
      go_wp2
      go_roundw
      case rel =>
        refine ⟨k + 1, last', by omega, by go_num, rfl, ?_, HB2.out⟩
        obtain ⟨ns2, es2, own2, A2, L2, M2, R2, I2, hl2⟩ := HE2.out
        exact ⟨ns2, es2, own2, A2, L2, M2, R2, I2, by omega⟩
      case measure => simp [intOf]; omega
    · have hks : k = s.size := by omega
      have HP : NewE s.data.toList w (.returned (.pointer (some ⟨w.heap.size + 1, 0, none⟩))) wr := ⟨_, rfl, ⟨_, _, by
        have := hE
        rw [List.take_of_length_le (by simp; omega)] at this
        exact this⟩, hB⟩
      have HP' := Lib.hid HP
      clear HP hE hB hks
      go_wp2
      go_ret
      exact HP'.out
theorem bytes_whole (s : ByteArray) : s.extract 0 s.size = s := by
  apply ByteArray.ext
  simp
def SrcE (t : List UInt8) (w0 : World) (e : Ending) (w : World) : Prop := ∃ B g, w0.heap.size ≤ B ∧ e = .returned (.agg #[.pointer (some ⟨g, 0, none⟩)]) ∧ IndexP t B g w ∧ Below w0.heap.size w0 w
set_option maxRecDepth 100000 in
set_option maxHeartbeats 2000000 in
theorem newSource_any (w : World) (s : ByteArray) (hs : s.size ≤ 65536) :
    Calls Try.prog 30 #[.string s] w (SrcE s.data.toList w) := by
  have CN := Lib.hid (newIndex_any (w.alloc (.cells #[.pointer none] 47)) s hs)
  have hm : min s.size 65536 = s.size := by omega
  have hx := bytes_whole s
  have hle : (s.size : Int) ≤ 65536 := by omega
  go_enter Try.func30, Try.ntmps30
  go_wp2_with fail
  refine CN.out.mono ?_
  rintro e w1 ⟨g, rfl, hI, hb⟩
  have hbx := (Blk.new w #[.pointer none] 47).keep hb
  have c0 := hbx.cell (j := 0) rfl
  have f0 := hbx.frozen 0
  have hb2 : Below w.heap.size w (w1.setCell ⟨w.heap.size, 0, none⟩ (.pointer (some ⟨g, 0, none⟩))) := (((Below.refl _ _).alloc (Nat.le_refl _) _).trans (hb.mono (by simp))).setCell (p := ⟨w.heap.size, 0, none⟩) (Nat.le_refl _) _
  have hI2 : IndexP s.data.toList (w.alloc (.cells #[.pointer none] 47)).heap.size g (w1.setCell ⟨w.heap.size, 0, none⟩ (.pointer (some ⟨g, 0, none⟩))) := by
    obtain ⟨m, la, ns, es, own, A, L, ⟨vn, ve, HV⟩, R, I, hl⟩ := hI
    have hb0 : w.heap.size < (w.alloc (.cells #[.pointer none] 47)).heap.size := by simp
    refine ⟨m, la, ns, es, own, A, L, ⟨vn, ve, HV.box.far (p := ⟨w.heap.size, 0, none⟩) (by have := HV.base; simp only; omega) _, HV.base, ?_, ?_⟩, R, I, hl⟩
    · exact own_stab (M := fun b => b = w.heap.size) HV.nodes (fun b hb e => by have := (HV.nodes.lt b hb).1; omega) _ (Agree.set1 w1 w.heap.size 0 _)
    · exact own_stab (M := fun b => b = w.heap.size) HV.edges (fun b hb e => by have := (HV.edges.lt b hb).1; omega) _ (Agree.set1 w1 w.heap.size 0 _)
  have HE : SrcE s.data.toList w (.returned (.agg #[.pointer (some ⟨g, 0, none⟩)])) (w1.setCell ⟨w.heap.size, 0, none⟩ (.pointer (some ⟨g, 0, none⟩))) := ⟨_, g, by simp, rfl, hI2, hb2⟩
  have HE' := Lib.hid HE
  have d0 := ((hbx.set 0 (.pointer (some ⟨g, 0, none⟩)))).cell (j := 0) rfl
  clear HE hI2 hI hb2 hb hbx CN hx hm
  go_wp2
  trace_state
  exact bodyPost_ret (v := .agg #[.pointer (some ⟨g, 0, none⟩)]) (by simp [results, Try.results30, go_sem, d0]) rfl HE'.out
end Go.Proofs.Ytiioebpmfjipeaa
