/- cordwoodref18.Lines: the walk. -/
import Derived.Test.YthobbcafemkhbaaLinesP
import Derived.Test.YthobbcafemkhbaaApplyW
namespace Go.Proofs.Ythobbcafemkhbaa
open Go.RowKit

section
variable {l : List UInt8} {f i : Nat} {full out : List (List UInt8)}
theorem cur_succ (hf : f ≤ i) (hi : i < l.length) : (l.drop f).take (i + 1 - f) = (l.drop f).take (i - f) ++ [l[i]] := by
  rw [show i + 1 - f = (i - f) + 1 by omega, List.take_add_one, List.getElem?_drop, show f + (i - f) = i by omega, List.getElem?_eq_getElem hi]
  rfl
theorem rl_line (h : full = out ++ linesF ((l.drop f).take (i - f)) (l.drop i)) (hf : f ≤ i) (hi : i < l.length) (hc : l[i] = 10 ∨ i + 1 = l.length) :
    full = (out ++ [(l.drop f).take (i + 1 - f)]) ++ linesF ((l.drop (i + 1)).take (i + 1 - (i + 1))) (l.drop (i + 1)) := by
  rw [h, List.drop_eq_getElem_cons hi, cur_succ hf hi, Nat.sub_self, List.take_zero, linesF]
  by_cases h1 : l[i] = 10
  · rw [if_pos h1, h1, List.append_assoc]; rfl
  · have hle : l.length ≤ i + 1 := by
      rcases hc with hc | hc
      · exact absurd hc h1
      · omega
    have he : l.drop (i + 1) = [] := List.drop_of_length_le hle
    rw [if_neg h1, he, linesF, if_neg (by simp), List.append_assoc]; rfl
theorem rl_go (h : full = out ++ linesF ((l.drop f).take (i - f)) (l.drop i)) (hf : f ≤ i) (hi : i < l.length) (hc : ¬ l[i] = 10) :
    full = out ++ linesF ((l.drop f).take (i + 1 - f)) (l.drop (i + 1)) := by
  rw [h, List.drop_eq_getElem_cons hi, cur_succ hf hi, linesF, if_neg hc]
theorem rl_end (h : full = out ++ linesF ((l.drop f).take (i - f)) (l.drop i)) (hf : f = i) (hi : ¬ i < l.length) : full = out := by
  subst hf
  rw [h, List.drop_of_length_le (by omega), Nat.sub_self]
  simp [linesF]
end

theorem bytes_cut (b : ByteArray) (f k : Nat) : (⟨((b.data.toList.drop f).take (k - f)).toArray⟩ : ByteArray) = b.extract f k := by
  apply ByteArray.ext
  apply Array.toList_inj.1
  simp
def RlRel (W : World) (l : List UInt8) (full : List (List UInt8)) (v s t : Value) (wr : World) : Prop :=
  ∃ (f i : Nat) (out : List (List UInt8)), s = .int .i64 f ∧ t = .int .i64 i ∧ f ≤ i ∧ i ≤ l.length ∧ out.length ≤ i ∧ (i = l.length → f = i) ∧
    wr.ownsRow W.heap.size 9 1 v out.length (out.map fun x => .string ⟨x.toArray⟩) ∧ Hid (full = out ++ linesF ((l.drop f).take (i - f)) (l.drop i)) ∧ Below W.heap.size W wr

set_option maxRecDepth 100000 in
set_option maxHeartbeats 2000000 in
theorem rlines_any (s : ByteArray) (hs : s.size ≤ 1000000000) (W : World) :
    Calls Try.prog 19 #[.string s] W fun e w' => ∃ v, e = .returned v ∧ w'.ownsRow W.heap.size 9 1 v (lines s.data.toList).length ((lines s.data.toList).map fun x => .string ⟨x.toArray⟩) ∧ Below W.heap.size W w' := by
  obtain ⟨i0, hi, hz0, hz1, hz2⟩ := info_parts Try.info_str
  have hsl : s.data.toList.length = s.size := rfl
  have HF0 : Hid (lines s.data.toList = [] ++ linesF ((s.data.toList.drop 0).take (0 - 0)) (s.data.toList.drop 0)) := rfl
  generalize lines s.data.toList = full at *
  go_enter Try.func19, Try.ntmps19
  go_wp2
  go_loopw [3, 4, 5] (fun v f t wr => RlRel W s.data.toList full v f t wr) (fun _ _ t _ => s.size - (intOf t).toNat)
  case atStart => exact ⟨0, 0, [], rfl, rfl, by omega, by omega, by simp, fun _ => rfl, by simpa using (Blk.new W #[] 9).own (Nat.le_refl _) (cap := 0) (sz := 1) (n := 0) rfl (by unfold maxLen; omega) (by omega), HF0, (Below.refl _ _).alloc (Nat.le_refl _) _⟩
  case round =>
    obtain ⟨f, i, out, rfl, rfl, hfi, hil, hol, hfe, hown, HF, hd⟩ := hrel
    by_cases hlt : i < s.data.toList.length
    · have hlt' : i < s.size := by omega
      have hge : s[i] = s.data.toList[i] := by simp [ByteArray.getElem_eq_getElem_data]
      have z1 : IntKind.i64.wrap ((i : Int) + 1) = (i : Int) + 1 := i64w (by omega) (by omega)
      have z2 : IntKind.i64.wrap ((s.size : Int) - 1) = (s.size : Int) - 1 := i64w (by omega) (by omega)
      have hsz := hd.size
      by_cases hc : s.data.toList[i] = 10
      · have hb : (((s[i].toNat : Nat) : Int) == 10) = true := by rw [hge, hc]; rfl
        have HC : Hid (s.data.toList[i] = 10 ∨ i + 1 = s.data.toList.length) := .inl hc
        clear hc hge
        go_wp2_with (at_builtin; go_must (refine wpList_append_any _ rfl (.tmp 24) (.tmp 30) _ rfl W.heap.size 9 i0 _ 1 16 Try.underlying36 hi hz0 hz1 hz2 rfl (by omega) u3 out.length (out.map fun x => .string ⟨x.toArray⟩) rfl (hown.alloc _) _ 1 1 [.string (s.extract f (i + 1))] rfl rfl (CellsAt.of_new _ _ _ _) (by simp [Value.oneCell']) (by omega) (by omega) (by have := hd.size; simp; omega) ?_; intro v1 w2 hown1 hgr hat))
        have hd2 := (hd.alloc hsz (.cells #[.string (s.extract f (i + 1))] 9)).grown hgr (by simp; omega) (fun g' h => (hown.lt g' h).1)
        have hown2 : w2.ownsRow W.heap.size 9 1 v1 (out ++ [(s.data.toList.drop f).take (i + 1 - f)]).length ((out ++ [(s.data.toList.drop f).take (i + 1 - f)]).map fun x => .string ⟨x.toArray⟩) := by
          rw [List.map_append, List.length_append, List.map_cons, List.map_nil, bytes_cut]
          exact hown1
        have hf := rl_line HF.out hfi hlt HC.out
        exact ⟨⟨i + 1, i + 1, _, by go_num, by go_num, by omega, by omega, by simp; omega, fun _ => rfl, hown2, hf, hd2⟩, by simp [intOf]; omega⟩
      · have hb : (((s[i].toNat : Nat) : Int) == 10) = false := by
          rw [hge]
          have : s.data.toList[i].toNat ≠ 10 := fun e => hc (UInt8.toNat_inj.1 e)
          exact beq_eq_false_iff_ne.2 (by omega)
        have HN := Lib.hid hc
        clear hc hge
        by_cases hl : i + 1 = s.size
        · have hb2 : ((i : Int) == (s.size : Int) - 1) = true := by simp; omega
          have HC : Hid (s.data.toList[i] = 10 ∨ i + 1 = s.data.toList.length) := .inr hl
          clear hl
          go_wp2_with (at_builtin; go_must (refine wpList_append_any _ rfl (.tmp 24) (.tmp 30) _ rfl W.heap.size 9 i0 _ 1 16 Try.underlying36 hi hz0 hz1 hz2 rfl (by omega) u3 out.length (out.map fun x => .string ⟨x.toArray⟩) rfl (hown.alloc _) _ 1 1 [.string (s.extract f (i + 1))] rfl rfl (CellsAt.of_new _ _ _ _) (by simp [Value.oneCell']) (by omega) (by omega) (by have := hd.size; simp; omega) ?_; intro v1 w2 hown1 hgr hat))
          have hd2 := (hd.alloc hsz (.cells #[.string (s.extract f (i + 1))] 9)).grown hgr (by simp; omega) (fun g' h => (hown.lt g' h).1)
          have hown2 : w2.ownsRow W.heap.size 9 1 v1 (out ++ [(s.data.toList.drop f).take (i + 1 - f)]).length ((out ++ [(s.data.toList.drop f).take (i + 1 - f)]).map fun x => .string ⟨x.toArray⟩) := by
            rw [List.map_append, List.length_append, List.map_cons, List.map_nil, bytes_cut]
            exact hown1
          have hf := rl_line HF.out hfi hlt HC.out
          exact ⟨⟨i + 1, i + 1, _, by go_num, by go_num, by omega, by omega, by simp; omega, fun _ => rfl, hown2, hf, hd2⟩, by simp [intOf]; omega⟩
        · have hb2 : ((i : Int) == (s.size : Int) - 1) = false := by simp; omega
          go_wp2
          have hf := rl_go HF.out hfi hlt HN.out
          exact ⟨⟨f, i + 1, out, rfl, by go_num, by omega, by omega, by omega, fun e => by omega, hown, hf, hd⟩, by simp [intOf]; omega⟩
    · go_wp2
      go_ret
      have hf := rl_end HF.out (hfe (by omega)) hlt
      exact ⟨_, rfl, by rw [hf]; exact hown, hd⟩
end Go.Proofs.Ythobbcafemkhbaa
