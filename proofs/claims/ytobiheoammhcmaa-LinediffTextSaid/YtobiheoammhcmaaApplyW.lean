/- linediff.Apply: the walk. -/
import Derived.Test.YtobiheoammhcmaaClosW
import Derived.Test.YtobiheoammhcmaaMetricP
import Derived.Test.YtobiheoammhcmaaAwake
namespace Go.Proofs.Ytobiheoammhcmaa
open Go.RowKit

section
variable {α : Type} [DecidableEq α]
def preR (out : List α) : Except Int (List α) → Except Int (List α)
  | .ok r => .ok (out ++ r)
  | .error c => .error c
def resL : Except Int (List α) → List α
  | .ok r => r
  | .error _ => []
def resC : Except Int (List α) → Int
  | .ok _ => 0
  | .error c => c
variable {full : Except Int (List α)} {a out : List α} {k i m : Nat} {hs : List (Int × List α × List α)} {n : Int} {o e : List α}
theorem ap_end (h : full = preR out (apR a k (hs.drop i))) (hi : ¬ i < hs.length) : full = .ok (out ++ a.drop k) := by
  rw [h, List.drop_of_length_le (by omega)]; rfl
theorem ap_order (h : full = preR out (apR a k (hs.drop i))) (hi : i < hs.length) (he : hs[i] = (n, o, e)) (h1 : n < (k : Int)) : full = .error 10 := by
  rw [h, List.drop_eq_getElem_cons hi, he, apR, if_pos h1]; rfl
theorem ap_range (h : full = preR out (apR a k (hs.drop i))) (hi : i < hs.length) (he : hs[i] = ((m : Int), o, e)) (h1 : k ≤ m) (h2 : a.length < m + o.length) : full = .error 2 := by
  rw [h, List.drop_eq_getElem_cons hi, he, apR, if_neg (by omega), if_pos (by omega)]; rfl
theorem ap_mis (h : full = preR out (apR a k (hs.drop i))) (hi : i < hs.length) (he : hs[i] = ((m : Int), o, e)) (h1 : k ≤ m) (h2 : m + o.length ≤ a.length) (h3 : ¬ (a.drop m).take o.length = o) : full = .error 11 := by
  rw [h, List.drop_eq_getElem_cons hi, he, apR, if_neg (by omega), if_neg (by omega), if_pos (by simpa using h3)]; rfl
theorem ap_go (h : full = preR out (apR a k (hs.drop i))) (hi : i < hs.length) (he : hs[i] = ((m : Int), o, e)) (h1 : k ≤ m) (h2 : m + o.length ≤ a.length) (h3 : (a.drop m).take o.length = o) :
    full = preR (out ++ (a.drop k).take (m - k) ++ e) (apR a (m + o.length) (hs.drop (i + 1))) := by
  rw [h, List.drop_eq_getElem_cons hi, he, apR, if_neg (by omega), if_neg (by omega), if_neg (by simpa using h3), Int.toNat_natCast]
  cases apR a (m + o.length) (hs.drop (i + 1)) with
  | ok r => simp [preR]
  | error c => rfl
end

theorem strs_empty (w : World) (A : Option Addr) (c : Nat) (hc : c ≤ maxLen) : Strs w (.slice A 0 c) [] := ⟨A, c, [], rfl, by simp, hc, CellsAt.nil _ _, rfl⟩
def ApPost (W : World) (r : Except Int (List ByteArray)) (e : Ending) (w' : World) : Prop :=
  ∃ v c, e = .returned (.tuple #[v, .int .i64 c]) ∧ Strs w' v (resL r) ∧ c = resC r ∧ Below W.heap.size W w'
def ApRel (W : World) (xs : List ByteArray) (hs : List Hk) (full : Except Int (List ByteArray)) (v s t : Value) (wr : World) : Prop :=
  ∃ (k i : Nat) (out : List ByteArray), s = .int .i64 k ∧ t = .int .i64 i ∧ k ≤ xs.length ∧ i ≤ hs.length ∧ Ow wr W.heap.size 9 1 Str1 v out ∧ out.length ≤ k + i * 100000 ∧
    Hid (full = preR out (apR xs k (hs.drop i))) ∧ Below W.heap.size W wr

theorem strs_cells {w : World} {A : Option Addr} {n c : Nat} {xs : List ByteArray} (h : Strs w (.slice A n c) xs) : CellsAt w A (xs.map .string) := (StrsB.of_strs h).cellsAt
theorem ow_append {w' : World} {B : Nat} {v' : Value} {out xs : List ByteArray} {oc : List Value} {k : Nat} (he : Elems 1 Str1 out oc) (hk : k = xs.length)
    (h : w'.ownsRow B 9 1 v' (out.length + k) (oc ++ xs.map .string)) : Ow w' B 9 1 Str1 v' (out ++ xs) :=
  ⟨_, by subst hk; simpa using h, he.append (elems_strs xs)⟩

set_option maxRecDepth 100000 in
set_option maxHeartbeats 2000000 in
theorem apply_any (W : World) (va vl : Value) (xs : List ByteArray) (hs : List Hk) (ha : Strs W va xs) (hl : Hks W vl hs)
    (hx : xs.length ≤ 100000) (hn : hs.length ≤ 100000) (hb : ∀ h ∈ hs, h.2.1.length ≤ 100000 ∧ h.2.2.length ≤ 100000) :
    Calls Try.prog 20 #[va, vl] W (ApPost W (apR xs 0 hs)) := by
  obtain ⟨i0, hi, hz0, hz1, hz2⟩ := info_parts Try.info_str
  obtain ⟨A, c, rfl, hc, hm⟩ := ha.form
  obtain ⟨L, d, rfl, hc', hm'⟩ := hl.form
  have HB := Lib.hid hb
  clear hb
  generalize hfull : apR xs 0 hs = full
  have HF0 : Hid (full = preR [] (apR xs 0 (hs.drop 0))) := by
    show _ = _
    rw [← hfull, List.drop_zero]
    cases apR xs 0 hs <;> rfl
  clear hfull
  go_enter Try.func20, Try.ntmps20
  go_wp2
  go_loopw [6, 7, 12] (fun v s t wr => ApRel W xs hs full v s t wr) (fun _ _ t _ => hs.length - (intOf t).toNat)
  case atStart => exact ⟨0, 0, [], rfl, rfl, by omega, by omega, Ow.nil _ _ _ _ _, by simp, HF0, Below.refl _ _⟩
  case round =>
    obtain ⟨k, i, out, rfl, rfl, hk, hin, how, hol, HF, hd⟩ := hrel
    by_cases hlt : i < hs.length
    · obtain ⟨b, off, vo, vn, rfl, a1, a2, a3, a4, a5, a6, a7⟩ := hl.get hlt
      have hbd := HB.out _ (List.getElem_mem hlt)
      rcases hhe : hs[i] with ⟨n, o, e⟩
      rw [hhe] at a1 a4 a5 a6 a7 hbd
      simp only at a1 a4 a5 a6 a7 hbd
      have HE := Lib.hid hhe
      clear hhe
      obtain ⟨Ao, co, rfl, o1, o2⟩ := a4.form
      obtain ⟨An, cn, rfl, e1, e2⟩ := a5.form
      have b1 := (Keeps.of_below hd) _ _ _ a1
      have b2 := (Keeps.of_below hd) _ _ _ a2
      have b3 := (Keeps.of_below hd) _ _ _ a3
      have hsz := hd.size
      by_cases h1 : n < (k : Int)
      · go_wp2
        go_ret2
        exact ⟨_, _, rfl, by rw [ap_order HF.out hlt HE.out h1]; exact Sl.nil _ _ _, by rw [ap_order HF.out hlt HE.out h1]; rfl, hd.alloc hsz _⟩
      · obtain ⟨m, rfl⟩ := Int.eq_ofNat_of_zero_le (show 0 ≤ n by omega)
        have h1' : decide ((m : Int) < (k : Int)) = false := by simp; omega
        have z1 : IntKind.i64.wrap ((xs.length : Int) - (o.length : Int)) = (xs.length : Int) - (o.length : Int) := i64w (by omega) (by omega)
        by_cases h2 : (xs.length : Int) - (o.length : Int) < (m : Int)
        · go_wp2
          go_ret2
          exact ⟨_, _, rfl, by rw [ap_range HF.out hlt HE.out (by omega) (by omega)]; exact Sl.nil _ _ _, by rw [ap_range HF.out hlt HE.out (by omega) (by omega)]; rfl, hd.alloc hsz _⟩
        · have h2' : decide ((xs.length : Int) - (o.length : Int) < (m : Int)) = false := by simp; omega
          obtain ⟨A1, c1, r1, s1⟩ := run_at_both' (P := Try.prog) (sz := 1) (R := Str1) 22 9 i0 Try.underlying22 hi hz1 (A := A) hc .i64 .i64 m (m + o.length) (by omega) (by omega)
          rw [show ((m + o.length : Nat) : Int) = (m : Int) + (o.length : Int) by simp] at r1
          rw [Nat.add_sub_cancel_left] at r1 s1
          have z2 : IntKind.i64.wrap ((m : Int) + (o.length : Int)) = (m : Int) + (o.length : Int) := i64w (by omega) (by omega)
          have C1 : Hid (∀ w' n, Below W.heap.size W w' → Calls Try.prog 35 #[.slice A1 o.length c1, .slice Ao o.length co] (w'.drewN n) fun e w2 => e = .returned (.bool (eqB ((xs.drop m).take o.length) o)) ∧ Drawn (w'.drewN n) w2) := fun w' n h =>
            equal_any _ _ _ _ _ (s1 _ xs (ha.keep (Keeps.of_below (below_drewN' h n)))) (a4.keep (Keeps.of_below (below_drewN' h n)))
          have H1 := Lib.hid (show k ≤ m by omega)
          have H2 := Lib.hid (show m + o.length ≤ xs.length by omega)
          have hbk := Blk.new wr #[.int .i64 (m : Int), .slice Ao o.length co, .slice An e.length cn] 32
          have hd1 := hd.alloc hsz (.cells #[.int .i64 (m : Int), .slice Ao o.length co, .slice An e.length cn] 32)
          have how1 := Ow.keep how (grown_of_below ((Below.refl wr.heap.size wr).alloc (Nat.le_refl _) (.cells #[.int .i64 (m : Int), .slice Ao o.length co, .slice An e.length cn] 32))) (fun _ _ h => h)
          clear hd how
          go_upto_region 6 with (fail)
          generalize wr.alloc (.cells #[.int .i64 (m : Int), .slice Ao o.length co, .slice An e.length cn] 32) = w1 at *
          generalize wr.heap.size = g at *
          have q1 := hbk.cell (j := 0) rfl
          have q2 := hbk.cell (j := 1) rfl
          have q3 := hbk.cell (j := 2) rfl
          by_cases h3 : (xs.drop m).take o.length = o
          · rw [eqB_true h3] at C1
            have H3 := Lib.hid h3
            clear h3 b1 b2 b3
            go_wp2
            go_quiet ((first
              | (go_at_call 35; exact quiet_drawn (C1.out w1 _ hd1))))
            rename Nat => nq
            have hdq := below_drewN' hd1 nq
            have hbq := hbk.drewN nq
            have howq : Ow (w1.drewN nq) W.heap.size 9 1 Str1 u6 out := how1
            clear hd1 hbk how1 q1 q2 q3 C1 r1 s1
            generalize w1.drewN nq = wq at *
            have q1 := hbq.cell (j := 0) rfl
            obtain ⟨oc, hoo, hoe⟩ := howq
            obtain ⟨A2, c2, r2, s2⟩ := run_at_both' (P := Try.prog) (sz := 1) (R := Str1) 22 9 i0 Try.underlying22 hi hz1 (A := A) hc .i64 .i64 k m H1.out (by have := H2.out; omega)
            have S2 := strs_cells (s2 _ xs (ha.keep (Keeps.of_below hdq)))
            have hB := hdq.size
            have hkm : k ≤ m := H1.out
            have hml : m + o.length ≤ xs.length := H2.out
            have lm : ((xs.drop k).take (m - k)).length = m - k := by simp; omega
            generalize hmid : (xs.drop k).take (m - k) = mid at *
            have HM := Lib.hid hmid
            clear hmid
            go_wp2_with (at_builtin; go_must (refine wpList_append_any _ rfl (.tmp 43) (.tmp 48) _ rfl W.heap.size 9 i0 _ 1 16 Try.underlying22 hi hz0 hz1 hz2 rfl (by omega) u6 out.length oc rfl hoo A2 (m - k) c2 (mid.map .string) rfl (by simp [lm]) S2 (by simp [Value.oneCell']) (by omega) (by omega) hB ?_))
            intro v1 w2 hown hgr hat
            have lt1 := fun g' h => (hoo.lt g' h).1
            have hd2 := hdq.grown hgr hB lt1
            have hb2 := hbq.grown hgr (own_ne_type hoo hbq (by decide)).symm
            have how2 : Ow w2 W.heap.size 9 1 Str1 v1 (out ++ mid) := ow_append hoe lm.symm hown
            clear hdq hbq hoo hoe r2 s2 S2 hB hown hgr hat lt1 q1
            have q1 := hb2.cell (j := 0) rfl
            have q2 := hb2.cell (j := 1) rfl
            have q3 := hb2.cell (j := 2) rfl
            obtain ⟨oc2, hoo, hoe⟩ := how2
            have S3 := strs_cells (a5.keep (Keeps.of_below hd2))
            have hB := hd2.size
            have lom : (out ++ mid).length = out.length + (m - k) := by simp [lm]
            generalize hou : out ++ mid = out2 at *
            have HO := Lib.hid hou
            clear hou
            go_wp2_with (at_builtin; go_must (refine wpList_append_any _ rfl (.tmp 50) (.tmp 52) _ rfl W.heap.size 9 i0 _ 1 16 Try.underlying22 hi hz0 hz1 hz2 rfl (by omega) v1 out2.length oc2 rfl hoo An e.length cn (e.map .string) rfl (by simp) S3 (by simp [Value.oneCell']) (by omega) (by omega) hB ?_))
            intro v2 w3 hown hgr hat
            have lt1 := fun g' h => (hoo.lt g' h).1
            have hd3 := hd2.grown hgr hB lt1
            have hb3 := hb2.grown hgr (own_ne_type hoo hb2 (by decide)).symm
            have how3 : Ow w3 W.heap.size 9 1 Str1 v2 (out2 ++ e) := ow_append hoe rfl (by rw [lom]; exact hown)
            clear hd2 hb2 hoo hoe S3 hB hown hgr hat lt1 q1 q2 q3
            have q1 := hb3.cell (j := 0) rfl
            have q2 := hb3.cell (j := 1) rfl
            have hf := ap_go HF.out hlt HE.out H1.out H2.out H3.out
            rw [HM.out, HO.out] at hf
            have HG := Lib.hid hf
            clear hf
            go_wp2
            go_roundw
            case rel => exact ⟨m + o.length, i + 1, out2 ++ e, by go_num, by go_num, hml, by omega, how3, by simp [lom]; omega, HG, hd3⟩
            case measure => simp [intOf] <;> omega
          · rw [eqB_false h3] at C1
            have H3 := Lib.hid h3
            clear h3 b1 b2 b3
            go_wp2
            go_quiet ((first
              | (go_at_call 35; exact quiet_drawn (C1.out w1 _ hd1))))
            rename Nat => nq
            have hdq := below_drewN' hd1 nq
            go_wp2
            go_ret2
            exact ⟨_, _, rfl, by rw [ap_mis HF.out hlt HE.out H1.out H2.out H3.out]; exact Sl.nil _ _ _, by rw [ap_mis HF.out hlt HE.out H1.out H2.out H3.out]; rfl, hdq⟩
    · obtain ⟨A2, c2, r2, s2⟩ := run_at_from (P := Try.prog) 22 9 i0 Try.underlying22 hi hz1 W ha .i64 k hk
      have S2 := strs_cells (Strs.keep s2 (Keeps.of_below hd))
      obtain ⟨oc, hoo, hoe⟩ := how
      have hB := hd.size
      go_wp2_with (at_builtin; go_must (refine wpList_append_any _ rfl (.tmp 61) (.tmp 64) _ rfl W.heap.size 9 i0 _ 1 16 Try.underlying22 hi hz0 hz1 hz2 rfl (by omega) u6 out.length oc rfl hoo A2 (xs.length - k) c2 ((xs.drop k).map .string) rfl (by simp) S2 (by intro u hu; obtain ⟨x, _, rfl⟩ := List.mem_map.1 hu; rfl) (by omega) (by omega) hB ?_))
      intro v1 w2 hown hgr hat
      have hd2 := hd.grown hgr hB (fun g' h => (hoo.lt g' h).1)
      have how2 : Ow w2 W.heap.size 9 1 Str1 v1 (out ++ xs.drop k) := ow_append hoe (List.length_drop (i := k) (l := xs)).symm (by rw [List.map_drop]; exact hown)
      have hf := ap_end HF.out hlt
      clear hoo hoe hown hgr hat r2 s2 S2 hB
      go_wp2
      go_ret2
      exact ⟨_, _, rfl, by rw [hf]; exact how2.sl, by rw [hf]; rfl, hd2⟩
end Go.Proofs.Ytobiheoammhcmaa
