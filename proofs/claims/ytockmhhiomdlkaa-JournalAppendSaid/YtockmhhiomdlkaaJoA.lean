/- journal: sectorsFor, half, first, padded, check. journal: decodeFrame. journal: encodeFrame. journal: frames$1, the frames of an area. journal: what open needs: strings.Join, frames, what it computes in one line. -/
import Derived.Test.YtockmhhiomdlkaaCod
import Derived.Test.YtockmhhiomdlkaaJnAll
import Derived.Test.YtockmhhiomdlkaaDkB
import Derived.Test.YtockmhhiomdlkaaGen
namespace Go.Proofs.Ytockmhhiomdlkaa
set_option linter.unusedVariables false
set_option linter.unusedSimpArgs false
open Go.RowKit

theorem tdiv_nat (a b : Nat) : (a : Int).tdiv (b : Int) = ((a / b : Nat) : Int) := by
  rw [Int.tdiv_eq_ediv_of_nonneg (by omega)]; rfl
set_option maxHeartbeats 400000 in
theorem sectorsFor_any (c z : Nat) (hz : 1 ≤ z) (hc : c + z ≤ 1000000000000) (w : World) : Calls Try.prog 85 #[.int .i64 c, .int .i64 z] w fun e w' => e = .returned (.int .i64 (need c z)) ∧ w = w' := by
  have h1 : IntKind.i64.wrap ((c : Int) + z) = ((c + z : Nat) : Int) := by rw [i64w (by omega) (by omega)]; omega
  have h2 : IntKind.i64.wrap (((c + z : Nat) : Int) - 1) = ((c + z - 1 : Nat) : Int) := by rw [i64w (by omega) (by omega)]; omega
  have h3 : ((c : Int) + z - 1) / (z : Int) = ((need c z : Nat) : Int) := by
    rw [show (c : Int) + z - 1 = ((c + z - 1 : Nat) : Int) by omega]; rfl
  have h5 : need c z ≤ c + z - 1 := Nat.div_le_self _ _
  have h4 : IntKind.i64.wrap ((need c z : Nat) : Int) = ((need c z : Nat) : Int) := i64w (by omega) (by omega)
  have h6 : ((z : Int) == 0) = false := by simp; omega
  generalize need c z = r at *
  go_enter Try.func85, Try.ntmps85
  go_wp2
  go_ret
  exact ⟨by simp [*], rfl⟩

/-- Disks whose number of sectors fits. -/
theorem half_int (n : Nat) (hn : n ≤ 9223372036854775807) : ((n : Int) - 1).tdiv 2 = (halfN n : Int) := by
  unfold halfN
  cases n with
  | zero => decide
  | succ n =>
    rw [show ((n + 1 : Nat) : Int) - 1 = (n : Int) by omega, show (n : Int).tdiv 2 = ((n / 2 : Nat) : Int) from tdiv_nat n 2]
    simp
set_option maxHeartbeats 400000 in
theorem half_any (W : World) (vs vp : Value) (d : Dk) (h : DskP W vs vp d) : Calls Try.prog 35 #[.agg #[.int .i64 d.size, vs, vp, .int .i64 d.left]] W (ErrPost W (halfN d.secs.length)) := by
  obtain ⟨A, c, rfl, hc, hm⟩ := h.sec.form
  obtain ⟨P, cp, rfl, hcp, hmp⟩ := h.pen.form
  have hn : d.secs.length ≤ 9223372036854775807 := by omega
  have HH := Lib.hid (half_int d.secs.length hn)
  go_enter Try.func35, Try.ntmps35
  go_wp2
  go_ret
  exact ⟨by have := HH.out; simp_all, (Below.refl _ _).alloc (Nat.le_refl _) _⟩
theorem first_w {n a : Nat} (hn : n ≤ 1000) (ha : 1 ≤ a ∧ a ≤ 2) : (a : Int) - 1 = ((a - 1 : Nat) : Int) ∧ (((a - 1 : Nat) : Int) * (halfN n : Int)) = (((a - 1) * halfN n : Nat) : Int) ∧ (1 : Int) + (((a - 1) * halfN n : Nat) : Int) = ((firstS n a : Nat) : Int) ∧ halfN n ≤ 1000 ∧ (a - 1) * halfN n ≤ 1000 ∧ firstS n a ≤ 1001 := by
  have h1 : halfN n ≤ 1000 := by unfold halfN; omega
  have h2 : (a - 1) * halfN n ≤ 1 * halfN n := Nat.mul_le_mul_right _ (by omega)
  refine ⟨by omega, by rw [Int.natCast_mul], ?_, h1, by omega, ?_⟩
  · unfold firstS; omega
  · unfold firstS; omega
set_option maxHeartbeats 400000 in
theorem first_any (W : World) (vs vp : Value) (d : Dk) (h : DskP W vs vp d) (hn : d.secs.length ≤ 1000) (a : Nat) (ha : 1 ≤ a ∧ a ≤ 2) :
    Calls Try.prog 36 #[.agg #[.int .i64 d.size, vs, vp, .int .i64 d.left], .int .i64 a] W (ErrPost W (firstS d.secs.length a)) := by
  have hb0 := h.form
  obtain ⟨A, c, P, cp, rfl, rfl, hc, hcp, hm, hmp⟩ := hb0
  have K1 := (Below.refl W.heap.size W).alloc (Nat.le_refl _) (.cells #[.int .i64 d.size, .slice A d.secs.length c, .slice P d.pend.length cp, .int .i64 d.left] 25)
  have CH := Lib.hid (half_any (W.alloc (.cells #[.int .i64 d.size, .slice A d.secs.length c, .slice P d.pend.length cp, .int .i64 d.left] 25)) _ _ d (h.keep (Keeps.of_below K1)))
  have HK := Lib.hid K1
  obtain ⟨f1, f2, f3, f4, f5, f6⟩ := first_w (n := d.secs.length) hn ha
  generalize firstS d.secs.length a = R at *
  generalize (a - 1) * halfN d.secs.length = M at *
  clear K1
  go_enter Try.func36, Try.ntmps36
  go_wp2_with fail
  refine CH.out.mono ?_
  rintro e w1 ⟨rfl, hb⟩
  have HB := Lib.hid (HK.out.trans (hb.mono (by simp)))
  clear hb CH HK
  go_wp2
  go_ret
  exact ⟨by simp_all, HB.out⟩

theorem padT_len {sz : Nat} {t : Txt} (h : t.length ≤ sz) : (padT sz t).length = sz := by
  unfold padT
  rw [List.length_append, List.length_replicate]; omega
theorem strB_nul (t : Txt) (n : Nat) : strB t ++ nulB n = strB (t ++ List.replicate n 0) := by
  have : nulB n = strB (List.replicate n 0) := by
    apply ByteArray.ext
    simp [nulB, strB]
  rw [this, strB_append]
set_option maxHeartbeats 400000 in
theorem padded_any (t : Txt) (z : Nat) (ht : t.length ≤ z) (hz : z ≤ 1000) (w : World) : Calls Try.prog 48 #[.string (strB t), .int .i64 z] w fun e w' => e = .returned (.string (strB (padT z t))) ∧ Below w.heap.size w w' := by
  have CR := Lib.hid (repeat_any (z - t.length) (by omega) w)
  have hz1 := strB_size t
  have h1 : (z : Int) - (t.length : Int) = ((z - t.length : Nat) : Int) := by omega
  have h2 := nulB_size (z - t.length)
  have HS := Lib.hid (strB_nul t (z - t.length))
  have hsz : ¬ 9223372036854775807 < (strB t).size + (nulB (z - t.length)).size := by rw [hz1, h2]; omega
  go_enter Try.func48, Try.ntmps48
  go_wp2_with fail
  try rw [h1]
  refine CR.out.mono ?_
  rintro e w1 ⟨rfl, hb⟩
  have HB := Lib.hid hb
  clear hb CR
  go_wp2
  go_ret
  exact ⟨by rw [HS.out]; rfl, HB.out⟩

set_option maxRecDepth 100000 in
set_option maxHeartbeats 1000000 in
theorem jcheck_any (W : World) (vs vp : Value) (d : Dk) (h : DskP W vs vp d) : Calls Try.prog 47 #[.agg #[.int .i64 d.size, vs, vp, .int .i64 d.left]] W (ErrPost W (chkJ d)) := by
  have hb0 := h.form
  obtain ⟨A, c, P, cp, rfl, rfl, hc, hcp, hm, hmp⟩ := hb0
  have K1 := (Below.refl W.heap.size W).alloc (Nat.le_refl _) (.cells #[.int .i64 d.size, .slice A d.secs.length c, .slice P d.pend.length cp, .int .i64 d.left] 25)
  have CH := Lib.hid (check_any (W.alloc (.cells #[.int .i64 d.size, .slice A d.secs.length c, .slice P d.pend.length cp, .int .i64 d.left] 25)) _ _ d (h.keep (Keeps.of_below K1)))
  have HK := Lib.hid K1
  have hbk := Blk.new W #[.int .i64 d.size, .slice A d.secs.length c, .slice P d.pend.length cp, .int .i64 d.left] 25
  have HD : Hid (chkJ d = if chk d ≠ 0 then chk d else if d.secs.length < 3 then 2 else 0) := rfl
  generalize chkJ d = R at *
  generalize chk d = Q at *
  clear K1
  go_enter Try.func47, Try.ntmps47
  go_wp2_with fail
  refine CH.out.mono ?_
  rintro e w1 ⟨rfl, hb⟩
  have HB := Lib.hid (HK.out.trans (hb.mono (by simp)))
  have hbk1 := hbk.keep hb
  have q1 := hbk1.cell (j := 1) rfl
  have hlt := hbk1.lt
  clear hb CH HK hbk hbk1
  by_cases hq : Q = 0
  · subst hq
    by_cases h3 : d.secs.length < 3
    · have HR : Hid (R = 2) := by show _ = _; rw [HD.out, if_neg (by simp), if_pos h3]
      have h4 : ((d.secs.length : Nat) : Int) < 3 := by omega
      clear HD
      go_wp2
      go_ret
      exact ⟨ret_int HR.out.symm, HB.out⟩
    · have HR : Hid (R = 0) := by show _ = _; rw [HD.out, if_neg (by simp), if_neg h3]
      have h4 : ¬ ((d.secs.length : Nat) : Int) < 3 := by omega
      clear HD
      go_wp2
      go_ret
      exact ⟨ret_int HR.out.symm, HB.out⟩
  · have HR : Hid (R = Q) := by show _ = _; rw [HD.out, if_pos hq]
    have hb : (Q != 0) = true := by simp [hq]
    clear HD
    go_wp2
    go_ret
    exact ⟨ret_int HR.out.symm, HB.out⟩
end Go.Proofs.Ytockmhhiomdlkaa

namespace Go.Proofs.Ytockmhhiomdlkaa
set_option linter.unusedVariables false
set_option linter.unusedSimpArgs false
open Go.RowKit

theorem head_at (s : ByteArray) (h : 0 < s.size) : s.data.toList.head? = some s[0] := by
  have h1 : s.data.toList[0]? = some s[0] := by
    rw [List.getElem?_eq_getElem (by simpa using h)]
    rfl
  rw [List.head?_eq_getElem?]; exact h1
/-- An answer of decodeFrame. -/
def DecE (r : List Txt × Nat × Bool) (w0 : World) (e : Ending) (w : World) : Prop := ∃ v, ∃ c : Int, e = .returned (.tuple #[v, .int .i64 c, .bool r.2.2]) ∧ (r.2.2 = true → Txs w v r.1 ∧ c = (r.2.1 : Int)) ∧ Below w0.heap.size w0 w
theorem DecE.bad {w0 w : World} (hb : Below w0.heap.size w0 w) {v : Value} {c : Int} : DecE ([], 0, false) w0 (.returned (.tuple #[v, .int .i64 c, .bool false])) w := ⟨v, c, rfl, fun h => (by cases h), hb⟩

set_option maxRecDepth 100000 in
set_option maxHeartbeats 4000000 in
theorem decodeFrame_any (s : ByteArray) (w : World) (h0 : 0 < s.size) (hs : s.size ≤ 100000000) : Calls Try.prog 84 #[.string s] w (DecE (decFr s.data.toList) w) := by
  have hd0 := s[0].toNat_lt
  have HX : Hid (decFr s.data.toList = if s.data.toList.head? ≠ some 1 then ([], 0, false)
    else if (getI (s.data.toList.drop 1)).2.2 ≠ 0 ∨ s.data.toList.length - (1 + (getI (s.data.toList.drop 1)).2.1) < (getI (s.data.toList.drop 1)).1 then ([], 0, false)
    else if (getTs ((s.data.toList.drop (1 + (getI (s.data.toList.drop 1)).2.1)).take (getI (s.data.toList.drop 1)).1)).2.2 = 0 ∧ (getTs ((s.data.toList.drop (1 + (getI (s.data.toList.drop 1)).2.1)).take (getI (s.data.toList.drop 1)).1)).2.1 = (getI (s.data.toList.drop 1)).1 then
      ((getTs ((s.data.toList.drop (1 + (getI (s.data.toList.drop 1)).2.1)).take (getI (s.data.toList.drop 1)).1)).1, 1 + (getI (s.data.toList.drop 1)).2.1 + (getI (s.data.toList.drop 1)).1, true)
    else ([], 0, false)) := rfl
  generalize decFr s.data.toList = R at *
  have CI := getInt_any (s.extract 1 s.size) w
  rw [drop_str] at CI
  obtain ⟨b1, b2⟩ := getI_bd (s.data.toList.drop 1)
  rw [List.length_drop, show s.data.toList.length = s.size from rfl] at b2
  have HL : Hid (s.data.toList.length = s.size) := rfl
  by_cases h1 : s[0] = 1
  · have hh : ¬ (s.data.toList.head? ≠ some 1) := by rw [head_at s h0, h1]; simp
    have HX2 := Lib.hid ((HX.out).trans (if_neg hh))
    have hn0 : ((s[0].toNat : Int) != 1) = false := by rw [h1]; rfl
    clear HX hh
    have hsp : s.data.toList.length - (1 + (getI (s.data.toList.drop 1)).2.1) = s.size - (1 + (getI (s.data.toList.drop 1)).2.1) := rfl
    generalize getI (s.data.toList.drop 1) = q at *
    obtain ⟨n, k, e0⟩ := q
    simp only at HX2 b1 b2 CI hsp
    rw [hsp] at HX2
    unfold gI at CI
    simp only at CI
    have CI' := Lib.hid CI
    clear CI hsp
    have hw1 : IntKind.i64.wrap ((1 : Int) + k) = ((1 + k : Nat) : Int) := by rw [i64w (by omega) (by omega)]; omega
    have hl1 : (1 : Int) ≤ (s.size : Int) := by omega
    by_cases he : e0 = 0
    · subst he
      by_cases hn : s.size - (1 + k) < n
      · have HR : Hid (R = ([], 0, false)) := by show _ = _; rw [HX2.out, if_pos (.inr hn)]
        have hn1 : (s.size : Int) - (1 + (k : Int)) < (n : Int) := by omega
        clear HX2
        go_enter Try.func84, Try.ntmps84
        go_wp2_with fail
        refine CI'.out.mono ?_
        rintro e w1 ⟨rfl, rfl⟩
        clear CI'
        go_wp2
        go_ret3
        rw [HR.out]
        exact DecE.bad (Below.refl _ _)
      · have hn1 : ¬ (s.size : Int) - (1 + (k : Int)) < (n : Int) := by omega
        have CT := getTexts_any (s.extract (1 + k) (1 + k + n)) w (by rw [ByteArray.size_extract]; omega)
        rw [show (s.extract (1 + k) (1 + k + n)).data.toList = (s.data.toList.drop (1 + k)).take n by rw [extract_app s (o := 1 + k) (l := n) (by omega)]; exact strB_data _] at CT
        have HX3 := Lib.hid (HX2.out.trans (if_neg (by rintro (h | h); exact h rfl; exact hn h)))
        clear HX2
        generalize (s.data.toList.drop (1 + k)).take n = T at *
        generalize getTs T = r at *
        obtain ⟨l, c, e1⟩ := r
        simp only at HX3 CT
        have CT' := Lib.hid CT
        have hw2 : IntKind.i64.wrap (((1 + k : Nat) : Int) + n) = ((1 + k + n : Nat) : Int) := by rw [i64w (by omega) (by omega)]; omega
        clear CT
        by_cases he1 : e1 = 0
        · by_cases hcn : c = n
          · subst he1
            subst hcn
            have HR := Lib.hid (HX3.out.trans (if_pos ⟨rfl, rfl⟩))
            clear HX3
            go_enter Try.func84, Try.ntmps84
            go_wp2_with fail
            refine CI'.out.mono ?_
            rintro e w1 ⟨rfl, rfl⟩
            clear CI'
            go_wp2_with fail
            refine CT'.out.mono ?_
            rintro e w2 ⟨v2, rfl, hT, hb2⟩
            have HT := Lib.hid hT
            have HB := Lib.hid hb2
            clear CT' hb2 hT
            simp only
            go_wp2
            go_ret3
            rw [HR.out]
            exact ⟨v2, _, rfl, fun _ => ⟨HT.out, by simp only; omega⟩, HB.out⟩
          · have HR := Lib.hid (HX3.out.trans (if_neg (fun h => hcn h.2)))
            subst he1
            have hb : ((c : Int) == (n : Int)) = false := by simp; omega
            clear HX3
            go_enter Try.func84, Try.ntmps84
            go_wp2_with fail
            refine CI'.out.mono ?_
            rintro e w1 ⟨rfl, rfl⟩
            clear CI'
            go_wp2_with fail
            refine CT'.out.mono ?_
            rintro e w2 ⟨v2, rfl, hT, hb2⟩
            have HT := Lib.hid hT
            have HB := Lib.hid hb2
            clear CT' hb2 hT
            simp only
            go_wp2
            go_ret3
            rw [HR.out]
            exact DecE.bad HB.out
        · have HR := Lib.hid (HX3.out.trans (if_neg (fun h => he1 h.1)))
          have hb : (e1 == 0) = false := by simpa using he1
          clear HX3
          go_enter Try.func84, Try.ntmps84
          go_wp2_with fail
          refine CI'.out.mono ?_
          rintro e w1 ⟨rfl, rfl⟩
          clear CI'
          go_wp2_with fail
          refine CT'.out.mono ?_
          rintro e w2 ⟨v2, rfl, hT, hb2⟩
          have HT := Lib.hid hT
          have HB := Lib.hid hb2
          clear CT' hb2 hT
          simp only
          go_wp2
          go_ret3
          rw [HR.out]
          exact DecE.bad HB.out
    · have HR : Hid (R = ([], 0, false)) := by show _ = _; rw [HX2.out, if_pos (.inl he)]
      have hne : (e0 != 0) = true := by simpa using he
      clear HX2
      go_enter Try.func84, Try.ntmps84
      go_wp2_with fail
      refine CI'.out.mono ?_
      rintro e w1 ⟨rfl, rfl⟩
      clear CI'
      go_wp2
      go_ret3
      rw [HR.out]
      exact DecE.bad (Below.refl _ _)
  · have HR : Hid (R = ([], 0, false)) := by
      show _ = _
      rw [HX.out, if_pos (by rw [head_at s h0]; intro h; exact h1 (Option.some.inj h))]
    have hn0 : ((s[0].toNat : Int) != 1) = true := by
      have : s[0].toNat ≠ 1 := fun h => h1 (UInt8.toNat_inj.1 h)
      simp; omega
    clear HX CI b1 b2
    go_enter Try.func84, Try.ntmps84
    go_wp2
    go_ret3
    rw [HR.out]
    exact DecE.bad (Below.refl _ _)
end Go.Proofs.Ytockmhhiomdlkaa

namespace Go.Proofs.Ytockmhhiomdlkaa
set_option linter.unusedVariables false
set_option linter.unusedSimpArgs false
open Go.RowKit

theorem paddedB_any (s : ByteArray) (z : Nat) (ht : s.size ≤ z) (hz : z ≤ 1000) (w : World) : Calls Try.prog 48 #[.string s, .int .i64 z] w fun e w' => e = .returned (.string (strB (padT z (bts s)))) ∧ Below w.heap.size w w' := by
  have := padded_any (bts s) z ht hz w
  rwa [show strB (bts s) = s from strB_of s] at this
theorem bts_extract (s : ByteArray) (i j : Nat) : bts (s.extract i j) = ((bts s).drop i).take (j - i) := by
  unfold bts
  rw [ByteArray.data_extract, Array.toList_extract, List.extract_eq_take_drop]
/-- The i-th sector of a frame. -/
def secAt (t : Txt) (sz i : Nat) : ByteArray := strB (padT sz ((t.drop (i * sz)).take sz))
def secsTo (t : Txt) (sz i : Nat) : List ByteArray := (List.range i).map (secAt t sz)
theorem secsTo_len (t : Txt) (sz i : Nat) : (secsTo t sz i).length = i := by simp [secsTo]
theorem secsTo_succ (t : Txt) (sz i : Nat) : secsTo t sz (i + 1) = secsTo t sz i ++ [secAt t sz i] := by
  unfold secsTo
  rw [List.range_succ, List.map_append]; rfl
theorem frS_to {l : List Txt} (h : l ≠ []) (sz : Nat) : frS l sz = secsTo (frB l) sz (need (frB l).length sz) := if_neg h
theorem need_lt {n sz i : Nat} (hs : 1 ≤ sz) (h : i * sz < n) : i + 1 ≤ need n sz := by
  unfold need
  rw [Nat.le_div_iff_mul_le (by omega), Nat.succ_mul]
  omega
theorem frB_str (a b : Txt) : (⟨#[1]⟩ : ByteArray) ++ strB a ++ strB b = strB (1 :: (a ++ b)) := by
  rw [show (⟨#[1]⟩ : ByteArray) = strB [1] from rfl, strB_append, strB_append]; rfl
theorem frB_len {l : List Txt} (h : OkL l) : (frB l).length ≤ 100000010 := by
  have h1 := putTsB_len l h
  have h2 := digL_len (putTsB l).length 5 (by omega)
  simp only [frB, List.length_cons, List.length_append]
  omega
theorem putTs_ok {l : List Txt} (h : (putTs l).2 = 0) : OkL l ∧ (putTs l).1 = putTsB l := by
  unfold putTs at h ⊢
  split at h
  · simp at h
  · rename_i h1
    rw [if_neg h1]
    exact ⟨⟨by omega, by
      rcases Classical.em (∀ t ∈ l, t.length ≤ 65536) with h2 | h2
      · exact h2
      · exact absurd (.inr h2) h1⟩, rfl⟩
/-- An answer of encodeFrame. -/
def EncE (l : List Txt) (sz : Nat) (w0 : World) (e : Ending) (w : World) : Prop := ∃ v, e = .returned (.tuple #[v, .int .i64 (putTs l).2]) ∧ ((putTs l).2 = 0 → OwS w w0.heap.size v (frS l sz)) ∧ Below w0.heap.size w0 w
theorem EncE.mk {l : List Txt} {sz : Nat} {w0 w : World} {v : Value} {k : Int} (h : (putTs l).2 = k) (h1 : (putTs l).2 = 0 → OwS w w0.heap.size v (frS l sz)) (h2 : Below w0.heap.size w0 w) : EncE l sz w0 (.returned (.tuple #[v, .int .i64 k])) w := ⟨v, by rw [h], h1, h2⟩
theorem OwS.nil (w : World) (b : Nat) : OwS w b (.slice none 0 0) [] := World.ownsRow_nil _ _ _ _
theorem sec_ext {t : Txt} {sz i m : Nat} (hm : m = min (i * sz + sz) t.length) : strB (padT sz (bts ((strB t).extract (i * sz) m))) = secAt t sz i := by
  rw [bts_extract, bts_strB]
  unfold secAt
  congr 2
  rw [hm]
  by_cases h : i * sz + sz ≤ t.length
  · rw [Nat.min_eq_left h, Nat.add_sub_cancel_left]
  · rw [Nat.min_eq_right (by omega), List.take_of_length_le (by rw [List.length_drop]; omega), List.take_of_length_le (by rw [List.length_drop]; omega)]

set_option maxRecDepth 100000 in
set_option maxHeartbeats 400000 in
theorem encodeFrame_any (w : World) (A : Option Addr) (c : Nat) (l : List Txt) (h : Txs w (.slice A l.length c) l) (sz : Nat) (hs1 : 1 ≤ sz) (hs2 : sz ≤ 1000) :
    Calls Try.prog 34 #[.slice A l.length c, .int .i64 sz] w (EncE l sz w) := by
  obtain ⟨i1, hi1, hy0, hy1, hy2⟩ := info_parts Try.info_tx
  obtain ⟨A', c', e0, hc, hm⟩ := h.form
  cases e0
  have CP := Lib.hid (putTexts_any w A c l h)
  by_cases he : (putTs l).2 = 0
  · obtain ⟨hok, hp1⟩ := putTs_ok he
    rw [he, hp1] at CP
    by_cases hl : l = []
    · have HE : ∀ w', Below w.heap.size w w' → Hid (EncE l sz w (.returned (.tuple #[.slice none 0 0, .int .i64 0])) w') := fun w' hb => EncE.mk he (fun _ => by rw [show frS l sz = [] from if_pos hl]; exact OwS.nil _ _) hb
      have hn : (((l.length : Nat) : Int) == 0) = true := by rw [hl]; rfl
      clear hp1 hok he hl
      go_enter Try.func34, Try.ntmps34
      go_wp2_with fail
      refine CP.out.mono ?_
      rintro e w1 ⟨rfl, hb⟩
      have HB := Lib.hid hb
      have HE' := HE w1 hb
      clear CP hb HE
      go_wp2
      go_ret2
      exact HE'.out
    · have hn : (((l.length : Nat) : Int) == 0) = false := by cases l with | nil => exact absurd rfl hl | cons a b => simp; omega
      have hpl := putTsB_len l hok
      have hfl := frB_len hok
      have HS := Lib.hid (frB_str (digL (putTsB l).length) (putTsB l))
      have hdl := digL_len (putTsB l).length 5 (by omega)
      have hpi : putI ((putTsB l).length : Int) = (digL (putTsB l).length, 0) := by
        unfold putI
        rw [if_pos (by omega), Int.toNat_natCast]
      have HF : Hid (EncE l sz w = fun e w' => ∃ v, e = .returned (.tuple #[v, .int .i64 0]) ∧ OwS w' w.heap.size v (secsTo (frB l) sz (need (frB l).length sz)) ∧ Below w.heap.size w w') := by
        show _ = _
        funext e w'
        unfold EncE
        rw [he, frS_to hl]
        simp
      have hfb : frB l = 1 :: (digL (putTsB l).length ++ putTsB l) := rfl
      rw [HF.out]
      clear HF
      rw [← hfb] at HS
      clear hfb
      have hz := strB_size (putTsB l)
      generalize frB l = F at *
      generalize putTsB l = T at *
      have hzz : ¬ 9223372036854775807 < (⟨#[1]⟩ : ByteArray).size + (strB (digL T.length)).size := by rw [strB_size, show (⟨#[1]⟩ : ByteArray).size = 1 from rfl]; omega
      have hzz2 : ¬ 9223372036854775807 < ((⟨#[1]⟩ : ByteArray) ++ strB (digL T.length)).size + (strB T).size := by rw [ByteArray.size_append, strB_size, strB_size, show (⟨#[1]⟩ : ByteArray).size = 1 from rfl]; omega
      have hzF := strB_size F
      clear hp1 he hok hl
      go_enter Try.func34, Try.ntmps34
      go_wp2_with fail
      refine CP.out.mono ?_
      rintro e w1 ⟨rfl, hb⟩
      have HB := Lib.hid hb
      have CI := putInt_any ((T.length : Nat) : Int) w1
      rw [hpi] at CI
      have CI' := Lib.hid CI
      clear CP hb CI hpi
      go_wp2_with fail
      refine CI'.out.mono ?_
      rintro e w2 ⟨rfl, hb⟩
      have HB2 := Lib.hid (HB.out.trans (hb.mono HB.out.size))
      clear CI' hb HB
      go_wp2
      try rw [HS.out]
      go_loopw [10, 11] (fun vi ai wr => ∃ i : Nat, i ≤ need F.length sz ∧ ai = .int .i64 ((i * sz : Nat) : Int) ∧ Hid (OwS wr w.heap.size vi (secsTo F sz i)) ∧ Below w.heap.size w wr) (fun _ ai _ => F.length + sz - (intOf ai).toNat)
      case atStart => exact ⟨0, by omega, by simp, OwS.nil _ _, HB2.out⟩
      case round =>
        clear HB2 HS
        obtain ⟨i, hi, rfl, HO, hbw⟩ := hrel
        have HW := Lib.hid hbw
        have hsz := hbw.size
        have hL := secsTo_len F sz i
        by_cases hlt : i * sz < F.length
        · have hni := need_lt hs1 hlt
          have hI : i ≤ F.length := Nat.le_trans (Nat.le_mul_of_pos_right i (by omega)) (Nat.le_of_lt hlt)
          have hsucc : (i + 1) * sz = i * sz + sz := Nat.succ_mul i sz
          have HX := Lib.hid (fun (m : Nat) (hm : m = min (i * sz + sz) F.length) => sec_ext hm)
          have hlt' : ((i * sz : Nat) : Int) < (F.length : Int) := by omega
          have CP : ∀ m : Nat, m = min (i * sz + sz) F.length → Hid (Calls Try.prog 48 #[.string ((strB F).extract (i * sz) m), .int .i64 sz] wr fun e w' => e = .returned (.string (secAt F sz i)) ∧ Below wr.heap.size wr w') := fun m hm => by
            have := paddedB_any ((strB F).extract (i * sz) m) sz (by rw [ByteArray.size_extract, strB_size]; omega) hs2 wr
            rw [HX.out m hm] at this
            exact Lib.hid this
          generalize hj : i * sz = j at *
          have HS2 := Lib.hid (secsTo_succ F sz i)
          generalize secAt F sz i = X at *
          clear HX hbw
          have C := CP ((min ((j : Int) + sz) (F.length : Int)).toNat) (by omega)
          clear CP
          go_wp2_with fail
          refine C.out.mono ?_
          rintro e w3 ⟨rfl, hb3⟩
          have HB3 := Lib.hid (HW.out.trans (hb3.mono hsz))
          have HO3 := Lib.hid (HO.out.keep hb3)
          clear C hb3 HO HW
          have hsz3 := HB3.out.size
          go_wp2_with (at_builtin; go_must (refine wpList_append_any _ rfl (.tmp 45) (.tmp 57) _ rfl w.heap.size 9 i1 _ 1 16 Try.underlying22 hi1 hy0 hy1 hy2 rfl (by omega) u10 (secsTo F sz i).length _ rfl (HO3.out.alloc _) _ 1 1 [.string X] rfl rfl (CellsAt.of_new _ _ _ _) (by simp [Value.oneCell']) (by omega) (by omega) (by simp; omega) ?_; intro v4 w4 hown4 hgr4 hat4))
          have HO4 : Hid (OwS w4 w.heap.size v4 (secsTo F sz (i + 1))) := by
            show World.ownsRow _ _ _ _ _ _ _
            rw [HS2.out, List.length_append, List.length_singleton, List.map_append]
            exact hown4
          have HB4 := Lib.hid ((HB3.out.alloc hsz3 (.cells #[.string X] 9)).grown hgr4 (by simp; omega) (fun g h => (World.ownsRow.lt HO3.out g h).1))
          clear hown4 hgr4 hat4 HO3 HB3
          go_wp2
          go_roundw
          case rel => exact ⟨i + 1, hni, by rw [hsucc]; go_num, HO4, HB4.out⟩
          case measure => simp [intOf]; omega
        · have hin : i = need F.length sz := by
            have := need_le (c := F.length) (m := i) hs1 (by omega)
            omega
          have hlt' : ¬ ((i * sz : Nat) : Int) < (F.length : Int) := by omega
          subst hin
          clear hbw hL
          go_wp2
          go_ret2
          exact ⟨_, rfl, HO.out, HW.out⟩
  · have HE : ∀ w', Below w.heap.size w w' → Hid (EncE l sz w (.returned (.tuple #[.slice none 0 0, .int .i64 (putTs l).2])) w') := fun w' hb => EncE.mk rfl (fun h0 => absurd h0 he) hb
    generalize (putTs l).2 = k at *
    generalize (putTs l).1 = S at *
    have hne : (k != 0) = true := by simpa using he
    go_enter Try.func34, Try.ntmps34
    go_wp2_with fail
    refine CP.out.mono ?_
    rintro e w1 ⟨rfl, hb⟩
    have HE' := HE w1 hb
    clear CP hb HE
    go_wp2
    go_ret2
    exact HE'.out
end Go.Proofs.Ytockmhhiomdlkaa

namespace Go.Proofs.Ytockmhhiomdlkaa
set_option linter.unusedVariables false
set_option linter.unusedSimpArgs false
open Go.RowKit

/-- What is yielded: the records of a frame, and where it ends. -/
abbrev YldB := Option Addr × Nat × Nat × Int
def mkY (b : YldB) : Value × Value := (.slice b.1 b.2.1 b.2.2.1, .int .i64 b.2.2.2)
def YldE (x : List Txt × Nat) (b : YldB) (W : World) : Prop := b.2.1 = x.1.length ∧ b.2.2.2 = (x.2 : Int) ∧ Txs W (.slice b.1 x.1.length b.2.2.1) x.1
def YldZ (b : YldB) : Prop := b = (none, 0, 0, -1)

set_option maxRecDepth 100000 in
set_option maxHeartbeats 400000 in
theorem frames1_in (n l : Nat) (hn : 1 ≤ n) (M : Nat → Prop) (h : Nat) (Ba Bz : Nat) (area : ByteArray) (sz H : Nat) (hs1 : 1 ≤ sz) (hs2 : sz ≤ 1000) (hH : H ≤ 10000) (ha : area.size = H * sz)
    (hMa : ¬ M Ba) (hMz : ¬ M Bz) (hBa : Ba < h) (hBz : Bz < h) (J : List (List Txt × Nat) → World → Prop) (Jx : World → Prop)
    (hJb : ∀ pre W W', Below W.heap.size W W' → J pre W → J pre W') (hXb : ∀ W W', Below W.heap.size W W' → Jx W → Jx W')
    (hY : ∀ pre x b W, J pre W → pre ++ [x] <+: (areaX (bts area) sz H).1 → YldE x b W → YieldAt Fence.wide (n - 1) Try.prog l #[(mkY b).1, (mkY b).2] W fun e W' => e = .returned (.bool true) ∧ J (pre ++ [x]) W' ∧ KeepN M h W W')
    (hZ : ∀ b W, J (areaX (bts area) sz H).1 W → (areaX (bts area) sz H).2 = true → YldZ b → YieldAt Fence.wide (n - 1) Try.prog l #[(mkY b).1, (mkY b).2] W fun e W' => e = .returned (.bool false) ∧ Jx W' ∧ KeepN M h W W')
    (W : World) (x1 : Blk W Ba 9 #[.string area]) (x2 : Blk W Bz 3 #[.int .i64 sz]) (h0 : J [] W) :
    CallsIn Fence.wide n Try.prog 83 #[.func (.yield l) #[] #[], .pointer (some ⟨Ba, 0, none⟩), .pointer (some ⟨Bz, 0, none⟩)] W fun e W' => (∃ v, e = .returned v) ∧ finP (areaX (bts area) sz H).2 (Jx W') (J (areaX (bts area) sz H).1 W') := by
  have HX0 : Hid (areaX (bts area) sz H = frX (bts area) sz H (H + 1) 0) := rfl
  generalize areaX (bts area) sz H = X at *
  obtain ⟨xs, stop⟩ := X
  simp only at hY hZ ⊢
  have HJB := Lib.hid hJb
  have HXB := Lib.hid hXb
  have HY := Lib.hid hY
  have HZ := Lib.hid hZ
  have hal : (bts area).length = H * sz := ha
  have HAL := Lib.hid hal
  have hHs : H * sz ≤ 10000 * 1000 := Nat.mul_le_mul hH hs2
  have HA := Lib.hid ha
  clear hJb hXb hY hZ hal ha
  refine callsIn_of_wp Try.func83 rfl trivial ?_ rfl
  simp only [Try.ntmps83, List.size_toArray, List.length_cons, List.length_nil, Nat.reduceAdd, Nat.reduceSub, Array.replicate_succ, Array.replicate_zero, List.push_toArray, List.append_toArray, List.nil_append, List.cons_append]
  gi_wp2
  gi_loopw [4] (fun at_ wr => ∃ (k f : Nat) (pre : List (List Txt × Nat)), at_ = .int .i64 ((k * sz : Nat) : Int) ∧ k ≤ H ∧ H < k + f ∧ Hid (xs = pre ++ (frX (bts area) sz H f k).1) ∧ Hid (stop = (frX (bts area) sz H f k).2) ∧ J pre wr ∧ Blk wr Ba 9 #[.string area] ∧ Blk wr Bz 3 #[.int .i64 sz]) (fun at_ _ => H * sz - (intOf at_).toNat)
  case atStart => exact ⟨0, H + 1, [], by simp, by omega, by omega, by show _ = _; rw [← HX0.out]; rfl, by show _ = _; rw [← HX0.out], h0, x1, x2⟩
  case round =>
    clear h0 x1 x2 HX0
    obtain ⟨k, f, pre, rfl, hk, hf, HX, HS, hj, y1, y2⟩ := hrel
    have q1 : wr.cell? ⟨Ba, 0, none⟩ = some (.string area) := y1.cell (j := 0) rfl
    have q2 : wr.cell? ⟨Bz, 0, none⟩ = some (.int .i64 sz) := y2.cell (j := 0) rfl
    have hkm : k * sz ≤ H * sz := Nat.mul_le_mul_right _ hk
    obtain ⟨f, rfl⟩ : ∃ f', f = f' + 1 := ⟨f - 1, by omega⟩
    by_cases hlt : k < H
    · have hlt1 : k * sz < H * sz := Nat.mul_lt_mul_of_pos_right hlt (by omega)
      have hlt2 : k * sz < area.size := by rw [HA.out]; exact hlt1
      have hlt3 : ((k * sz : Nat) : Int) < (area.size : Int) := by omega
      have hd := area[k * sz].toNat_lt
      have hget : (bts area)[k * sz]? = some area[k * sz] := by
        unfold bts
        rw [List.getElem?_eq_getElem (by simpa using hlt2)]
        rfl
      by_cases hz : area[k * sz] = 0
      · have HE : Hid (frX (bts area) sz H (f + 1) k = ([], false)) := frX_end (fun e => e.2 (by rw [hget, hz]))
        have HR : Hid (finP stop (Jx wr) (J xs wr)) := by
          have e1 : stop = false := by rw [HS.out, HE.out]
          have e2 : xs = pre := by rw [HX.out, HE.out, List.append_nil]
          show finP _ _ _
          unfold finP
          rw [e1, if_neg (by simp), e2]
          exact hj
        have hb : ((area[k * sz].toNat : Int) != 0) = false := by rw [hz]; rfl
        clear HX HS HE hj y1 y2 hget hz
        gi_wp2
        go_end0
        exact ⟨⟨_, rfl⟩, HR.out⟩
      · have hgo : k < H ∧ (bts area)[k * sz]? ≠ some 0 := ⟨hlt, by rw [hget]; intro e; exact hz (Option.some.inj e)⟩
        have hb : ((area[k * sz].toNat : Int) != 0) = true := by
          have : area[k * sz].toNat ≠ 0 := fun e => hz (UInt8.toNat_inj.1 e)
          simp; omega
        have CD := decodeFrame_any (area.extract (k * sz) area.size) wr (by rw [ByteArray.size_extract]; omega) (by rw [ByteArray.size_extract]; have := HA.out; omega)
        rw [drop_str] at CD
        have CD' := Lib.hid CD
        have hdl : ∀ l c, decFr ((bts area).drop (k * sz)) = (l, c, true) → 1 ≤ c ∧ c ≤ H * sz - k * sz := fun l c e => by
          have := decFr_len e
          rwa [List.length_drop, HAL.out] at this
        have HGO : Hid (∀ l c, decFr ((bts area).drop (k * sz)) = (l, c, true) → frX (bts area) sz H (f + 1) k = ((l, k + need c sz) :: (frX (bts area) sz H f (k + need c sz)).1, (frX (bts area) sz H f (k + need c sz)).2)) := fun l c hd => frX_go hgo hd
        have HBD : Hid ((decFr ((bts area).drop (k * sz))).2.2 = false → frX (bts area) sz H (f + 1) k = ([], true)) := fun hd => frX_bad hgo hd
        have hq : decFr ((bts area).drop (k * sz)) = decFr (area.data.toList.drop (k * sz)) := rfl
        rw [hq] at hdl HGO HBD
        clear CD hq hget hz hgo
        generalize decFr (area.data.toList.drop (k * sz)) = r at *
        obtain ⟨rl, c, ok⟩ := r
        simp only at HBD
        have HJ := Lib.hid hj
        have HY1 := Lib.hid y1
        have HY2 := Lib.hid y2
        clear hj y1 y2
        cases ok with
        | false =>
          have HE := Lib.hid (HBD.out rfl)
          have HS2 : Hid (stop = true) := by show _ = _; rw [HS.out, HE.out]
          have HX2 : Hid (xs = pre) := by show _ = _; rw [HX.out, HE.out, List.append_nil]
          clear HGO HBD hdl HX HS HE
          gi_wp2_with fail
          refine ⟨trivial, ?_⟩
          refine (callsIn_wide.2 CD'.out).mono ?_
          rintro e w3 ⟨v3, c3, rfl, _, hb3⟩
          simp only
          obtain ⟨fn, tmps, assign, body, hy, hR⟩ := HZ.out (none, 0, 0, -1) w3 (by rw [HX2.out]; exact HJB.out _ _ _ hb3 HJ.out) HS2.out rfl
          have HR := Lib.hid hR
          unfold mkY at hy
          simp only at hy
          clear hR CD' hb3 HJ HY1 HY2
          gi_wp2_with fail
          refine HR.out.mono ?_
          rintro e w4 ⟨rfl, hjx, _⟩
          have HFin : Hid (finP stop (Jx w4) (J xs w4)) := by
            show finP _ _ _
            unfold finP
            rw [if_pos HS2.out]
            exact hjx
          clear hjx HR
          gi_wp2
          exact bodyPost_ret (v := .tuple #[]) (results_none rfl _ _ _) rfl ⟨⟨_, rfl⟩, HFin.out⟩
        | true =>
          obtain ⟨hc1, hc2⟩ := hdl _ _ rfl
          have HE := Lib.hid (HGO.out _ _ rfl)
          have hnp := need_pos hc1 hs1
          have hnl : need c sz ≤ H - k := need_le hs1 (by rw [Nat.sub_mul]; exact hc2)
          have HS2 : Hid (stop = (frX (bts area) sz H f (k + need c sz)).2) := by show _ = _; rw [HS.out, HE.out]
          have HX2 : Hid (xs = (pre ++ [(rl, k + need c sz)]) ++ (frX (bts area) sz H f (k + need c sz)).1) := by show _ = _; rw [HX.out, HE.out]; simp
          have CS0 := sectorsFor_any c sz hs1 (by omega)
          generalize need c sz = m at *
          have CS : ∀ w : World, ∀ nq, Calls Try.prog 85 #[.int .i64 c, .int .i64 sz] (w.drewN nq) fun e w' => e = .returned (.int .i64 m) ∧ w' = w.drewN nq := fun w nq => (CS0 (w.drewN nq)).mono fun _ _ ⟨a, b⟩ => ⟨a, b.symm⟩
          have CS' := Lib.hid CS
          clear HGO HBD hdl HX HS HE CS CS0
          gi_wp2_with fail
          refine ⟨trivial, ?_⟩
          refine (callsIn_wide.2 CD'.out).mono ?_
          rintro e w3 ⟨v3, c3, rfl, hT, hb3⟩
          obtain ⟨hT2, rfl⟩ := hT rfl
          clear hT
          obtain ⟨A3, cc, rfl, _, _⟩ := Txs.form hT2
          simp only
          have z1 := HY1.out.keep hb3
          have z2 := HY2.out.keep hb3
          have p1 : w3.cell? ⟨Ba, 0, none⟩ = some (.string area) := z1.cell (j := 0) rfl
          have p2 : w3.cell? ⟨Bz, 0, none⟩ = some (.int .i64 sz) := z2.cell (j := 0) rfl
          have HT := Lib.hid hT2
          have HB3 := Lib.hid hb3
          have HZ1 := Lib.hid z1
          have HZ2 := Lib.hid z2
          clear CD' hT2 hb3 z1 z2 HY1 HY2
          have hz0 : ((sz : Int) == 0) = false := by simp; omega
          have hz1 : ¬ (sz : Int) = 0 := by omega
          have hdv1 : ((k : Int) * (sz : Int)).tdiv (sz : Int) = (k : Int) := Int.mul_tdiv_cancel _ hz1
          have hdv2 : ((k : Int) * (sz : Int)) / (sz : Int) = (k : Int) := Int.mul_ediv_cancel _ hz1
          gi_wp2_with fail
          refine wpIn_wide.2 ?_
          go_quiet ((exact Calls.quiet_of_same (CS'.out _ _)))
          have HDr : Below w3.heap.size w3 (w3.drewN nq) := ((Drawn.refl w3).drewN nq).below _
          obtain ⟨fn, tmps, assign, body, hy, hR⟩ := HY.out pre (rl, k + m) (A3, rl.length, cc, ((k + m : Nat) : Int)) (w3.drewN nq) (HJB.out _ _ _ (HB3.out.trans (HDr.mono HB3.out.size)) HJ.out) ⟨_, HX2.out.symm⟩ ⟨rfl, rfl, HT.out.keep (Keeps.of_below HDr)⟩
          have HR := Lib.hid hR
          have HZ3 := Lib.hid (HZ1.out.keep HDr)
          have HZ4 := Lib.hid (HZ2.out.keep HDr)
          have hcst : ((k + m : Nat) : Int) = (k : Int) + (m : Int) := by omega
          unfold mkY at hy
          simp only at hy
          rw [hcst] at hy
          clear hR p1 p2 q1 q2 HDr HB3 HJ HT HZ1 HZ2 CS' hdv1 hdv2
          gi_wp2_with fail
          refine HR.out.mono ?_
          rintro e w4 ⟨rfl, hj4, hk4⟩
          have HJ4 := Lib.hid hj4
          have HZ5 := Lib.hid (hk4.blk HZ3.out hBa hMa)
          have HZ6 := Lib.hid (hk4.blk HZ4.out hBz hMz)
          have q2 : w4.cell? ⟨Bz, 0, none⟩ = some (.int .i64 sz) := HZ6.out.cell (j := 0) rfl
          have hmul : ((k + m) * sz : Nat) = k * sz + m * sz := Nat.add_mul _ _ _
          have hkm2 : (k + m) * sz ≤ H * sz := Nat.mul_le_mul_right _ (by omega)
          have hms : 1 * sz ≤ m * sz := Nat.mul_le_mul_right _ hnp
          have hci : ((k : Int) + (m : Int)) * (sz : Int) = (((k + m) * sz : Nat) : Int) := by rw [Int.natCast_mul, hcst]
          have hwz : IntKind.i64.wrap (((k : Int) + (m : Int)) * (sz : Int)) = (((k + m) * sz : Nat) : Int) := by rw [hci, i64w (by omega) (by omega)]
          clear hj4 hk4 HR hy HZ3 HZ4 hci
          gi_wp2
          go_roundw
          case rel => exact ⟨k + m, f, pre ++ [(rl, k + m)], by first | rfl | go_num, by omega, by omega, HX2, HS2, HJ4.out, HZ5.out, HZ6.out⟩
          case measure => simp [intOf]; omega
    · have hkH : k = H := by omega
      have HE : Hid (frX (bts area) sz H (f + 1) k = ([], false)) := frX_end (fun e => hlt e.1)
      have HR : Hid (finP stop (Jx wr) (J xs wr)) := by
        have e1 : stop = false := by rw [HS.out, HE.out]
        have e2 : xs = pre := by rw [HX.out, HE.out, List.append_nil]
        show finP _ _ _
        unfold finP
        rw [e1, if_neg (by simp), e2]
        exact hj
      have hge : ¬ ((k * sz : Nat) : Int) < (area.size : Int) := by rw [HA.out, hkH]; omega
      clear HX HS HE hj y1 y2
      gi_wp2
      go_end0
      exact ⟨⟨_, rfl⟩, HR.out⟩
end Go.Proofs.Ytockmhhiomdlkaa

namespace Go.Proofs.Ytockmhhiomdlkaa
set_option linter.unusedVariables false
set_option linter.unusedSimpArgs false
open Go.RowKit

theorem joinTail_nil : ∀ r : List Txt, Lib.joinTail [] r = r.flatten
  | [] => rfl
  | x :: r => by simp [Lib.joinTail]
theorem join_flat (l : List ByteArray) : Lib.join (l.map (·.data.toList)) [] = l.flatMap bts := by
  cases l with
  | nil => rfl
  | cons x l =>
    rw [List.map_cons, Lib.join_cons, joinTail_nil]
    simp [List.flatMap, Function.comp_def]
    rfl
theorem cellLt {w : World} {b o : Nat} {v : Value} (h : w.cell? ⟨b, o, none⟩ = some v) : b < w.heap.size := by
  rcases Nat.lt_or_ge b w.heap.size with h1 | h1
  · exact h1
  · simp [World.cell?, Array.getElem?_eq_none h1] at h
theorem joinS_any (W : World) (A : Option Addr) (c : Nat) (xs : List ByteArray) (h : Strs W (.slice A xs.length c) xs) (h2 : xs.length ≤ 1000) (hl : (xs.flatMap bts).length ≤ 140737488355328) :
    Calls Try.prog 60 #[.slice A xs.length c, .string ⟨#[]⟩] W fun e w' => e = .returned (.string (strB (xs.flatMap bts))) ∧ Below W.heap.size W w' := by
  rcases Nat.lt_or_ge xs.length 2 with hlt | hge
  · match xs, h with
    | [], h => exact (strings_Join_none A c ⟨#[]⟩ W).mono fun e w' ⟨h1, h2⟩ => ⟨h1, by rw [h2]; exact Below.refl _ _⟩
    | [x], h =>
      obtain ⟨b, off, rfl, hc⟩ := h.get (i := 0) (by simp)
      refine (strings_Join_one b off c x ⟨#[]⟩ W (by simpa using hc)).mono fun e w' ⟨h1, h2⟩ => ⟨?_, by rw [h2]; exact Below.refl _ _⟩
      rw [h1]
      have : strB ([x].flatMap bts) = x := by simp only [List.flatMap_cons, List.flatMap_nil, List.append_nil]; exact strB_of x
      rw [this]
    | x :: y :: l, h => simp at hlt; omega
  · obtain ⟨b, off, rfl, hc⟩ := h.get (i := 0) (by omega)
    have hj := join_flat xs
    obtain ⟨A', c', e0, hcap, _⟩ := h.form
    cases e0
    refine (strings_Join_many b off c xs ⟨#[]⟩ W (fun j x hx => ?_) (cellLt hc) hge (by omega) hcap (by rw [show (⟨#[]⟩ : ByteArray).data.toList = [] from rfl, hj]; exact hl)).mono fun e w' ⟨h1, h2⟩ => ⟨?_, h2⟩
    · obtain ⟨hlt, rfl⟩ := List.getElem?_eq_some_iff.1 hx
      obtain ⟨b', off', e, hc'⟩ := h.get hlt
      cases e
      exact hc'
    · rw [h1, show (⟨#[]⟩ : ByteArray).data.toList = [] from rfl, hj]; rfl

theorem frames_any (s : ByteArray) (z : Int) (w : World) : Calls Try.prog 61 #[.string s, .int .i64 z] w fun e w' =>
    e = .returned (.func (.func 83) #[] #[.pointer (some ⟨w.heap.size, 0, none⟩), .pointer (some ⟨w.heap.size + 1, 0, none⟩)]) ∧ w' = (w.alloc (.cells #[.string s] 9)).alloc (.cells #[.int .i64 z] 3) := by
  go_enter Try.func61, Try.ntmps61
  go_wp2
  go_ret
  exact ⟨by simp, rfl⟩

/-- The first byte of a disk's contents, as a number. -/
def actN (d : Dk) : Nat := (byte0 ((cur d).getD 0 ⟨#[]⟩)).toNat
def areaD (d : Dk) : List (List Txt × Nat) × Bool := areaX (areaOf (cur d) (firstS d.secs.length (actN d)) (halfN d.secs.length)) d.size.toNat (halfN d.secs.length)
theorem openD_bad {d : Dk} (h : chkJ d ≠ 0) : openD d = ((0, [], 0), chkJ d) := if_pos h
theorem openD_none {d : Dk} (h : chkJ d = 0) (ha : ¬ (actN d = 1 ∨ actN d = 2)) : openD d = ((0, [], 0), 13) := by
  unfold openD
  rw [if_neg (by simp [h])]
  have : openL (cur d) d.size.toNat = none := if_neg ha
  rw [this]
theorem openD_some {d : Dk} (h : chkJ d = 0) (ha : actN d = 1 ∨ actN d = 2) : openD d = if (areaD d).2 = true then ((0, [], 0), 13) else ((actN d, (areaD d).1.flatMap (·.1), lastE (areaD d).1 0), 0) := by
  unfold openD
  rw [if_neg (by simp [h])]
  have : openL (cur d) d.size.toNat = (areaR (areaOf (cur d) (firstS d.secs.length (actN d)) (halfN d.secs.length)) d.size.toNat (halfN d.secs.length)).map fun x => (actN d, x.1, x.2) := by
    unfold openL
    rw [cur_length]
    exact if_pos ha
  rw [this, areaR_X]
  by_cases hb : (areaD d).2 = true
  · rw [if_pos hb, if_pos (show (areaX _ _ _).2 = true from hb)]; rfl
  · rw [if_neg hb, if_neg (show ¬ (areaX _ _ _).2 = true from hb)]; rfl
end Go.Proofs.Ytockmhhiomdlkaa
