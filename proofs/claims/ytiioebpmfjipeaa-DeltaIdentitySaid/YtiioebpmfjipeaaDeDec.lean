/- delta: decodeOp, Decode. -/
import Derived.Test.YtiioebpmfjipeaaCodGet
import Derived.Test.YtiioebpmfjipeaaDeFlush
namespace Go.Proofs.Ytiioebpmfjipeaa
set_option linter.unusedVariables false
set_option linter.unusedSimpArgs false
open Go.RowKit

/-- What is behind k bytes. -/
theorem drop_str (s : ByteArray) (k : Nat) : (s.extract k s.size).data.toList = s.data.toList.drop k := by
  rw [ByteArray.data_extract, Array.toList_extract, List.extract_eq_take_drop]
  apply List.take_of_length_le
  rw [List.length_drop]
  exact Nat.le_refl _
/-- An answer of decodeOp. -/
def DopE (r : DOp × Nat × Bool) (w0 : World) (e : Ending) (w : World) : Prop := e = .returned (.tuple #[dV r.1, .int .i64 (r.2.1 : Int), .bool r.2.2]) ∧ Below w0.heap.size w0 w

set_option maxRecDepth 100000 in
set_option maxHeartbeats 4000000 in
theorem decodeOp_any (s : ByteArray) (w : World) (hs : s.size ≤ 4000000000000000000) : Calls Try.prog 47 #[.string s] w (DopE (decX s.data.toList) w) := by
  have CI := Lib.hid (fun w => getInt_any s w)
  have HL : s.data.toList.length = s.size := rfl
  obtain ⟨b1, b2⟩ := getI_bd s.data.toList
  have CJ := Lib.hid (fun w => getInt_any (s.extract (getI s.data.toList).2.1 s.size) w)
  have CT := Lib.hid (fun w => getText_any (s.extract (getI s.data.toList).2.1 s.size) w (by rw [ByteArray.size_extract]; omega))
  rw [drop_str] at CJ CT
  obtain ⟨d1, d2⟩ := getI_bd (s.data.toList.drop (getI s.data.toList).2.1)
  have d3 : (getT (s.data.toList.drop (getI s.data.toList).2.1)).2.1 ≤ s.size := by
    rcases getT_err (s.data.toList.drop (getI s.data.toList).2.1) with h | h | h
    · have e : getT (s.data.toList.drop (getI s.data.toList).2.1) = ((getT (s.data.toList.drop (getI s.data.toList).2.1)).1, (getT (s.data.toList.drop (getI s.data.toList).2.1)).2.1, 0) := by rw [← h]
      obtain ⟨k1, k2, k3⟩ := getT_dec e
      have := congrArg List.length k3
      rw [List.length_append, List.length_drop] at this
      omega
    · rw [h]; simp
    · rw [h]; simp
  rw [List.length_drop, HL] at d2
  rw [HL] at b2
  have HX : Hid (decX s.data.toList = if (getI s.data.toList).2.2 ≠ 0 then (⟨0, 0, []⟩, 0, false)
    else if 0 < (getI s.data.toList).1 then (⟨(getI (s.data.toList.drop (getI s.data.toList).2.1)).1, (getI s.data.toList).1, []⟩, (getI s.data.toList).2.1 + (getI (s.data.toList.drop (getI s.data.toList).2.1)).2.1, decide ((getI (s.data.toList.drop (getI s.data.toList).2.1)).2.2 = 0))
    else (⟨0, 0, (getT (s.data.toList.drop (getI s.data.toList).2.1)).1⟩, (getI s.data.toList).2.1 + (getT (s.data.toList.drop (getI s.data.toList).2.1)).2.1, decide ((getT (s.data.toList.drop (getI s.data.toList).2.1)).2.2 = 0))) := rfl
  generalize decX s.data.toList = r at *
  generalize getI (s.data.toList.drop (getI s.data.toList).2.1) = q2 at *
  generalize getT (s.data.toList.drop (getI s.data.toList).2.1) = q3 at *
  generalize getI s.data.toList = q at *
  obtain ⟨n, k, e0⟩ := q
  obtain ⟨n2, k2, e2⟩ := q2
  obtain ⟨t3, k3, e3⟩ := q3
  simp only at HX b1 b2 CJ CT d1 d2 d3
  unfold gI at CI CJ
  unfold gT at CT
  simp only at CI CJ CT
  by_cases he : e0 = 0
  · subst he
    by_cases hn : 0 < n
    · have HR : Hid (r = (⟨n2, n, []⟩, k + k2, (e2 == 0))) := by show _ = _; rw [HX.out, if_neg (by simp), if_pos hn]; rfl
      have hn1 : (0 : Int) < (n : Int) := by omega
      have hz1 : IntKind.i64.wrap ((k : Int) + k2) = (k : Int) + k2 := i64w (by omega) (by omega)
      clear HX CT
      go_enter Try.func47, Try.ntmps47
      go_wp2_with fail
      refine (CI.out _).mono ?_
      rintro e w1 ⟨rfl, rfl⟩
      go_wp2_with fail
      refine (CJ.out _).mono ?_
      rintro e w1 ⟨rfl, rfl⟩
      go_wp2
      have kb := (Blk.new w #[.int .i64 n2, .int .i64 n, .string ⟨#[]⟩] 28).alloc (.cells #[.int .i64 n2, .int .i64 n, .string ⟨#[]⟩] 28)
      have kd : Below w.heap.size w ((w.alloc (.cells #[.int .i64 n2, .int .i64 n, .string ⟨#[]⟩] 28)).alloc (.cells #[.int .i64 n2, .int .i64 n, .string ⟨#[]⟩] 28)) := ((Below.refl _ _).alloc (Nat.le_refl _) _).alloc (by simp) _
      have k0 := kb.cell (j := 0) rfl
      have k1 := kb.cell (j := 1) rfl
      have k2' := kb.cell (j := 2) rfl
      exact bodyPost_ret (v := .tuple #[.agg #[.int .i64 n2, .int .i64 n, .string ⟨#[]⟩], .int .i64 ((k : Int) + k2), .bool (e2 == 0)]) (by simp [results, Try.results47, go_sem, k0, k1, k2']) rfl ⟨by rw [HR.out]; rfl, kd⟩
    · have HR : Hid (r = (⟨0, 0, t3⟩, k + k3, (e3 == 0))) := by show _ = _; rw [HX.out, if_neg (by simp), if_neg hn]; rfl
      have hn0 : n = 0 := by omega
      subst hn0
      have hz1 : IntKind.i64.wrap ((k : Int) + k3) = (k : Int) + k3 := i64w (by omega) (by omega)
      clear HX CJ
      go_enter Try.func47, Try.ntmps47
      go_wp2_with fail
      refine (CI.out _).mono ?_
      rintro e w1 ⟨rfl, rfl⟩
      go_wp2_with fail
      refine (CT.out _).mono ?_
      rintro e w1 ⟨rfl, rfl⟩
      go_wp2
      have kb := (Blk.new w #[.int .i64 0, .int .i64 0, .string (strB t3)] 28).alloc (.cells #[.int .i64 0, .int .i64 0, .string (strB t3)] 28)
      have kd : Below w.heap.size w ((w.alloc (.cells #[.int .i64 0, .int .i64 0, .string (strB t3)] 28)).alloc (.cells #[.int .i64 0, .int .i64 0, .string (strB t3)] 28)) := ((Below.refl _ _).alloc (Nat.le_refl _) _).alloc (by simp) _
      have k0 := kb.cell (j := 0) rfl
      have k1 := kb.cell (j := 1) rfl
      have k2' := kb.cell (j := 2) rfl
      exact bodyPost_ret (v := .tuple #[.agg #[.int .i64 0, .int .i64 0, .string (strB t3)], .int .i64 ((k : Int) + k3), .bool (e3 == 0)]) (by simp [results, Try.results47, go_sem, k0, k1, k2']) rfl ⟨by rw [HR.out]; rfl, kd⟩
  · have HR : Hid (r = (⟨0, 0, []⟩, 0, false)) := by show _ = _; rw [HX.out, if_pos he]
    have hne : (e0 != 0) = true := by simpa using he
    clear HX CT CJ
    go_enter Try.func47, Try.ntmps47
    go_wp2_with fail
    refine (CI.out _).mono ?_
    rintro e w1 ⟨rfl, rfl⟩
    go_wp2
    have kb := (Blk.new w #[.int .i64 0, .int .i64 0, .string ⟨#[]⟩] 28).alloc (.cells #[.int .i64 0, .int .i64 0, .string ⟨#[]⟩] 28)
    have kd : Below w.heap.size w ((w.alloc (.cells #[.int .i64 0, .int .i64 0, .string ⟨#[]⟩] 28)).alloc (.cells #[.int .i64 0, .int .i64 0, .string ⟨#[]⟩] 28)) := ((Below.refl _ _).alloc (Nat.le_refl _) _).alloc (by simp) _
    have k0 := kb.cell (j := 0) rfl
    have k1 := kb.cell (j := 1) rfl
    have k2' := kb.cell (j := 2) rfl
    exact bodyPost_ret (v := .tuple #[.agg #[.int .i64 0, .int .i64 0, .string ⟨#[]⟩], .int .i64 0, .bool false]) (by simp [results, Try.results47, go_sem, k0, k1, k2']) rfl ⟨by rw [HR.out]; rfl, kd⟩

/-- A call that answers a slice that reads as a delta, and an error. -/
def DecE (r : List DOp × Int) (w0 : World) (e : Ending) (w : World) : Prop := ∃ v, e = .returned (.tuple #[v, .int .i64 r.2]) ∧ Dls w v r.1 ∧ Below w0.heap.size w0 w
theorem DecE.nil {k : Int} {w0 w : World} (h : Below w0.heap.size w0 w) : DecE ([], k) w0 (.returned (.tuple #[.slice none 0 0, .int .i64 k])) w := ⟨_, rfl, Sl.nil _ _ _, h⟩
def DecI (s : List UInt8) (n at_ : Nat) (l : List DOp) (R : Option (List DOp × Nat)) : Prop := decA s n at_ l = R
theorem decA_step {s : List UInt8} {n at_ : Nat} {l : List DOp} : decA s (n + 1) at_ l = if (decX (s.drop at_)).2.2 then decA s n (at_ + (decX (s.drop at_)).2.1) (l ++ [(decX (s.drop at_)).1]) else none := rfl
theorem sml64 {l : List DOp} (h : ∀ x ∈ l, Sml x) : ∀ x ∈ l, Int64 x.off ∧ Int64 x.len ∧ x.data.length ≤ 9000000000000000000 := fun x hx => by
  obtain ⟨a, b, c, d, e⟩ := h x hx
  exact ⟨⟨by omega, by omega⟩, ⟨by omega, by omega⟩, by omega⟩
theorem flat_snoc (l : List DOp) (x : DOp) : (l ++ [x]).flatMap dC = l.flatMap dC ++ dC x := by simp

set_option maxRecDepth 100000 in
set_option maxHeartbeats 4000000 in
theorem decode_any (s : ByteArray) (w : World) (hs : s.size ≤ 100000000) : Calls Try.prog 26 #[.string s] w (DecE (decodeD s.data.toList) w) := by
  obtain ⟨i1, hi1, hy0, hy1, hy2⟩ := info_parts Try.info_op
  have CI := Lib.hid (getInt_any s w)
  have HL : Hid (s.data.toList.length = s.size) := rfl
  obtain ⟨b1, b2⟩ := getI_bd s.data.toList
  rw [HL.out] at b2
  have HX : Hid (decodeD s.data.toList = if (getI s.data.toList).2.2 ≠ 0 then ([], 13) else decEnd s.data.toList (decA s.data.toList (getI s.data.toList).1 (getI s.data.toList).2.1 [])) := rfl
  generalize decodeD s.data.toList = r at *
  generalize getI s.data.toList = q at *
  obtain ⟨n, k0, e0⟩ := q
  unfold gI at CI
  simp only at HX b1 b2 CI
  by_cases he : e0 = 0
  · subst he
    have HR : Hid (r = decEnd s.data.toList (decA s.data.toList n k0 [])) := by show _ = _; rw [HX.out, if_neg (by simp)]
    clear HX
    have HC0 : Hid (DecI s.data.toList (n - 0) k0 [] (decA s.data.toList n k0 [])) := rfl
    generalize decA s.data.toList n k0 [] = R at *
    go_enter Try.func26, Try.ntmps26
    go_wp2_with fail
    refine CI.out.mono ?_
    rintro e w1 ⟨rfl, rfl⟩
    clear CI
    go_wp2
    go_loopw [5, 7, 20] (fun ai vl ii wr => ∃ (k at_ : Nat) (l : List DOp), k ≤ n ∧ at_ ≤ s.size ∧ l.length ≤ at_ ∧ ii = .int .i64 k ∧ ai = .int .i64 at_ ∧ wr.ownsRow w1.heap.size 28 3 vl l.length (l.flatMap dC) ∧ Hid (DecI s.data.toList (n - k) at_ l R) ∧ Hid (∀ x ∈ l, Sml x) ∧ Below w1.heap.size w1 wr) (fun _ _ ii _ => n - (intOf ii).toNat)
    case atStart => exact ⟨0, k0, [], by omega, b2, by simp, rfl, rfl, World.ownsRow_nil _ _ _ _, HC0, fun x hx => by simp at hx, Below.refl _ _⟩
    case round =>
      clear HC0 b2
      obtain ⟨k, at_, l, hk, hat, hll, rfl, rfl, hown, HC, HS, hbw⟩ := hrel
      have hsz := hbw.size
      by_cases hlt : k < n
      · have CO := decodeOp_any (s.extract at_ s.size) wr (by rw [ByteArray.size_extract]; omega)
        rw [drop_str] at CO
        have HD : Hid ((if (decX (s.data.toList.drop at_)).2.2 then decA s.data.toList (n - (k + 1)) (at_ + (decX (s.data.toList.drop at_)).2.1) (l ++ [(decX (s.data.toList.drop at_)).1]) else none) = R) := by
          show _ = _
          rw [← show decA s.data.toList (n - k) at_ l = R from HC.out, show n - k = (n - (k + 1)) + 1 by omega, decA_step]
        obtain ⟨x1, x2⟩ := decX_sml (s.data.toList.drop at_)
        rw [List.length_drop, HL.out] at x2
        have x3 : (decX (s.data.toList.drop at_)).2.2 = true → 2 ≤ (decX (s.data.toList.drop at_)).2.1 := fun h => by
          have ex : decX (s.data.toList.drop at_) = ((decX (s.data.toList.drop at_)).1, (decX (s.data.toList.drop at_)).2.1, true) := by rw [← h]
          obtain ⟨g1, g2, _⟩ := decX_dec ex
          have := encX_pos _ g1
          omega
        generalize decX (s.data.toList.drop at_) = q at *
        obtain ⟨x, c, ok⟩ := q
        simp only at HD x1 x2 x3
        have CO' := Lib.hid CO
        have X1 := Lib.hid x1
        have HO := Lib.hid hown
        have HB := Lib.hid hbw
        have hat0 : (0 : Int) ≤ (at_ : Int) := by omega
        have hat1 : (at_ : Int) ≤ (s.size : Int) := by omega
        unfold DopE dV at CO'
        clear CO x1 HC hbw hown
        go_wp2_with fail
        refine CO'.out.mono ?_
        rintro e w2 ⟨rfl, hb2⟩
        simp only
        have hs2 := hb2.size
        have hal := (Below.refl w2.heap.size w2).alloc (Nat.le_refl _) (.cells #[.int .i64 x.off, .int .i64 x.len, .string (strB x.data)] 28)
        have hbx := Blk.new w2 #[.int .i64 x.off, .int .i64 x.len, .string (strB x.data)] 28
        have HB2 := Lib.hid (HB.out.trans (hb2.mono hsz))
        have HO2 := Lib.hid (HO.out.kept (grown_of_below hb2) (by cases u7.ownBlock <;> simp))
        clear CO' HB HO hb2
        cases ok with
        | false =>
          have HR2 : Hid (r = ([], 13)) := by show _ = _; rw [HR.out, ← HD.out]; rfl
          have HE : Hid (DecE r w1 (.returned (.tuple #[.slice none 0 0, .int .i64 13])) (w2.alloc (.cells #[.int .i64 x.off, .int .i64 x.len, .string (strB x.data)] 28))) := by rw [HR2.out]; exact DecE.nil (HB2.out.trans (hal.mono HB2.out.size))
          clear HD HR HR2 HB2 HO2 hal hbx x3
          go_wp2
          go_ret2
          exact HE.out
        | true =>
          have hc2 := x3 rfl
          have HD2 : Hid (DecI s.data.toList (n - (k + 1)) (at_ + c) (l ++ [x]) R) := by show _ = _; rw [← HD.out, if_pos rfl]
          have HB3 := Lib.hid (HB2.out.trans (hal.mono HB2.out.size))
          have HS2 : Hid (∀ y ∈ l ++ [x], Sml y) := fun y hy => by
            rcases List.mem_append.1 hy with hy | hy
            · exact HS.out y hy
            · obtain rfl : y = x := by simpa using hy
              exact X1.out
          have HO3 := Lib.hid (HO2.out.alloc (.cells #[.int .i64 x.off, .int .i64 x.len, .string (strB x.data)] 28))
          have hs3 : w1.heap.size ≤ (w2.alloc (.cells #[.int .i64 x.off, .int .i64 x.len, .string (strB x.data)] 28)).heap.size := HB3.out.size
          have hac : at_ + c ≤ s.size := by omega
          clear HD HB2 HO2 x3 HS HR
          go_upto_region 10 with (fail)
          generalize w2.alloc (.cells #[.int .i64 x.off, .int .i64 x.len, .string (strB x.data)] 28) = w3 at *
          generalize w2.heap.size = gx at *
          have q0 : w3.cell? ⟨gx, 0, none⟩ = some (.int .i64 x.off) := hbx.cell (j := 0) rfl
          have q1 : w3.cell? ⟨gx, 1, none⟩ = some (.int .i64 x.len) := hbx.cell (j := 1) rfl
          have q2 : w3.cell? ⟨gx, 2, none⟩ = some (.string (strB x.data)) := hbx.cell (j := 2) rfl
          clear hal hbx
          go_wp2_with (at_builtin; go_must (refine wpList_append_any _ rfl (.tmp 32) (.tmp 34) _ rfl w1.heap.size 28 i1 _ 3 32 Try.underlying24 hi1 hy0 hy1 hy2 rfl (by omega) u7 l.length _ rfl (HO3.out.alloc _) _ 1 1 [.int .i64 x.off, .int .i64 x.len, .string (strB x.data)] rfl rfl (CellsAt.of_new _ _ _ _) (by simp [Value.oneCell']) (by omega) (by omega) (by simp; omega) ?_; intro v4 w4 hown4 hgr4 hat4))
          have HO4 : Hid (w4.ownsRow w1.heap.size 28 3 v4 (l ++ [x]).length ((l ++ [x]).flatMap dC)) := by
            show World.ownsRow _ _ _ _ _ _ _
            rw [flat_snoc, List.length_append, List.length_singleton]
            exact hown4
          have HB4 := Lib.hid ((HB3.out.alloc hs3 (.cells #[.int .i64 x.off, .int .i64 x.len, .string (strB x.data)] 28)).grown hgr4 (by simp; omega) (fun g h => (HO3.out.lt g h).1))
          clear hown4 hgr4 hat4 HO3 HB3 q0 q1 q2
          go_wp2
          go_roundw
          case rel => exact ⟨k + 1, at_ + c, l ++ [x], by omega, hac, by rw [List.length_append, List.length_singleton]; omega, by go_num, by go_num, HO4.out, HD2, HS2, HB4.out⟩
          case measure => simp [intOf]; omega
      · have hkn : k = n := by omega
        subst hkn
        rw [Nat.sub_self] at HC
        have HR1 : Hid (r = if at_ = s.size ∧ checkD l 65536 = 0 then (l, 0) else ([], 13)) := by
          show _ = _
          rw [HR.out, ← show decA s.data.toList 0 at_ l = R from HC.out]
          show (if at_ = s.data.toList.length ∧ checkD l 65536 = 0 then (l, (0 : Int)) else ([], 13)) = _
          rw [HL.out]
        have HDl := Lib.hid (dls_own hown)
        have CK := Lib.hid (check_any wr HDl.out 65536 (sml64 HS.out))
        obtain ⟨A, cc, rfl⟩ := own_form hown
        have HB := Lib.hid hbw
        clear HR HC hbw hown HS
        by_cases ha : at_ = s.size
        · have hab : ((at_ : Int) != (s.size : Int)) = false := by simp; omega
          have hab2 : ((at_ : Int) == (s.size : Int)) = true := by simp; omega
          go_wp2_with fail
          refine CK.out.mono ?_
          rintro e w2 ⟨rfl, hb2⟩
          by_cases hc : checkD l 65536 = 0
          · have hc1 : (checkD l 65536 != 0) = false := by simpa using hc
            have hc2 : (checkD l 65536 == 0) = true := by simpa using hc
            have HE : Hid (DecE r w1 (.returned (.tuple #[.slice A l.length cc, .int .i64 0])) w2) := by
              show DecE _ _ _ _
              rw [HR1.out, if_pos ⟨ha, hc⟩]
              exact ⟨_, rfl, HDl.out.keep (Keeps.of_below hb2), HB.out.trans (hb2.mono hsz)⟩
            generalize checkD l 65536 = z at *
            clear HR1 HDl CK HB hb2 hc
            go_wp2
            go_ret2
            exact HE.out
          · have hc1 : (checkD l 65536 != 0) = true := by simpa using hc
            have hc2 : (checkD l 65536 == 0) = false := by simpa using hc
            have HE : Hid (DecE r w1 (.returned (.tuple #[.slice none 0 0, .int .i64 13])) w2) := by
              show DecE _ _ _ _
              rw [HR1.out, if_neg (fun h => hc h.2)]
              exact DecE.nil (HB.out.trans (hb2.mono hsz))
            generalize checkD l 65536 = z at *
            clear HR1 HDl CK HB hb2 hc
            go_wp2
            go_ret2
            exact HE.out
        · have hab : ((at_ : Int) != (s.size : Int)) = true := by simp; omega
          have hab2 : ((at_ : Int) == (s.size : Int)) = false := by simp; omega
          have HE : Hid (DecE r w1 (.returned (.tuple #[.slice none 0 0, .int .i64 13])) wr) := by
            show DecE _ _ _ _
            rw [HR1.out, if_neg (fun h => ha h.1)]
            exact DecE.nil HB.out
          clear HR1 HDl CK HB
          go_wp2
          go_ret2
          exact HE.out
  · have HR : Hid (DecE r w (.returned (.tuple #[.slice none 0 0, .int .i64 13])) w) := by
      show DecE _ _ _ _
      rw [HX.out, if_pos he]
      exact DecE.nil (Below.refl _ _)
    have hne : (e0 != 0) = true := by simpa using he
    clear HX
    go_enter Try.func26, Try.ntmps26
    go_wp2_with fail
    refine CI.out.mono ?_
    rintro e w1 ⟨rfl, rfl⟩
    go_wp2
    go_ret2
    exact HR.out
end Go.Proofs.Ytiioebpmfjipeaa
