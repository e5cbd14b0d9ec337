/- delta: the reference's Decode. -/
import Derived.Test.YtiioebpmfjipeaaDeREnc
import Derived.BigRegion
namespace Go.Proofs.Ytiioebpmfjipeaa
set_option linter.unusedVariables false
set_option linter.unusedSimpArgs false
open Go.RowKit

/-- What the reference's loop keeps. -/
def RdI (z : Nat) (m i : Nat) (rest : List UInt8) (out : List DOp) (ok : Bool) (R : List DOp × Bool) : Prop := (if ok then rdecA z m i rest out else (out, false)) = R
theorem RdI.step {z m i : Nat} {rest : List UInt8} {out : List DOp} {R : List DOp × Bool} (h : RdI z (m + 1) i rest out true R) (hi : i ≤ z) :
    RdI z m (i + 1) (rest.drop (decX rest).2.1) (out ++ [(decX rest).1]) (decX rest).2.2 R := by
  unfold RdI at h ⊢
  rw [← h, if_pos rfl]
  show _ = if i ≤ z then (if (decX rest).2.2 then rdecA z m (i + 1) (rest.drop (decX rest).2.1) (out ++ [(decX rest).1]) else (out ++ [(decX rest).1], false)) else (out, true)
  rw [if_pos hi]
theorem decX_bad {s : List UInt8} (h : (getI s).2.2 ≠ 0) : decX s = (⟨0, 0, []⟩, 0, false) := if_pos h
theorem decX_copy {s : List UInt8} (h : (getI s).2.2 = 0) (hn : 0 < (getI s).1) : decX s = (⟨(getI (s.drop (getI s).2.1)).1, (getI s).1, []⟩, (getI s).2.1 + (getI (s.drop (getI s).2.1)).2.1, ((getI (s.drop (getI s).2.1)).2.2 == 0)) := by
  unfold decX
  rw [if_neg (fun e => e h), if_pos hn]
  rfl
theorem decX_text {s : List UInt8} (h : (getI s).2.2 = 0) (hn : ¬ 0 < (getI s).1) : decX s = (⟨0, 0, (getT (s.drop (getI s).2.1)).1⟩, (getI s).2.1 + (getT (s.drop (getI s).2.1)).2.1, ((getT (s.drop (getI s).2.1)).2.2 == 0)) := by
  unfold decX
  rw [if_neg (fun e => e h), if_neg hn]
  rfl
theorem drop0_str (s : ByteArray) : s.extract 0 s.size = s := by
  apply ByteArray.ext
  apply Array.toList_inj.1
  show (s.extract 0 s.size).data.toList = _
  rw [drop_str]; rfl

/-- What number answers, in names. -/
theorem number_is (s : ByteArray) : ∃ (n k : Nat) (e : Int) (r : ByteArray), getI s.data.toList = (n, k, e) ∧ r.data.toList = s.data.toList.drop k ∧ r.size ≤ s.size ∧ n ≤ 1099511627776 ∧ (e ≠ 0 → n = 0 ∧ k = 0) ∧
    ∀ w, Calls Try.prog 48 #[.string s] w fun x w' => x = .returned (.tuple #[.int .i64 (n : Int), .string r, .bool (e == 0)]) ∧ Drawn w w' := by
  have h := getI_bd s.data.toList
  have hn := fun w => number_any s w
  have he := getI_err s.data.toList
  have hd := drop_str s (getI s.data.toList).2.1
  have hz : (s.extract (getI s.data.toList).2.1 s.size).size ≤ s.size := by rw [ByteArray.size_extract]; omega
  generalize s.extract (getI s.data.toList).2.1 s.size = r at *
  generalize getI s.data.toList = q at *
  obtain ⟨n, k, e⟩ := q
  refine ⟨n, k, e, r, rfl, hd, hz, h.1, fun hne => ?_, hn⟩
  rcases he with he | he | he
  · exact absurd he hne
  · cases he; exact ⟨rfl, rfl⟩
  · cases he; exact ⟨rfl, rfl⟩
theorem text_is (s : ByteArray) (hs : s.size ≤ 4000000000000000000) : ∃ (d : List UInt8) (k : Nat) (e : Int), getT s.data.toList = (d, k, e) ∧ d.length ≤ 65536 ∧ k ≤ s.size ∧
    ∀ w, Calls Try.prog 49 #[.string s] w fun x w' => x = .returned (.tuple #[.string (strB d), .int .i64 (k : Int), .int .i64 e]) ∧ Drawn w w' := by
  have ht := fun w => rgetText_any s w (by omega)
  have he := getT_err s.data.toList
  have hb : (getT s.data.toList).1.length ≤ 65536 ∧ (getT s.data.toList).2.1 ≤ s.size := by
    rcases he with h | h | h
    · have e : getT s.data.toList = ((getT s.data.toList).1, (getT s.data.toList).2.1, 0) := by rw [← h]
      have h3 := getT_dec e
      have h5 := congrArg List.length h3.2.2
      rw [List.length_append, show s.data.toList.length = s.size from rfl] at h5
      exact ⟨h3.1, by rw [h3.2.1]; omega⟩
    · rw [h]; simp
    · rw [h]; simp
  generalize getT s.data.toList = q at *
  obtain ⟨d, k, e⟩ := q
  exact ⟨d, k, e, rfl, hb.1, hb.2, ht⟩

set_option maxRecDepth 100000 in
set_option maxHeartbeats 8000000 in
theorem rdecode_any (s : ByteArray) (w : World) (hs : s.size ≤ 10000) : Calls Try.prog 27 #[.string s] w (DecE (decodeD s.data.toList) w) := by
  obtain ⟨i1, hi1, hy0, hy1, hy2⟩ := info_parts Try.info_op
  obtain ⟨n, k0, e0, rest0, hq, hrd, hr0, hn, hne, CI⟩ := number_is s
  have HR : Hid (decodeD s.data.toList = if (rdecB s.data.toList).2 = true ∧ encodeD (rdecB s.data.toList).1 = (s.data.toList, 0) then ((rdecB s.data.toList).1, (0 : Int)) else ([], 13)) := (rdec_same _).symm
  have HI0 : Hid (RdI s.size (n - 0) 0 rest0.data.toList [] (e0 == 0) (rdecB s.data.toList)) := by
    show RdI _ _ _ _ _ _ _
    unfold RdI rdecB
    rw [hq, hrd]
    simp only
    by_cases h : e0 = 0
    · rw [if_pos (by simpa using h), if_neg (fun e => e h)]
      rfl
    · rw [if_neg (by simpa using h), if_pos h]
  generalize decodeD s.data.toList = r at *
  generalize rdecB s.data.toList = R at *
  have CI' := Lib.hid CI
  clear CI hq hrd hne
  generalize (e0 == 0) = ok0 at *
  go_enter Try.func27, Try.ntmps27
  go_wp2_with fail
  refine (CI'.out _).mono ?_
  rintro e w1 ⟨rfl, hd1⟩
  have K1 := Lib.hid (hd1.below w.heap.size)
  clear CI' hd1
  go_wp2
  go_loopw [5, 6, 7, 8] (fun rv okv vl ii wr => ∃ (k : Nat) (rest : ByteArray) (out : List DOp) (ok : Bool), k ≤ s.size + 1 ∧ rest.size ≤ s.size ∧ out.length ≤ k ∧ ii = .int .i64 k ∧ rv = .string rest ∧ okv = .bool ok ∧ wr.ownsRow w.heap.size 28 3 vl out.length (out.flatMap dC) ∧ Hid (RdI s.size (n - k) k rest.data.toList out ok R) ∧ Hid (∀ x ∈ out, Sml x) ∧ Below w.heap.size w wr) (fun _ _ _ ii _ => s.size + 1 - (intOf ii).toNat)
  case atStart => exact ⟨0, rest0, [], ok0, by omega, hr0, by simp, rfl, rfl, rfl, World.ownsRow_nil _ _ _ _, HI0, fun x hx => by simp at hx, K1.out⟩
  case round =>
    clear HI0 K1 hr0
    obtain ⟨k, rest, out, ok, hk, hrs, hol, rfl, rfl, rfl, hown, HI, HS, hbw⟩ := hrel
    have hsz := hbw.size
    by_cases hgo : k < n ∧ ok = true ∧ k ≤ s.size
    · obtain ⟨g1, rfl, g3⟩ := hgo
      have HI2 : Hid (RdI s.size (n - (k + 1)) (k + 1) (rest.data.toList.drop (decX rest.data.toList).2.1) (out ++ [(decX rest.data.toList).1]) (decX rest.data.toList).2.2 R) := by
        have h := HI.out
        rw [show n - k = (n - (k + 1)) + 1 by omega] at h
        exact h.step g3
      have hsml := Lib.hid (decX_sml rest.data.toList).1
      obtain ⟨n1, k1, e1, rest1, hq1, hrd1, hrs1, hn1, hne1, CN⟩ := number_is rest
      have CN1 := Lib.hid CN
      have HQ := Lib.hid hq1
      have HRD := Lib.hid hrd1
      have HNE := Lib.hid hne1
      have hbx := Blk.new wr #[.int .i64 0, .int .i64 0, .string ⟨#[]⟩] 28
      have hal := (Below.refl wr.heap.size wr).alloc (Nat.le_refl _) (.cells #[.int .i64 0, .int .i64 0, .string ⟨#[]⟩] 28)
      have HBW := Lib.hid hbw
      have HOW := Lib.hid hown
      have z1 : (k : Int) < (n : Int) := by omega
      have z2 : (k : Int) ≤ (s.size : Int) := by omega
      clear CN hq1 hrd1 hne1 hbw hown HI
      go_upto_region 7 with (fail)
      generalize wr.alloc (.cells #[.int .i64 0, .int .i64 0, .string ⟨#[]⟩] 28) = w2 at *
      generalize hgx : wr.heap.size = gx at *
      have HGX := Lib.hid hgx
      clear hgx
      go_wp2_with fail
      refine (CN1.out _).mono ?_
      rintro e w3 ⟨rfl, hd3⟩
      simp only
      have hbx3 := hbx.keep (hd3.below _)
      have hb3 := hal.trans (hd3.below _)
      have f1 := hbx3.frozen 1
      have t1 := hbx3.cell (j := 1) rfl
      have hbx4 := hbx3.set 1 (.int .i64 (n1 : Int))
      have hb4 := hb3.setCell (p := ⟨gx, 1, none⟩) (Nat.le_refl gx) (.int .i64 (n1 : Int))
      clear CN1 hbx hal hd3
      go_upto_region 8 with (fail)
      clear f1 t1 hbx3 hb3
      generalize w3.setCell ⟨gx, 1, none⟩ (.int .i64 (n1 : Int)) = w4 at *
      have q1 : w4.cell? ⟨gx, 1, none⟩ = some (.int .i64 n1) := hbx4.cell (j := 1) rfl
      by_cases he1 : e1 = 0
      · subst he1
        by_cases hn0 : 0 < n1
        · have hn1' : (0 : Int) < (n1 : Int) := by omega
          obtain ⟨n2, k2, e2, rest2, hq2, hrd2, hrs2, hn2, hne2, CN⟩ := number_is rest1
          have hdx : decX rest.data.toList = (⟨n2, n1, []⟩, k1 + k2, (e2 == 0)) := by
            rw [decX_copy (by rw [HQ.out]) (by rw [HQ.out]; exact hn0), HQ.out]
            simp only
            rw [← HRD.out, hq2]
          have HI3 : Hid (RdI s.size (n - (k + 1)) (k + 1) rest2.data.toList (out ++ [(⟨n2, n1, []⟩ : DOp)]) (e2 == 0) R) := by
            have h := HI2.out
            rw [hdx] at h
            simp only at h
            rw [← List.drop_drop, ← HRD.out, ← hrd2] at h
            exact h
          have hsm3 : Hid (Sml ⟨n2, n1, []⟩) := by have h := hsml.out; rw [hdx] at h; exact h
          have hrs3 : rest2.size ≤ s.size := by omega
          have CN2 := Lib.hid CN
          clear CN hq2 hrd2 hne2 hdx HI2 hsml HQ HRD HNE hrs2 hrs1
          go_wp2_with fail
          refine (CN2.out _).mono ?_
          rintro e w5 ⟨rfl, hd5⟩
          simp only
          have hbx5 := hbx4.keep (hd5.below _)
          have hb5 := hb4.trans (hd5.below _)
          have f0 := hbx5.frozen 0
          have t0 := hbx5.cell (j := 0) rfl
          have hbx6 := hbx5.set 0 (.int .i64 (n2 : Int))
          have hb6 := hb5.setCell (p := ⟨gx, 0, none⟩) (Nat.le_refl gx) (.int .i64 (n2 : Int))
          clear CN2 hbx4 hb4 hd5 q1
          generalize (e2 == 0) = okx at *
          go_upto_region 13 with (fail)
          clear f0 t0 hbx5 hb5
          generalize w5.setCell ⟨gx, 0, none⟩ (.int .i64 (n2 : Int)) = w6 at *
          have q0 : w6.cell? ⟨gx, 0, none⟩ = some (.int .i64 n2) := hbx6.cell (j := 0) rfl
          have q1 : w6.cell? ⟨gx, 1, none⟩ = some (.int .i64 n1) := hbx6.cell (j := 1) rfl
          have q2 : w6.cell? ⟨gx, 2, none⟩ = some (.string ⟨#[]⟩) := hbx6.cell (j := 2) rfl
          have HO6 := Lib.hid (HOW.out.kept (grown_of_below (by rw [HGX.out]; exact hb6)) (by cases u7.ownBlock <;> simp))
          have HB6 := Lib.hid (HBW.out.trans (hb6.mono hsz))
          have HSM : Hid (∀ y ∈ out ++ [(⟨n2, n1, []⟩ : DOp)], Sml y) := fun y hy => by
            rcases List.mem_append.1 hy with hy | hy
            · exact HS.out y hy
            · obtain rfl : y = ⟨n2, n1, []⟩ := by simpa using hy
              exact hsm3.out
          have hs6 := HB6.out.size
          clear hbx6 hb6 HOW HBW HS hsm3
          go_wp2_with (at_builtin; go_must (refine wpList_append_any _ rfl (.tmp 70) (.tmp 72) _ rfl w.heap.size 28 i1 _ 3 32 Try.underlying24 hi1 hy0 hy1 hy2 rfl (by omega) u7 out.length _ rfl (HO6.out.alloc _) _ 1 1 [.int .i64 n2, .int .i64 n1, .string ⟨#[]⟩] rfl rfl (CellsAt.of_new _ _ _ _) (by simp [Value.oneCell']) (by omega) (by omega) (by simp; omega) ?_; intro v7 w7 hown7 hgr7 hat7))
          have HO7 : Hid (w7.ownsRow w.heap.size 28 3 v7 (out ++ [(⟨n2, n1, []⟩ : DOp)]).length ((out ++ [(⟨n2, n1, []⟩ : DOp)]).flatMap dC)) := by
            show World.ownsRow _ _ _ _ _ _ _
            rw [flat_snoc, List.length_append, List.length_singleton]
            exact hown7
          have HB7 := Lib.hid ((HB6.out.alloc hs6 (.cells #[.int .i64 n2, .int .i64 n1, .string ⟨#[]⟩] 28)).grown hgr7 (by simp; omega) (fun g h => (HO6.out.lt g h).1))
          clear hown7 hgr7 hat7 HO6 HB6 q0 q1 q2
          go_wp2
          go_roundw
          case rel => exact ⟨k + 1, rest2, out ++ [(⟨n2, n1, []⟩ : DOp)], okx, by omega, hrs3, by rw [List.length_append, List.length_singleton]; omega, by go_num, rfl, rfl, HO7.out, HI3, HSM, HB7.out⟩
          case measure => simp [intOf]; omega
        · have hn1' : n1 = 0 := by omega
          subst hn1'
          obtain ⟨d, k2, e2, hq2, hdl, hk2, CN⟩ := text_is rest1 (by omega)
          have hdx : decX rest.data.toList = (⟨0, 0, d⟩, k1 + k2, (e2 == 0)) := by
            rw [decX_text (by rw [HQ.out]) (by rw [HQ.out]; exact hn0), HQ.out]
            simp only
            rw [← HRD.out, hq2]
          have HI3 : Hid (RdI s.size (n - (k + 1)) (k + 1) (rest1.extract k2 rest1.size).data.toList (out ++ [(⟨0, 0, d⟩ : DOp)]) (e2 == 0) R) := by
            have h := HI2.out
            rw [hdx] at h
            simp only at h
            rw [← List.drop_drop, ← HRD.out, ← drop_str] at h
            exact h
          have hsm3 : Hid (Sml ⟨0, 0, d⟩) := by have h := hsml.out; rw [hdx] at h; exact h
          have hrs3 : (rest1.extract k2 rest1.size).size ≤ s.size := by rw [ByteArray.size_extract]; omega
          have CN2 := Lib.hid CN
          have y1 : (0 : Int) ≤ (k2 : Int) := by omega
          have y2 : (k2 : Int) ≤ (rest1.size : Int) := by omega
          clear CN hq2 hdx HI2 hsml HQ HRD HNE hrs1
          go_wp2_with fail
          refine (CN2.out _).mono ?_
          rintro e w5 ⟨rfl, hd5⟩
          simp only
          have hbx5 := hbx4.keep (hd5.below _)
          have hb5 := hb4.trans (hd5.below _)
          have f2 := hbx5.frozen 2
          have t2 := hbx5.cell (j := 2) rfl
          have hbx6 := Blk.drew (hbx5.set 2 (.string (strB d)))
          have hb6 := (hb5.setCell (p := ⟨gx, 2, none⟩) (Nat.le_refl gx) (.string (strB d))).drew
          clear CN2 hbx4 hb4 hd5 q1
          go_upto_region 12 with (fail)
          go_region
          generalize (e2 == 0) = okx at *
          clear f2 t2 hbx5 hb5
          generalize (w5.setCell ⟨gx, 2, none⟩ (.string (strB d))).drew = w6 at *
          have q0 : w6.cell? ⟨gx, 0, none⟩ = some (.int .i64 0) := hbx6.cell (j := 0) rfl
          have q1 : w6.cell? ⟨gx, 1, none⟩ = some (.int .i64 0) := hbx6.cell (j := 1) rfl
          have q2 : w6.cell? ⟨gx, 2, none⟩ = some (.string (strB d)) := hbx6.cell (j := 2) rfl
          have HO6 := Lib.hid (HOW.out.kept (grown_of_below (by rw [HGX.out]; exact hb6)) (by cases u7.ownBlock <;> simp))
          have HB6 := Lib.hid (HBW.out.trans (hb6.mono hsz))
          have HSM : Hid (∀ y ∈ out ++ [(⟨0, 0, d⟩ : DOp)], Sml y) := fun y hy => by
            rcases List.mem_append.1 hy with hy | hy
            · exact HS.out y hy
            · obtain rfl : y = ⟨0, 0, d⟩ := by simpa using hy
              exact hsm3.out
          have hs6 := HB6.out.size
          clear hbx6 hb6 HOW HBW HS hsm3
          go_wp2_with (at_builtin; go_must (refine wpList_append_any _ rfl (.tmp 70) (.tmp 72) _ rfl w.heap.size 28 i1 _ 3 32 Try.underlying24 hi1 hy0 hy1 hy2 rfl (by omega) u7 out.length _ rfl (HO6.out.alloc _) _ 1 1 [.int .i64 0, .int .i64 0, .string (strB d)] rfl rfl (CellsAt.of_new _ _ _ _) (by simp [Value.oneCell']) (by omega) (by omega) (by simp; omega) ?_; intro v7 w7 hown7 hgr7 hat7))
          have HO7 : Hid (w7.ownsRow w.heap.size 28 3 v7 (out ++ [(⟨0, 0, d⟩ : DOp)]).length ((out ++ [(⟨0, 0, d⟩ : DOp)]).flatMap dC)) := by
            show World.ownsRow _ _ _ _ _ _ _
            rw [flat_snoc, List.length_append, List.length_singleton]
            exact hown7
          have HB7 := Lib.hid ((HB6.out.alloc hs6 (.cells #[.int .i64 0, .int .i64 0, .string (strB d)] 28)).grown hgr7 (by simp; omega) (fun g h => (HO6.out.lt g h).1))
          clear hown7 hgr7 hat7 HO6 HB6 q0 q1 q2
          go_wp2
          go_roundw
          case rel => exact ⟨k + 1, (rest1.extract k2 rest1.size), out ++ [(⟨0, 0, d⟩ : DOp)], okx, by omega, hrs3, by rw [List.length_append, List.length_singleton]; omega, by go_num, rfl, rfl, HO7.out, HI3, HSM, HB7.out⟩
          case measure => simp [intOf]; omega
      · obtain ⟨hz1, hz2⟩ := HNE.out he1
        subst hz1
        subst hz2
        have hdx : decX rest.data.toList = (⟨0, 0, []⟩, 0, false) := decX_bad (by rw [HQ.out]; exact he1)
        have HI3 : Hid (RdI s.size (n - (k + 1)) (k + 1) rest1.data.toList (out ++ [(⟨0, 0, []⟩ : DOp)]) false R) := by
          have h := HI2.out
          rw [hdx] at h
          simp only at h
          rw [← HRD.out] at h
          exact h
        have hsm3 : Hid (Sml ⟨0, 0, []⟩) := by have h := hsml.out; rw [hdx] at h; exact h
        have hrs3 : rest1.size ≤ s.size := by omega
        have heb : (e1 == 0) = false := by simpa using he1
        have hbx6 := hbx4
        have hb6 := hb4
        clear hdx HI2 hsml HQ HRD HNE hrs1 hbx4 hb4
        go_upto_region 13 with (fail)
        clear heb
        generalize w4 = w6 at *
        have q0 : w6.cell? ⟨gx, 0, none⟩ = some (.int .i64 0) := hbx6.cell (j := 0) rfl
        have q1 : w6.cell? ⟨gx, 1, none⟩ = some (.int .i64 0) := hbx6.cell (j := 1) rfl
        have q2 : w6.cell? ⟨gx, 2, none⟩ = some (.string ⟨#[]⟩) := hbx6.cell (j := 2) rfl
        have HO6 := Lib.hid (HOW.out.kept (grown_of_below (by rw [HGX.out]; exact hb6)) (by cases u7.ownBlock <;> simp))
        have HB6 := Lib.hid (HBW.out.trans (hb6.mono hsz))
        have HSM : Hid (∀ y ∈ out ++ [(⟨0, 0, []⟩ : DOp)], Sml y) := fun y hy => by
          rcases List.mem_append.1 hy with hy | hy
          · exact HS.out y hy
          · obtain rfl : y = ⟨0, 0, []⟩ := by simpa using hy
            exact hsm3.out
        have hs6 := HB6.out.size
        clear hbx6 hb6 HOW HBW HS hsm3
        go_wp2_with (at_builtin; go_must (refine wpList_append_any _ rfl (.tmp 70) (.tmp 72) _ rfl w.heap.size 28 i1 _ 3 32 Try.underlying24 hi1 hy0 hy1 hy2 rfl (by omega) u7 out.length _ rfl (HO6.out.alloc _) _ 1 1 [.int .i64 0, .int .i64 0, .string ⟨#[]⟩] rfl rfl (CellsAt.of_new _ _ _ _) (by simp [Value.oneCell']) (by omega) (by omega) (by simp; omega) ?_; intro v7 w7 hown7 hgr7 hat7))
        have HO7 : Hid (w7.ownsRow w.heap.size 28 3 v7 (out ++ [(⟨0, 0, []⟩ : DOp)]).length ((out ++ [(⟨0, 0, []⟩ : DOp)]).flatMap dC)) := by
          show World.ownsRow _ _ _ _ _ _ _
          rw [flat_snoc, List.length_append, List.length_singleton]
          exact hown7
        have HB7 := Lib.hid ((HB6.out.alloc hs6 (.cells #[.int .i64 0, .int .i64 0, .string ⟨#[]⟩] 28)).grown hgr7 (by simp; omega) (fun g h => (HO6.out.lt g h).1))
        clear hown7 hgr7 hat7 HO6 HB6 q0 q1 q2
        go_wp2
        go_roundw
        case rel => exact ⟨k + 1, rest1, out ++ [(⟨0, 0, []⟩ : DOp)], false, by omega, hrs3, by rw [List.length_append, List.length_singleton]; omega, by go_num, rfl, rfl, HO7.out, HI3, HSM, HB7.out⟩
        case measure => simp [intOf]; omega
    · have HDl := Lib.hid (dls_own hown)
      cases ok with
      | false =>
        have HRR : Hid (r = if false = true ∧ encodeD out = (s.data.toList, 0) then (out, (0 : Int)) else ([], 13)) := by
          show _ = _
          rw [HR.out, ← show (out, false) = R from HI.out]
        clear HR HI hgo
        by_cases z1 : (k : Int) < (n : Int)
        · have CE := Lib.hid (rencode_any wr HDl.out (sml64 HS.out) (by omega))
          obtain ⟨A, cc, rfl⟩ := own_form hown
          have HBW := Lib.hid hbw
          unfold EncE at CE
          clear hown hbw HS
          go_wp2_with fail
          refine CE.out.mono ?_
          rintro e w3 ⟨rfl, hb3⟩
          simp only
          have HB3 := Lib.hid (HBW.out.trans (hb3.mono hsz))
          have HD3 := Lib.hid (HDl.out.keep (Keeps.of_below hb3))
          clear hb3 HBW HDl CE
          have HE : Hid (DecE r w (.returned (.tuple #[.slice none 0 0, .int .i64 13])) w3) := by
            show DecE _ _ _ _
            rw [HRR.out, if_neg (fun h => by cases h.1)]
            exact DecE.nil HB3.out
          clear HRR HB3 HD3
          generalize encodeD out = q at *
          go_wp2
          go_ret2
          exact HE.out
        · have z2 : decide ((k : Int) < (n : Int)) = false := by simp; omega
          have CE := Lib.hid (rencode_any wr HDl.out (sml64 HS.out) (by omega))
          obtain ⟨A, cc, rfl⟩ := own_form hown
          have HBW := Lib.hid hbw
          unfold EncE at CE
          clear hown hbw HS
          go_wp2_with fail
          refine CE.out.mono ?_
          rintro e w3 ⟨rfl, hb3⟩
          simp only
          have HB3 := Lib.hid (HBW.out.trans (hb3.mono hsz))
          have HD3 := Lib.hid (HDl.out.keep (Keeps.of_below hb3))
          clear hb3 HBW HDl CE
          have HE : Hid (DecE r w (.returned (.tuple #[.slice none 0 0, .int .i64 13])) w3) := by
            show DecE _ _ _ _
            rw [HRR.out, if_neg (fun h => by cases h.1)]
            exact DecE.nil HB3.out
          clear HRR HB3 HD3
          generalize encodeD out = q at *
          go_wp2
          go_ret2
          exact HE.out
      | true =>
        have hRe : R = (out, true) := by
          have h := HI.out
          unfold RdI at h
          rw [if_pos rfl] at h
          rw [← h]
          by_cases hkn : k < n
          · rw [show n - k = (n - (k + 1)) + 1 by omega]
            show (if k ≤ s.size then _ else _) = _
            rw [if_neg (fun h => hgo ⟨hkn, rfl, h⟩)]
          · rw [show n - k = 0 by omega]
            rfl
        have HRR : Hid (r = if true = true ∧ encodeD out = (s.data.toList, 0) then (out, (0 : Int)) else ([], 13)) := by
          show _ = _
          rw [HR.out, hRe]
        clear HR HI hRe
        by_cases z1 : (k : Int) < (n : Int)
        · have z2 : ¬ (k : Int) ≤ (s.size : Int) := fun h => hgo ⟨by omega, rfl, by omega⟩
          clear hgo
          have CE := Lib.hid (rencode_any wr HDl.out (sml64 HS.out) (by omega))
          obtain ⟨A, cc, rfl⟩ := own_form hown
          have HBW := Lib.hid hbw
          unfold EncE at CE
          clear hown hbw HS
          go_wp2_with fail
          refine CE.out.mono ?_
          rintro e w3 ⟨rfl, hb3⟩
          simp only
          have HB3 := Lib.hid (HBW.out.trans (hb3.mono hsz))
          have HD3 := Lib.hid (HDl.out.keep (Keeps.of_below hb3))
          clear hb3 HBW HDl CE
          by_cases hq2 : (encodeD out).2 = 0
          · by_cases hq1 : strB (encodeD out).1 = s
            · have hxe : encodeD out = (s.data.toList, 0) := by
                refine Prod.ext ?_ hq2
                rw [← hq1, strB_data]
              have HE : Hid (DecE r w (.returned (.tuple #[.slice A out.length cc, .int .i64 0])) w3) := by
                show DecE _ _ _ _
                rw [HRR.out, if_pos ⟨trivial, hxe⟩]
                exact ⟨_, rfl, HD3.out, HB3.out⟩
              have u1 : ((encodeD out).2 == 0) = true := by rw [hq2]; rfl
              have u2 : ((encodeD out).2 != 0) = false := by rw [hq2]; rfl
              have u3 := str_eq hq1
              have u4 : ((strB (encodeD out).1).toList != s.toList) = false := by rw [bne, u3]; rfl
              clear HRR HB3 HD3 hxe hq2 hq1
              generalize encodeD out = q at *
              go_wp2
              go_ret2
              exact HE.out
            · have hxe : ¬ encodeD out = (s.data.toList, 0) := fun h => hq1 (by rw [h]; exact strB_of s)
              have HE : Hid (DecE r w (.returned (.tuple #[.slice none 0 0, .int .i64 13])) w3) := by
                show DecE _ _ _ _
                rw [HRR.out, if_neg (fun h => hxe h.2)]
                exact DecE.nil HB3.out
              have u1 : ((encodeD out).2 == 0) = true := by rw [hq2]; rfl
              have u2 : ((encodeD out).2 != 0) = false := by rw [hq2]; rfl
              have u3 := str_ne hq1
              have u4 : ((strB (encodeD out).1).toList != s.toList) = true := by rw [bne, u3]; rfl
              clear HRR HB3 HD3 hxe hq2 hq1
              generalize encodeD out = q at *
              go_wp2
              go_ret2
              exact HE.out
          · have hxe : ¬ encodeD out = (s.data.toList, 0) := fun h => hq2 (by rw [h])
            have HE : Hid (DecE r w (.returned (.tuple #[.slice none 0 0, .int .i64 13])) w3) := by
              show DecE _ _ _ _
              rw [HRR.out, if_neg (fun h => hxe h.2)]
              exact DecE.nil HB3.out
            have u1 : ((encodeD out).2 == 0) = false := by simpa using hq2
            have u2 : ((encodeD out).2 != 0) = true := by simpa using hq2
            clear HRR HB3 HD3 hxe hq2
            generalize encodeD out = q at *
            go_wp2
            go_ret2
            exact HE.out
        · have z2 : decide ((k : Int) < (n : Int)) = false := by simp; omega
          clear hgo
          have CE := Lib.hid (rencode_any wr HDl.out (sml64 HS.out) (by omega))
          obtain ⟨A, cc, rfl⟩ := own_form hown
          have HBW := Lib.hid hbw
          unfold EncE at CE
          clear hown hbw HS
          go_wp2_with fail
          refine CE.out.mono ?_
          rintro e w3 ⟨rfl, hb3⟩
          simp only
          have HB3 := Lib.hid (HBW.out.trans (hb3.mono hsz))
          have HD3 := Lib.hid (HDl.out.keep (Keeps.of_below hb3))
          clear hb3 HBW HDl CE
          by_cases hq2 : (encodeD out).2 = 0
          · by_cases hq1 : strB (encodeD out).1 = s
            · have hxe : encodeD out = (s.data.toList, 0) := by
                refine Prod.ext ?_ hq2
                rw [← hq1, strB_data]
              have HE : Hid (DecE r w (.returned (.tuple #[.slice A out.length cc, .int .i64 0])) w3) := by
                show DecE _ _ _ _
                rw [HRR.out, if_pos ⟨trivial, hxe⟩]
                exact ⟨_, rfl, HD3.out, HB3.out⟩
              have u1 : ((encodeD out).2 == 0) = true := by rw [hq2]; rfl
              have u2 : ((encodeD out).2 != 0) = false := by rw [hq2]; rfl
              have u3 := str_eq hq1
              have u4 : ((strB (encodeD out).1).toList != s.toList) = false := by rw [bne, u3]; rfl
              clear HRR HB3 HD3 hxe hq2 hq1
              generalize encodeD out = q at *
              go_wp2
              go_ret2
              exact HE.out
            · have hxe : ¬ encodeD out = (s.data.toList, 0) := fun h => hq1 (by rw [h]; exact strB_of s)
              have HE : Hid (DecE r w (.returned (.tuple #[.slice none 0 0, .int .i64 13])) w3) := by
                show DecE _ _ _ _
                rw [HRR.out, if_neg (fun h => hxe h.2)]
                exact DecE.nil HB3.out
              have u1 : ((encodeD out).2 == 0) = true := by rw [hq2]; rfl
              have u2 : ((encodeD out).2 != 0) = false := by rw [hq2]; rfl
              have u3 := str_ne hq1
              have u4 : ((strB (encodeD out).1).toList != s.toList) = true := by rw [bne, u3]; rfl
              clear HRR HB3 HD3 hxe hq2 hq1
              generalize encodeD out = q at *
              go_wp2
              go_ret2
              exact HE.out
          · have hxe : ¬ encodeD out = (s.data.toList, 0) := fun h => hq2 (by rw [h])
            have HE : Hid (DecE r w (.returned (.tuple #[.slice none 0 0, .int .i64 13])) w3) := by
              show DecE _ _ _ _
              rw [HRR.out, if_neg (fun h => hxe h.2)]
              exact DecE.nil HB3.out
            have u1 : ((encodeD out).2 == 0) = false := by simpa using hq2
            have u2 : ((encodeD out).2 != 0) = true := by simpa using hq2
            clear HRR HB3 HD3 hxe hq2
            generalize encodeD out = q at *
            go_wp2
            go_ret2
            exact HE.out
end Go.Proofs.Ytiioebpmfjipeaa
