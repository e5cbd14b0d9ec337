/- The reference's GetTexts and PutTexts. -/
import Derived.Test.YtockmhhiomdlkaaRfA
import Derived.Test.YtockmhhiomdlkaaJw
namespace Go.Proofs.Ytockmhhiomdlkaa
set_option linter.unusedVariables false
set_option linter.unusedSimpArgs false
open Go.RowKit

theorem ext_drop (s : ByteArray) (k : Nat) : (s.extract k s.size).data.toList = s.data.toList.drop k := by
  have := bts_extract s k s.size
  unfold bts at this
  rw [this, List.take_of_length_le]
  rw [List.length_drop]
  exact Nat.le_refl _
set_option maxRecDepth 100000 in
set_option maxHeartbeats 2000000 in
theorem rgetTexts_any (s : ByteArray) (w : World) (hs : s.size ≤ 100000000) : Calls Try.prog 104 #[.string s] w (TsE (getTs s.data.toList) w) := by
  obtain ⟨i1, hi1, hy0, hy1, hy2⟩ := info_parts Try.info_tx
  have CI := rgetInt_any s w
  have HL : Hid (s.data.toList.length = s.size) := rfl
  obtain ⟨b1, b2⟩ := getI_bd s.data.toList
  rw [HL.out] at b2
  have HX : Hid (getTs s.data.toList = if (getI s.data.toList).2.2 ≠ 0 then ([], 0, (getI s.data.toList).2.2) else if 1000 < (getI s.data.toList).1 then ([], 0, 13) else getTsA s.data.toList (getI s.data.toList).1 (getI s.data.toList).2.1 []) := rfl
  generalize getTs s.data.toList = r at *
  generalize getI s.data.toList = q at *
  obtain ⟨n, k0, e0⟩ := q
  simp only at HX b1 b2 CI
  unfold gI at CI
  simp only at CI
  have CI' := Lib.hid CI
  clear CI
  by_cases he : e0 = 0
  · subst he
    by_cases hn : 1000 < n
    · have HR : ∀ w', Below w.heap.size w w' → Hid (TsE r w (.returned (.tuple #[.slice none 0 0, .int .i64 0, .int .i64 13])) w') := fun w' hb => by
        show TsE _ _ _ _
        rw [HX.out, if_neg (by simp), if_pos hn]
        exact TsE.nil hb
      have HR' := Lib.hid HR
      have hn1 : (1000 : Int) < (n : Int) := by omega
      clear HX HR
      go_enter Try.func104, Try.ntmps104
      go_wp2_with fail
      refine CI'.out.mono ?_
      rintro e w1 ⟨rfl, nd, rfl⟩
      go_wp2
      go_ret3
      exact (HR'.out _ (below_drewN' (Below.refl _ _) nd)).out
    · have hn1 : ¬ (1000 : Int) < (n : Int) := by omega
      have HC0 : Hid (TsI s.data.toList (n - 0) k0 [] r) := by
        show TsI _ _ _ _ _
        unfold TsI
        rw [HX.out, if_neg (by simp), if_neg hn]
        rfl
      clear HX
      go_enter Try.func104, Try.ntmps104
      go_wp2_with fail
      refine CI'.out.mono ?_
      rintro e w1 ⟨rfl, nd, hw1⟩
      have hb1 : Below w.heap.size w w1 := by rw [hw1]; exact below_drewN' (Below.refl _ _) nd
      have hsz1 : w1.heap.size = w.heap.size := by rw [hw1]; rfl
      clear CI' hw1 nd
      have HE0 := own_empty w1 9 1
      rw [hsz1] at HE0
      have HE0 := Lib.hid HE0
      have HB0 := Lib.hid (hb1.alloc (by omega) (.cells #[] 9))
      go_wp2
      go_loopw [6, 8, 9] (fun ai vl ii wr => ∃ (k at_ : Nat) (l : List (List UInt8)), k ≤ n ∧ at_ ≤ s.size ∧ l.length ≤ k ∧ ii = .int .i64 k ∧ ai = .int .i64 at_ ∧ Hid (wr.ownsRow w.heap.size 9 1 vl l.length (l.flatMap txC)) ∧ Hid (TsI s.data.toList (n - k) at_ l r) ∧ Hid (Below w.heap.size w wr)) (fun _ _ ii _ => n - (intOf ii).toNat)
      case atStart => exact ⟨0, k0, [], by omega, b2, by simp, rfl, rfl, HE0, HC0, HB0⟩
      case round =>
        clear HC0 b2 HE0 HB0 hb1
        obtain ⟨k, at_, l, hk, hat, hll, rfl, rfl, HO, HC, HB⟩ := hrel
        have hsz := HB.out.size
        by_cases hlt : k < n
        · have CO := rgetText_any (s.extract at_ s.size) wr (by rw [ByteArray.size_extract]; omega)
          rw [ext_drop] at CO
          have HD := Lib.hid (TsI.step (show TsI s.data.toList ((n - (k + 1)) + 1) at_ l r by rw [show (n - (k + 1)) + 1 = n - k by omega]; exact HC.out))
          obtain ⟨x1, x2, x3⟩ := getT_bd (s.data.toList.drop at_)
          rw [List.length_drop, HL.out] at x2
          generalize getT (s.data.toList.drop at_) = q at *
          obtain ⟨t, c, e1⟩ := q
          simp only at HD x1 x2 x3 CO
          unfold gT at CO
          simp only at CO
          have CO' := Lib.hid CO
          clear CO HC
          by_cases he1 : e1 = 0
          · subst he1
            have HD2 : Hid (TsI s.data.toList (n - (k + 1)) (at_ + c) (l ++ [t]) r) := by
              show getTsA _ _ _ _ = _
              rw [← HD.out, if_neg (by simp)]
            have hac : at_ + c ≤ s.size := by omega
            clear HD x3
            go_wp2_with fail
            refine CO'.out.mono ?_
            rintro e w2 ⟨rfl, nd2, hw2⟩
            simp only
            have HO2 : Hid (w2.ownsRow w.heap.size 9 1 u8 l.length (l.flatMap txC)) := by subst hw2; exact HO.out
            have HB2 : Hid (Below w.heap.size w w2) := by subst hw2; exact below_drewN' HB.out nd2
            have hsz2 := HB2.out.size
            clear CO' hw2 nd2 HO HB
            go_wp2_with (at_builtin; go_must (refine wpList_append_any _ rfl (.tmp 41) (.tmp 43) _ rfl w.heap.size 9 i1 _ 1 16 Try.underlying22 hi1 hy0 hy1 hy2 rfl (by omega) u8 l.length _ rfl (HO2.out.alloc _) _ 1 1 [.string (strB t)] rfl rfl (CellsAt.of_new _ _ _ _) (by simp [Value.oneCell']) (by omega) (by omega) (by simp; omega) ?_; intro v4 w4 hown4 hgr4 hat4))
            have HO4 : Hid (w4.ownsRow w.heap.size 9 1 v4 (l ++ [t]).length ((l ++ [t]).flatMap txC)) := by
              show World.ownsRow _ _ _ _ _ _ _
              rw [tx_snoc, List.length_append, List.length_singleton]
              exact hown4
            have HB4 := Lib.hid ((HB2.out.alloc hsz2 (.cells #[.string (strB t)] 9)).grown hgr4 (by simp; omega) (fun g h => (HO2.out.lt g h).1))
            clear hown4 hgr4 hat4 HO2 HB2
            go_wp2
            go_roundw
            case rel => exact ⟨k + 1, at_ + c, l ++ [t], by omega, hac, by simp; omega, by go_num, by go_num, HO4, HD2, HB4⟩
            case measure => simp [intOf]; omega
          · have hne : (e1 != 0) = true := by simpa using he1
            have HR : Hid (r = ([], 0, e1)) := by
              show _ = _
              rw [← HD.out, if_pos he1]
            clear HD
            go_wp2_with fail
            refine CO'.out.mono ?_
            rintro e w2 ⟨rfl, nd2, hw2⟩
            simp only
            have HB2 : Hid (Below w.heap.size w w2) := by subst hw2; exact below_drewN' HB.out nd2
            clear CO' hw2 HO HB
            go_wp2
            go_ret3
            rw [HR.out]
            exact TsE.nil HB2.out
        · obtain rfl : k = n := by omega
          have HR : Hid (r = (l, at_, 0)) := by
            have h9 := HC.out
            rw [Nat.sub_self] at h9
            exact h9.symm
          have HT := Lib.hid (txs_own HO.out)
          clear HC HO
          go_wp2
          go_ret3
          rw [HR.out]
          exact ⟨_, rfl, HT.out, HB.out⟩
  · have hne : (e0 != 0) = true := by simpa using he
    have HR : Hid (r = ([], 0, e0)) := by show _ = _; rw [HX.out, if_pos he]
    clear HX
    go_enter Try.func104, Try.ntmps104
    go_wp2_with fail
    refine CI'.out.mono ?_
    rintro e w1 ⟨rfl, nd, hw1⟩
    have HB2 : Hid (Below w.heap.size w w1) := by subst hw1; exact below_drewN' (Below.refl _ _) nd
    clear CI' hw1
    go_wp2
    go_ret3
    rw [HR.out]
    exact TsE.nil HB2.out
end Go.Proofs.Ytockmhhiomdlkaa
