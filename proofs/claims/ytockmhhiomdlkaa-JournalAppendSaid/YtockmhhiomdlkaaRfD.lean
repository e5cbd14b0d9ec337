/- The reference's frame. -/
import Derived.Test.YtockmhhiomdlkaaRfC
namespace Go.Proofs.Ytockmhhiomdlkaa
set_option linter.unusedVariables false
set_option linter.unusedSimpArgs false
open Go.RowKit

/-- An answer of the reference's frame. -/
def FrmE (r : List Txt × Nat × Bool) (sz : Nat) (w0 : World) (e : Ending) (w : World) : Prop := ∃ v, e = .returned (.tuple #[v, .int .i64 ((if r.2.2 = true then need r.2.1 sz else 0 : Nat) : Int)]) ∧ Txs w v r.1 ∧ Below w0.heap.size w0 w
theorem FrmE.bad {sz : Nat} {w0 w : World} (h : Below w0.heap.size w0 w) : FrmE ([], 0, false) sz w0 (.returned (.tuple #[.slice (some ⟨w.heap.size, 0, none⟩) 0 0, .int .i64 0])) (w.alloc (.cells #[] 9)) :=
  ⟨_, rfl, txs_ownS (l := []) rfl (own_empty w 9 1), h.alloc h.size _⟩
theorem fb_strB_snoc {L : List ByteArray} {k : Nat} (h : k < L.length) : strB ((L.take k).flatMap bts) ++ L[k] = strB ((L.take (k + 1)).flatMap bts) := by
  rw [List.take_succ_eq_append_getElem h, List.flatMap_append, List.flatMap_cons, List.flatMap_nil, List.append_nil, ← strB_append, strB_bts]
set_option maxRecDepth 100000 in
set_option maxHeartbeats 4000000 in
theorem rframe_any (w : World) (A : Option Addr) (c0 : Nat) (L : List ByteArray) (h : Strs w (.slice A L.length c0) L) (sz : Nat) (hs1 : 1 ≤ sz) (hs2 : sz ≤ 1000) (hS : Siz sz L) (hne : 1 ≤ L.length) (hlen : L.length ≤ 1000) :
    Calls Try.prog 89 #[.slice A L.length c0, .int .i64 sz] w (FrmE (decFr (L.flatMap bts)) sz w) := by
  have HTL := Lib.hid (fb_len hS)
  have HTK : Hid (∀ k, ((L.take k).flatMap bts).length ≤ 1000000) := fun k => by
    rw [fb_len (hS.take k), List.length_take]
    have h1 : min k L.length * sz ≤ 1000 * 1000 := Nat.mul_le_mul (by omega) (by omega)
    omega
  obtain ⟨t, ht⟩ : ∃ t, t = L.flatMap bts := ⟨_, rfl⟩
  have h1000 := HTK.out L.length
  rw [List.take_length, ← ht] at h1000
  have htpos : 1 ≤ t.length := by
    rw [ht, HTL.out]
    have := Nat.mul_le_mul hne hs1
    omega
  have HTT := Lib.hid ht
  rw [← ht]
  clear ht HTL hne
  go_enter Try.func89, Try.ntmps89
  go_wp2
  go_loop [6, 7] (fun sv iv => ∃ k : Nat, k ≤ L.length ∧ iv = .int .i64 k ∧ sv = .string (strB ((L.take k).flatMap bts))) (fun _ iv => L.length - (intOf iv).toNat)
  case atStart => exact ⟨0, by omega, rfl, rfl⟩
  case round =>
    obtain ⟨k, hk, rfl, rfl⟩ := hrel
    by_cases hlt : k < L.length
    · obtain ⟨b, off, rfl, a1⟩ := h.get hlt
      have HSN := Lib.hid (fb_strB_snoc hlt)
      have hzk := strB_size ((L.take k).flatMap bts)
      have hzb := HTK.out k
      have hsl := hS _ (List.getElem_mem hlt)
      rw [← hzk] at hzb
      clear hzk
      generalize strB ((L.take k).flatMap bts) = z at *
      generalize L[k] = x at *
      have hxb : x.size ≤ 1000 := by omega
      clear hsl
      go_wp2
      go_round
      case rel => exact ⟨k + 1, by omega, by go_num, by rw [HSN.out]⟩
      case measure => simp [intOf]; omega
    · obtain rfl : k = L.length := by omega
      rw [List.take_length, ← HTT.out]
      obtain ⟨s, hs⟩ : ∃ s, s = strB t := ⟨_, rfl⟩
      have hsd : s.data.toList = t := by rw [hs]; exact strB_data t
      have hss : s.size = t.length := by rw [hs]; exact strB_size t
      rw [← hs]
      have h0 : 0 < s.size := by omega
      have hsb : s.size ≤ 1000000 := by omega
      have HTD : Hid (decFr t = decFr s.data.toList) := by show _ = _; rw [hsd]
      clear hs hss hsd HTT htpos h1000 HTK h
      have hd0 := s[0].toNat_lt
      have HX : Hid (decFr s.data.toList = if s.data.toList.head? ≠ some 1 then ([], 0, false)
        else if (getI (s.data.toList.drop 1)).2.2 ≠ 0 ∨ s.data.toList.length - (1 + (getI (s.data.toList.drop 1)).2.1) < (getI (s.data.toList.drop 1)).1 then ([], 0, false)
        else if (getTs ((s.data.toList.drop (1 + (getI (s.data.toList.drop 1)).2.1)).take (getI (s.data.toList.drop 1)).1)).2.2 = 0 ∧ (getTs ((s.data.toList.drop (1 + (getI (s.data.toList.drop 1)).2.1)).take (getI (s.data.toList.drop 1)).1)).2.1 = (getI (s.data.toList.drop 1)).1 then
          ((getTs ((s.data.toList.drop (1 + (getI (s.data.toList.drop 1)).2.1)).take (getI (s.data.toList.drop 1)).1)).1, 1 + (getI (s.data.toList.drop 1)).2.1 + (getI (s.data.toList.drop 1)).1, true)
        else ([], 0, false)) := rfl
      generalize hRR : decFr s.data.toList = R at *
      clear hRR
      have CI := rgetInt_any (s.extract 1 s.size) w
      rw [drop_str] at CI
      obtain ⟨b1, b2⟩ := getI_bd (s.data.toList.drop 1)
      rw [List.length_drop, show s.data.toList.length = s.size from rfl] at b2
      by_cases h1 : s[0] = 1
      · have hh : ¬ (s.data.toList.head? ≠ some 1) := by rw [head_at s h0, h1]; simp
        have HX2 := Lib.hid ((HX.out).trans (if_neg hh))
        have hn0 : ((s[0].toNat : Int) != 1) = false := by rw [h1]; rfl
        clear HX hh
        have hsp : s.data.toList.length - (1 + (getI (s.data.toList.drop 1)).2.1) = s.size - (1 + (getI (s.data.toList.drop 1)).2.1) := rfl
        generalize getI (s.data.toList.drop 1) = q at *
        obtain ⟨n, k, e0⟩ := q
        simp only at HX2 b1 b2 CI hsp
        rw [hsp] at HX2
        unfold gI at CI
        simp only at CI
        have CI' := Lib.hid CI
        clear CI hsp
        have hl1 : (1 : Int) ≤ (s.size : Int) := by omega
        by_cases he : e0 = 0
        · subst he
          by_cases hn : s.size - (1 + k) < n
          · have HR : Hid (R = ([], 0, false)) := by show _ = _; rw [HX2.out, if_pos (.inr hn)]
            have hn1 : (s.size : Int) - 1 - (k : Int) < (n : Int) := by omega
            clear HX2
            go_wp2_with fail
            refine CI'.out.mono ?_
            rintro e w1 ⟨rfl, nd, hw1⟩
            have HB : Hid (Below w.heap.size w w1) := by subst hw1; exact below_drewN' (Below.refl _ _) nd
            have hsw : w1.heap.size = w.heap.size := by subst hw1; rfl
            clear CI' hw1
            go_wp2
            go_ret2
            rw [HTD.out, HR.out, ← hsw]
            exact FrmE.bad HB.out
          · have hn1 : ¬ (s.size : Int) - 1 - (k : Int) < (n : Int) := by omega
            have CT := fun w => rgetTexts_any (s.extract (1 + k) (1 + k + n)) w (by rw [ByteArray.size_extract]; omega)
            rw [show (s.extract (1 + k) (1 + k + n)).data.toList = (s.data.toList.drop (1 + k)).take n by rw [extract_app s (o := 1 + k) (l := n) (by omega)]; exact strB_data _] at CT
            have HX3 := Lib.hid (HX2.out.trans (if_neg (by rintro (h | h); exact h rfl; exact hn h)))
            clear HX2
            generalize (s.data.toList.drop (1 + k)).take n = T at *
            generalize getTs T = r at *
            obtain ⟨l, c, e1⟩ := r
            simp only at HX3 CT
            have CT' := Lib.hid CT
            clear CT
            go_wp2_with fail
            refine CI'.out.mono ?_
            rintro e w1 ⟨rfl, nd, hw1⟩
            have HB : Hid (Below w.heap.size w w1) := by subst hw1; exact below_drewN' (Below.refl _ _) nd
            clear CI' hw1
            go_wp2_with fail
            refine (CT'.out w1).mono ?_
            rintro e w2 ⟨v2, rfl, hT, hb2⟩
            have HT := Lib.hid hT
            have HB2 := Lib.hid (HB.out.trans (hb2.mono HB.out.size))
            clear CT' hb2 hT HB
            simp only
            by_cases he1 : e1 = 0
            · by_cases hcn : c = n
              · subst he1
                subst hcn
                have HR := Lib.hid (HX3.out.trans (if_pos ⟨rfl, rfl⟩))
                clear HX3
                have HQ : Hid (((k : Int) + (c : Int) + (sz : Int)) / (sz : Int) = ((need (1 + k + c) sz : Nat) : Int)) := by
                  show _ = _
                  rw [show (k : Int) + (c : Int) + (sz : Int) = ((1 + k + c + sz - 1 : Nat) : Int) by omega]; rfl
                have hsz0 : ¬ (sz : Int) = 0 := by omega
                have hnd := need_le (c := 1 + k + c) (sz := sz) (m := 1 + k + c) hs1 (by have := Nat.mul_le_mul_left (1 + k + c) hs1; omega)
                have HTT := HT.out
                obtain ⟨tA, tc, rfl, _, _⟩ := Txs.form HTT
                simp only at HTT
                go_upto_region 14 with (fail)
                go_quiet (fail)
                go_wp2
                go_ret2
                rw [HTD.out, HR.out]
                refine ⟨.slice tA l.length tc, ?_, HT.out.keep (Keeps.of_below (below_drewN' (Below.refl _ _) _)), below_drewN' HB2.out _⟩
                show Ending.returned (.tuple #[.slice tA l.length tc, .int .i64 (((k : Int) + (c : Int) + (sz : Int)) / (sz : Int))]) = _
                rw [HQ.out]; rfl
              · have HR := Lib.hid (HX3.out.trans (if_neg (fun h => hcn h.2)))
                subst he1
                have hb : ((c : Int) != (n : Int)) = true := by simp; omega
                have hsw := HB2.out.size
                clear HX3
                go_wp2
                go_ret2
                rw [HTD.out, HR.out]
                exact FrmE.bad HB2.out
            · have HR := Lib.hid (HX3.out.trans (if_neg (fun h => he1 h.1)))
              have hb : (e1 != 0) = true := by simpa using he1
              clear HX3
              go_wp2
              go_ret2
              rw [HTD.out, HR.out]
              exact FrmE.bad HB2.out
        · have HR : Hid (R = ([], 0, false)) := by show _ = _; rw [HX2.out, if_pos (.inl he)]
          have hb : (e0 != 0) = true := by simpa using he
          clear HX2
          go_wp2_with fail
          refine CI'.out.mono ?_
          rintro e w1 ⟨rfl, nd, hw1⟩
          have HB : Hid (Below w.heap.size w w1) := by subst hw1; exact below_drewN' (Below.refl _ _) nd
          have hsw : w1.heap.size = w.heap.size := by subst hw1; rfl
          clear CI' hw1
          go_wp2
          go_ret2
          rw [HTD.out, HR.out, ← hsw]
          exact FrmE.bad HB.out
      · have hh : s.data.toList.head? ≠ some 1 := by rw [head_at s h0]; simpa using h1
        have HR := Lib.hid ((HX.out).trans (if_pos hh))
        have hn0 : ((s[0].toNat : Int) != 1) = true := by
          simp
          intro e
          exact h1 (UInt8.toNat_inj.1 (by rw [show s[0].toNat = 1 by omega]; rfl))
        clear HX hh CI
        go_wp2
        go_ret2
        rw [HTD.out, HR.out]
        exact FrmE.bad (Below.refl _ _)
end Go.Proofs.Ytockmhhiomdlkaa
