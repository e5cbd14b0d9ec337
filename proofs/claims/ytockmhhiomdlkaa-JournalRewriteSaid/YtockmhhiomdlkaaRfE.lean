/- The reference's divide. -/
import Derived.Test.YtockmhhiomdlkaaRfD
namespace Go.Proofs.Ytockmhhiomdlkaa
set_option linter.unusedVariables false
set_option linter.unusedSimpArgs false
open Go.RowKit

theorem strs_drop {w : World} {g cap : Nat} {L : List ByteArray} (h : Strs w (.slice (some ⟨g, 0, none⟩) L.length cap) L) {k : Nat} (hk : k ≤ L.length) : Strs w (.slice (some ⟨g, k, none⟩) (L.length - k) (cap - k)) (L.drop k) := by
  obtain ⟨_, _, e, h1, h2⟩ := h.form
  cases e
  have hc := strs_cells' h
  refine ⟨some ⟨g, k, none⟩, cap - k, (L.drop k).map .string, by rw [List.length_drop], by rw [List.length_drop]; omega, by unfold maxLen; omega, ?_, elems_map' _⟩
  intro i u hu
  obtain ⟨b, off, e, hcell⟩ := hc (k + i) u (by rw [← hu, List.map_drop, List.getElem?_drop])
  cases e
  exact ⟨g, k, rfl, by rw [← hcell, Nat.zero_add]⟩
/-- An answer of the reference's divide. -/
def DivE (o : Option (List Txt × Nat)) (w0 : World) (e : Ending) (w : World) : Prop := ∃ v, e = .returned (.tuple #[v, .int .i64 (((o.map (·.2)).getD 0 : Nat) : Int), .bool o.isSome]) ∧ Txs w v ((o.map (·.1)).getD []) ∧ Below w0.heap.size w0 w
set_option maxRecDepth 100000 in
set_option maxHeartbeats 4000000 in
theorem rdivide_any (w : World) (g cap : Nat) (L : List ByteArray) (h : Strs w (.slice (some ⟨g, 0, none⟩) L.length cap) L) (sz : Nat) (hs1 : 1 ≤ sz) (hs2 : sz ≤ 1000) (hS : Siz sz L) (hlen : L.length ≤ 1000) :
    Calls Try.prog 68 #[.slice (some ⟨g, 0, none⟩) L.length cap, .int .i64 sz] w (DivE (areaR (L.flatMap bts) sz L.length) w) := by
  obtain ⟨i1, hi1, hy0, hy1, hy2⟩ := info_parts Try.info_str
  obtain ⟨_, _, e0, hcap, hcm⟩ := h.form
  cases e0
  have HSS := Lib.hid hS
  obtain ⟨O, hO⟩ : ∃ O, O = areaR (L.flatMap bts) sz L.length := ⟨_, rfl⟩
  have HO0 : Hid (∃ f, L.length < 0 + f ∧ frA (L.flatMap bts) sz L.length f 0 [] = O) := ⟨L.length + 1, by omega, hO.symm⟩
  rw [← hO]
  have HLEN := Lib.hid (fb_len hS)
  have HE0 := Lib.hid (own_empty w 9 1)
  have HB0 := Lib.hid ((Below.refl w.heap.size w).alloc (Nat.le_refl _) (.cells #[] 9))
  clear hO hS
  go_enter Try.func68, Try.ntmps68
  go_wp2
  go_loopw [7, 8] (fun ov iv wr => ∃ (k : Nat) (acc : List Txt) (oA : Option Addr) (oc : Nat), k ≤ L.length ∧ acc.length ≤ 1000 * k ∧ iv = .int .i64 k ∧ ov = .slice oA acc.length oc ∧ Hid (wr.ownsRow w.heap.size 9 1 (.slice oA acc.length oc) acc.length (acc.map fun t => .string (strB t))) ∧ Hid (∃ f, L.length < k + f ∧ frA (L.flatMap bts) sz L.length f k acc = O) ∧ Hid (Below w.heap.size w wr)) (fun _ iv _ => L.length - (intOf iv).toNat)
  case atStart => exact ⟨0, [], _, _, by omega, by simp, rfl, rfl, HE0, HO0, HB0⟩
  case round =>
    clear HE0 HO0 HB0
    obtain ⟨k, acc, oA, oc, hk, hacc, rfl, rfl, HO, HF, HB⟩ := hrel
    have hsz := HB.out.size
    by_cases hlt : k < L.length
    · have HLk := Lib.hid (h.keep (Keeps.of_below HB.out))
      obtain ⟨b, off, eb, a1⟩ := HLk.out.get hlt
      cases eb
      rw [Nat.zero_add] at a1
      have hxs := HSS.out _ (List.getElem_mem hlt)
      have hx0 : 0 < L[k].size := by omega
      have hat : (L.flatMap bts)[k * sz]? = some (byte0 L[k]) := by
        have := fb_at HSS.out hs1 hlt
        rw [this, List.getD, List.getElem?_eq_getElem hlt]; rfl
      have hb0 : byte0 L[k] = L[k][0] := by
        have h9 := head_at L[k] hx0
        unfold byte0 bts
        rw [List.headD_eq_head?_getD, h9]; rfl
      rw [hb0] at hat
      have HAT := Lib.hid hat
      have hlt256 := L[k][0].toNat_lt
      clear hb0 hat hxs
      by_cases hz : L[k][0] = 0
      · have hz1 : ((L[k][0].toNat : Int) != 0) = false := by rw [hz]; rfl
        have HR : Hid (O = some (acc, k)) := by
          show _ = _
          obtain ⟨f, hf1, hf2⟩ := HF.out
          rw [← hf2, frA_stop]
          rintro ⟨_, h9⟩
          exact h9 (by rw [HAT.out, hz])
        clear HF HAT hz
        generalize L[k] = x at *
        have HT := Lib.hid (txs_ownS rfl HO.out)
        go_wp2
        go_ret3
        rw [HR.out]
        exact ⟨_, rfl, HT.out, HB.out⟩
      · have hz1 : ((L[k][0].toNat : Int) != 0) = true := by
          simp
          intro e
          exact hz (UInt8.toNat_inj.1 (by rw [show L[k][0].toNat = 0 by omega]; rfl))
        have hdl : (L.drop k).length = L.length - k := List.length_drop
        have HS2 := Lib.hid (strs_drop HLk.out hk)
        have CF := rframe_any wr (some ⟨g, k, none⟩) (cap - k) (L.drop k) (by rw [hdl]; exact HS2.out) sz hs1 hs2 (HSS.out.drop k) (by omega) (by omega)
        rw [hdl, ← fb_drop k HSS.out] at CF
        have HG : Hid (∃ f, L.length < (k + 1) + f ∧ O = if (decFr ((L.flatMap bts).drop (k * sz))).2.2 = true then frA (L.flatMap bts) sz L.length f (k + need (decFr ((L.flatMap bts).drop (k * sz))).2.1 sz) (acc ++ (decFr ((L.flatMap bts).drop (k * sz))).1) else none) := by
          obtain ⟨f, hf1, hf2⟩ := HF.out
          cases f with
          | zero => omega
          | succ f =>
            refine ⟨f, by omega, ?_⟩
            rw [← hf2, frA_go ⟨hlt, by rw [HAT.out]; simpa using hz⟩]
        have hdc : ∀ l c, decFr ((L.flatMap bts).drop (k * sz)) = (l, c, true) → l.length ≤ 1000 ∧ 1 ≤ need c sz ∧ need c sz ≤ L.length - k := fun l c e => by
          have h9 := decFr_len e
          refine ⟨(decFr_dec e).1.1, need_pos h9.1 hs1, need_le hs1 ?_⟩
          have h10 := h9.2
          rw [List.length_drop, HLEN.out] at h10
          rw [Nat.mul_sub_right_distrib]
          exact h10
        have HDC := Lib.hid hdc
        clear hdc HF HAT hz hdl
        generalize decFr ((L.flatMap bts).drop (k * sz)) = r at *
        obtain ⟨l, c, ok⟩ := r
        simp only at HG
        have CF' := Lib.hid CF
        clear CF
        generalize L[k] = x at *
        cases ok with
        | false =>
          have HR : Hid (O = none) := by obtain ⟨f, _, h9⟩ := HG.out; exact h9
          clear HG HDC
          go_wp2_with fail
          refine CF'.out.mono ?_
          rintro e w2 ⟨v2, rfl, hT, hb2⟩
          have HB2 := Lib.hid (HB.out.trans (hb2.mono HB.out.size))
          clear CF' hb2 HB hT
          simp only
          go_wp2
          go_ret3
          rw [HR.out]
          exact ⟨_, rfl, txs_ownS (l := []) rfl (own_empty w2 9 1), HB2.out.alloc HB2.out.size _⟩
        | true =>
          obtain ⟨d1, d2, d3⟩ := HDC.out l c rfl
          have HG2 : Hid (∃ f, L.length < (k + need c sz) + f ∧ frA (L.flatMap bts) sz L.length f (k + need c sz) (acc ++ l) = O) := by
            obtain ⟨f, h8, h9⟩ := HG.out
            exact ⟨f, by omega, by rw [h9]; rfl⟩
          clear HG HDC
          go_wp2_with fail
          refine CF'.out.mono ?_
          rintro e w2 ⟨v2, rfl, hT, hb2⟩
          simp only at hT
          obtain ⟨tA, tc, rfl, ht1, ht2⟩ := Txs.form hT
          have HTC := Lib.hid (txs_one hT)
          have HB2 := Lib.hid (HB.out.trans (hb2.mono HB.out.size))
          have HO2 := Lib.hid (own_stab (M := fun _ => False) HO.out (fun _ _ h => h) _ (Agree.of_below hb2 _))
          have hsz2 := HB2.out.size
          clear CF' hb2 HB hT HO
          simp only [if_true]
          generalize need c sz = nd at *
          have hnd0 : ((nd : Int) == 0) = false := by simp; omega
          go_wp2_with (at_builtin; go_must (refine wpList_append_any _ rfl (.tmp 35) (.tmp 36) _ rfl w.heap.size 9 i1 _ 1 16 Try.underlying22 hi1 hy0 hy1 hy2 rfl (by omega) (.slice oA acc.length oc) acc.length _ rfl HO2.out tA l.length tc (l.map fun t => .string (strB t)) rfl (by simp) HTC.out (by simp [Value.oneCell']) (by omega) (by omega) hsz2 ?_; intro v4 w4 hown4 hgr4 hat4))
          have HB4 := Lib.hid (HB2.out.grown hgr4 hsz2 (fun g h => (World.ownsRow.lt HO2.out g h).1))
          obtain ⟨nA, nc, rfl⟩ := own_form hown4
          have HO4 : Hid (w4.ownsRow w.heap.size 9 1 (.slice nA (acc ++ l).length nc) (acc ++ l).length ((acc ++ l).map fun t => .string (strB t))) := by
            show World.ownsRow _ _ _ _ _ _ _
            rw [List.map_append, List.length_append]
            exact hown4
          clear hown4 hgr4 hat4 HO2 HB2
          go_wp2
          go_roundw
          case rel => exact ⟨k + nd, acc ++ l, nA, nc, by omega, by rw [List.length_append]; omega, by go_num, by rw [List.length_append], HO4, HG2, HB4⟩
          case measure => simp [intOf]; omega
    · obtain rfl : k = L.length := by omega
      have HR : Hid (O = some (acc, L.length)) := by
        show _ = _
        obtain ⟨f, hf1, hf2⟩ := HF.out
        rw [← hf2, frA_stop]
        rintro ⟨h9, _⟩
        omega
      clear HF
      have HT := Lib.hid (txs_ownS rfl HO.out)
      go_wp2
      go_ret3
      rw [HR.out]
      exact ⟨_, rfl, HT.out, HB.out⟩
end Go.Proofs.Ytockmhhiomdlkaa
