/- linediff.Invert: the walk. -/
import Derived.Test.YtobiheoammhcmaaApplyW
namespace Go.Proofs.Ytobiheoammhcmaa
open Go.RowKit

/-- How far what stands behind hunks is moved. -/
def zsum {α : Type} (l : List (Int × List α × List α)) : Int := (l.map fun h => (h.2.2.length : Int) - (h.2.1.length : Int)).sum
def invW (l : List Hk) : List Hk := invF IntKind.i64.wrap 0 l

section
variable {α : Type} {l : List (Int × List α × List α)} {i : Nat} {n : Int} {o e : List α}
theorem zsum_succ (hi : i < l.length) (he : l[i] = (n, o, e)) : zsum (l.take (i + 1)) = zsum (l.take i) + ((e.length : Int) - (o.length : Int)) := by
  unfold zsum
  rw [List.take_succ_eq_append_getElem hi, he]
  simp
theorem inv_succ (wr : Int → Int) (hi : i < l.length) (he : l[i] = (n, o, e)) : invF wr 0 (l.take (i + 1)) = invF wr 0 (l.take i) ++ [(wr (n + zsum (l.take i)), e, o)] := by
  rw [List.take_succ_eq_append_getElem hi, he, invF_append, Int.zero_add]
  rfl
theorem zsum_le (hb : ∀ h ∈ l, h.2.1.length ≤ 100000 ∧ h.2.2.length ≤ 100000) : -((l.length : Int) * 100000) ≤ zsum l ∧ zsum l ≤ (l.length : Int) * 100000 := by
  induction l with
  | nil => simp [zsum]
  | cons h l ih =>
    have h1 := ih fun g hg => hb g (List.mem_cons_of_mem _ hg)
    have h2 := hb h List.mem_cons_self
    have e1 : zsum (h :: l) = (h.2.2.length : Int) - (h.2.1.length : Int) + zsum l := by simp [zsum]
    rw [e1, List.length_cons]
    omega
theorem zsum_take (hb : ∀ h ∈ l, h.2.1.length ≤ 100000 ∧ h.2.2.length ≤ 100000) (hn : l.length ≤ 100000) (i : Nat) : -10000000000 ≤ zsum (l.take i) ∧ zsum (l.take i) ≤ 10000000000 := by
  have h1 := zsum_le (l := l.take i) fun h hm => hb h (List.mem_of_mem_take hm)
  have h2 : (l.take i).length ≤ l.length := by simp; omega
  omega
end
theorem wrap_range (n : Int) : -9223372036854775808 ≤ IntKind.i64.wrap n ∧ IntKind.i64.wrap n ≤ 9223372036854775807 := by
  rw [IntKind.wrap_i64]; omega

/-- 'make([]T, 0, n)': an empty row of the call's own. -/
theorem wpList_make_row {P : Program} (w : World) {ops : Array Oper} {rest : List Oper} {o : Oper} {a : Act} {Q : Exit → Act → World → Prop}
    (hgd : o.guard = none) (l c : Operand) (t : TypeId) (hop : o.op = Op.makeSlice t l c)
    (e : TypeId) (i : TypeInfo) (z : Value) (size : Nat) (h1 : P.underlying t = some (.slice e)) (h2 : P.info? e = some i) (h3 : i.zero = some z) (h4 : i.size = size)
    (kl kc : IntKind) (n : Nat) (hl : a.eval l = .int kl 0) (hc : a.eval c = .int kc (n : Int)) (b2 : i.bytes * n ≤ 281474976710656) (b3 : n ≤ 9223372036854775807)
    (hK : ∀ v w', w'.ownsRow w.heap.size e size v 0 [] → Below w.heap.size w w' → wpList P ops Q rest (a.put o.dst v) w') :
    wpList P ops Q (o :: rest) a w := by
  refine wpList_plain hgd fun K hK' => ?_
  obtain ⟨w', hrun, hown, hg⟩ := run_make_own (P := P) w w.heap.size t e i z size h1 h2 h3 h4 kl kc n b2 (by unfold maxLen; omega) (Nat.le_refl _)
  unfold Oper.wp
  simp [execOp, hop, hl, hc, hrun, Result.andThen]
  exact hK' _ _ (hK _ _ hown (below_of_grown hg))

def InvRel (W : World) (hs : List Hk) (v s t : Value) (wr : World) : Prop :=
  ∃ i : Nat, t = .int .i64 i ∧ s = .int .i64 (zsum (hs.take i)) ∧ i ≤ hs.length ∧ Ow wr W.heap.size 32 3 (HkR W) v (invF IntKind.i64.wrap 0 (hs.take i)) ∧ Below W.heap.size W wr

theorem inv_end {W w : World} {hs : List Hk} {v : Value} {i : Nat} (h : Ow w W.heap.size 32 3 (HkR W) v (invF IntKind.i64.wrap 0 (hs.take i))) (hi : i ≤ hs.length) (hn : ¬ i < hs.length) (hb : Below W.heap.size W w) : Hks w v (invW hs) := by
  rw [List.take_of_length_le (by omega)] at h
  exact Sl.keep (h.sl) (Keeps.refl w) (HkR.keep (Keeps.of_below hb))

set_option maxRecDepth 100000 in
set_option maxHeartbeats 2000000 in
theorem invert_any (W : World) (vl : Value) (hs : List Hk) (hl : Hks W vl hs) (hn : hs.length ≤ 100000) (hb : ∀ h ∈ hs, h.2.1.length ≤ 100000 ∧ h.2.2.length ≤ 100000) :
    Calls Try.prog 23 #[vl] W fun e w' => ∃ v, e = .returned v ∧ Hks w' v (invW hs) ∧ Below W.heap.size W w' := by
  obtain ⟨i1, hi1, hy0, hy1, hy2⟩ := info_parts Try.info_hunk
  obtain ⟨L, d, rfl, hc', hm'⟩ := hl.form
  have HZ := Lib.hid (zsum_take hb hn)
  have HB := Lib.hid hb
  clear hb
  go_enter Try.func23, Try.ntmps23
  go_wp2_with (at_make; refine wpList_make_row _ rfl _ _ _ rfl 32 i1 _ 3 Try.underlying26 hi1 hy0 hy1 .i64 .i64 hs.length rfl rfl (by rw [hy2]; omega) (by omega) ?_; intro v0 w0 hown0 hd0)
  go_loopw [3, 4, 12] (fun v s t wr => InvRel W hs v s t wr) (fun _ _ t _ => hs.length - (intOf t).toNat)
  case atStart => exact ⟨0, rfl, rfl, by omega, ⟨_, hown0, rfl⟩, hd0⟩
  case round =>
    clear hown0 hd0
    obtain ⟨i, rfl, rfl, hin, how, hd⟩ := hrel
    by_cases hlt : i < hs.length
    · obtain ⟨b, off, vo, vn, rfl, a1, a2, a3, a4, a5, a6, a7⟩ := hl.get hlt
      have hbd := HB.out _ (List.getElem_mem hlt)
      have hz := HZ.out i
      rcases hhe : hs[i] with ⟨n, o, e⟩
      rw [hhe] at a1 a4 a5 a6 a7 hbd
      simp only at a1 a4 a5 a6 a7 hbd
      have HE1 := Lib.hid (zsum_succ hlt hhe)
      have HE2 := Lib.hid (inv_succ IntKind.i64.wrap hlt hhe)
      clear hhe
      obtain ⟨Ao, co, rfl, o1, o2⟩ := a4.form
      obtain ⟨An, cn, rfl, e1, e2⟩ := a5.form
      have b1 := (Keeps.of_below hd) _ _ _ a1
      have b2 := (Keeps.of_below hd) _ _ _ a2
      have b3 := (Keeps.of_below hd) _ _ _ a3
      have hsz := hd.size
      have hlen : (invF IntKind.i64.wrap 0 (hs.take i)).length = i := by rw [invF_length, List.length_take]; omega
      generalize invF IntKind.i64.wrap 0 (hs.take i) = done at *
      generalize zsum (hs.take i) = z at *
      have z1 : IntKind.i64.wrap ((e.length : Int) - (o.length : Int)) = (e.length : Int) - (o.length : Int) := i64w (by omega) (by omega)
      have z2 : IntKind.i64.wrap (z + ((e.length : Int) - (o.length : Int))) = z + ((e.length : Int) - (o.length : Int)) := i64w (by omega) (by omega)
      have hwr := wrap_range (n + z)
      generalize hnz : IntKind.i64.wrap (n + z) = nz at *
      have hbk := Blk.new wr #[.int .i64 n, .slice Ao o.length co, .slice An e.length cn] 32
      have hd1 := hd.alloc hsz (.cells #[.int .i64 n, .slice Ao o.length co, .slice An e.length cn] 32)
      have how1 := Ow.keep how (grown_of_below ((Below.refl wr.heap.size wr).alloc (Nat.le_refl _) (.cells #[.int .i64 n, .slice Ao o.length co, .slice An e.length cn] 32))) (fun _ _ h => h)
      have hne : ∀ vs, wr.ownsRow W.heap.size 32 3 u3 done.length vs → u3.ownBlock ≠ some wr.heap.size := fun vs h e => by
        have := (h.lt _ e).2
        omega
      obtain ⟨vs0, hw0, _⟩ := how
      have hne := hne _ hw0
      clear hd hw0
      go_upto_region 6 with (fail)
      generalize wr.alloc (.cells #[.int .i64 n, .slice Ao o.length co, .slice An e.length cn] 32) = w1 at *
      generalize wr.heap.size = g at *
      have q1 := hbk.cell (j := 0) rfl
      have q2 := hbk.cell (j := 1) rfl
      have q3 := hbk.cell (j := 2) rfl
      clear b1 b2 b3
      obtain ⟨oc, hoo, hoe⟩ := how1
      have hB := hd1.size
      go_wp2_with (at_builtin; go_must (refine wpList_append_any _ rfl (.tmp 16) (.tmp 26) _ rfl W.heap.size 32 i1 _ 3 56 Try.underlying26 hi1 hy0 hy1 hy2 rfl (by omega) u3 done.length oc rfl (hoo.alloc _) _ 1 1 [.int .i64 nz, .slice An e.length cn, .slice Ao o.length co] rfl rfl (CellsAt.of_new _ _ _ _) (by simp [Value.oneCell']) (by omega) (by omega) (by simp; omega) ?_))
      intro v1 w2 hown hgr hat
      have lt1 := fun g' h => (hoo.lt g' h).1
      have hd2 := (hd1.alloc hB (.cells #[.int .i64 nz, .slice An e.length cn, .slice Ao o.length co] 32)).grown hgr (by simp; omega) lt1
      have hb2 := (hbk.alloc (.cells #[.int .i64 nz, .slice An e.length cn, .slice Ao o.length co] 32)).grown hgr hne.symm
      have how2 : Ow w2 W.heap.size 32 3 (HkR W) v1 (done ++ [(nz, e, o)]) :=
        ⟨_, by rw [List.length_append, hlen]; exact hown, hoe.append (Elems.one ⟨_, _, rfl, a5, a4, hwr.1, hwr.2⟩ rfl)⟩
      clear hd1 hbk hoo hoe hB hown hgr hat lt1 q1 q2 q3 hne
      have q2 := hb2.cell (j := 1) rfl
      have q3 := hb2.cell (j := 2) rfl
      go_wp2
      go_roundw
      case rel => exact ⟨i + 1, by go_num, by rw [HE1.out], by omega, by rw [HE2.out]; exact how2, hd2⟩
      case measure => simp [intOf] <;> omega
    · go_wp2
      go_ret
      exact ⟨_, rfl, inv_end how hin hlt hd, hd⟩
end Go.Proofs.Ytobiheoammhcmaa
