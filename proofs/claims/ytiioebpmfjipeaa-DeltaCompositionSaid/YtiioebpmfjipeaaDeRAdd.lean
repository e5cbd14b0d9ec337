/- delta: the reference's add. Printed by wip/gen/gen_deradd.py. -/
import Derived.Test.YtiioebpmfjipeaaDeRM
import Derived.Test.YtiioebpmfjipeaaDeFlush
namespace Go.Proofs.Ytiioebpmfjipeaa
set_option linter.unusedVariables false
set_option linter.unusedSimpArgs false
open Go.RowKit

theorem one_flat {xs : List DOp} : ∀ u ∈ xs.flatMap dC, u.oneCell' = true := fun u hu => by
  obtain ⟨x, _, hx⟩ := List.mem_flatMap.1 hu
  simp only [dC, List.mem_cons, List.not_mem_nil, or_false] at hx
  rcases hx with rfl | rfl | rfl <;> rfl
theorem strB_append (a b : List UInt8) : strB a ++ strB b = strB (a ++ b) := by
  apply ByteArray.ext
  simp [strB, ByteArray.data_append]
theorem rowE_end {r l : List DOp} {z : DOp} {n : Nat} {cells : List Value} {v : Value} {w W w4 : World} (hr : r = l ++ [z]) (hn : n = l.length) (own4 : w4.ownsRow W.heap.size 28 3 v (n + 1) (l.flatMap dC ++ cells)) (hc : cells = dC z) (b1 : Below w.heap.size w W) (k4 : Below W.heap.size W w4) : RowE r w (.returned v) w4 := by
  subst hr
  subst hc
  subst hn
  refine ⟨v, rfl, own_base ?_ b1.size, b1.trans (k4.mono b1.size)⟩
  rw [List.length_append, List.flatMap_append]
  simpa using own4
theorem addD_nil (x : DOp) : addD [] x = [x] := rfl
theorem addD_last (ys : List DOp) (y x : DOp) : addD (ys ++ [y]) x = if x.len = 0 ∧ y.len = 0 then ys ++ [⟨0, 0, y.data ++ x.data⟩] else if 0 < x.len ∧ 0 < y.len ∧ y.off + y.len = x.off then ys ++ [⟨y.off, y.len + x.len, []⟩] else ys ++ [y] ++ [x] := by
  unfold addD
  simp only [List.getLast?_concat, List.dropLast_concat]

set_option maxRecDepth 100000 in
set_option maxHeartbeats 4000000 in
theorem radd_nil (w : World) {va : Value} (ha : Dls w va []) (x : DOp) :
    Calls Try.prog 33 #[va, dV x] w (RowE (addD [] x) w) := by
  obtain ⟨i1, hi1, hy0, hy1, hy2⟩ := info_parts Try.info_op
  obtain ⟨A, c, rfl, h1, h2⟩ := ha.form
  have HC := Lib.hid ha.cells
  have HR : Hid (addD [] x = [] ++ [x]) := rfl
  generalize addD [] x = r at *
  clear ha
  unfold dV
  go_enter Try.func33, Try.ntmps33
  go_wp2_with fail
  obtain ⟨W, hW⟩ : ∃ W, W = (w.alloc (.cells #[.int .i64 x.off, .int .i64 x.len, .string (strB x.data)] 28)).drew := ⟨_, rfl⟩
  have HWB : Hid (Below w.heap.size w W) := by subst hW; exact ((Below.refl w.heap.size w).alloc (Nat.le_refl _) _).drew
  have bx : Blk W w.heap.size 28 #[.int .i64 x.off, .int .i64 x.len, .string (strB x.data)] := by subst hW; exact Blk.drew (Blk.new w #[.int .i64 x.off, .int .i64 x.len, .string (strB x.data)] 28)
  have hS0 : W.cell? ⟨w.heap.size, 0, none⟩ = some (.int .i64 x.off) ∧ W.cell? ⟨w.heap.size, 1, none⟩ = some (.int .i64 x.len) ∧ W.cell? ⟨w.heap.size, 2, none⟩ = some (.string (strB x.data)) := ⟨bx.cell (j := 0) rfl, bx.cell (j := 1) rfl, bx.cell (j := 2) rfl⟩
  have hsz : W.heap.size = w.heap.size + 1 := by subst hW; simp
  have HS : Hid (∀ w', Below W.heap.size W w' → w'.cell? ⟨w.heap.size, 0, none⟩ = some (.int .i64 x.off) ∧ w'.cell? ⟨w.heap.size, 1, none⟩ = some (.int .i64 x.len) ∧ w'.cell? ⟨w.heap.size, 2, none⟩ = some (.string (strB x.data))) := fun w' k => ⟨by rw [k.cell (by simp only; omega)]; exact hS0.1, by rw [k.cell (by simp only; omega)]; exact hS0.2.1, by rw [k.cell (by simp only; omega)]; exact hS0.2.2⟩
  clear hsz
  have hsrc := HC.out.keep (Keeps.of_below HWB.out)
  have hsl : (([] : List DOp).flatMap dC).length = 0 * 3 := by rw [flat_len dC_len]; simp
  refine AtS.start (S := fun w' => w'.cell? ⟨w.heap.size, 0, none⟩ = some (.int .i64 x.off) ∧ w'.cell? ⟨w.heap.size, 1, none⟩ = some (.int .i64 x.len) ∧ w'.cell? ⟨w.heap.size, 2, none⟩ = some (.string (strB x.data))) (by kernel_rfl) (by rw [← hW]; exact hS0) 5 ?_
  rw [← hW]
  clear hW hS0 bx
  (refine AtS.free (i := 1) (v := ?_) (by simp only [List.getElem?_toArray, List.getElem?_cons_succ, List.getElem?_cons_zero]; rfl) (by kernel_rfl) (by kernel_rfl) (by kernel_rfl) (fun _ _ _ h => h) (by kernel_rfl) (Or.inl ⟨by rfl, fun w _ => ?_⟩) ?_; rotate_left; (go_simp; try with_reducible rfl); simp only [Act.put, List.setIfInBounds_toArray, List.set_cons_zero, List.set_cons_succ])
  (refine AtS.load (i := 3) (v := ?_) (by simp only [List.getElem?_toArray, List.getElem?_cons_succ, List.getElem?_cons_zero]; rfl) (by kernel_rfl) (by kernel_rfl) (by kernel_rfl) (fun _ _ _ h => h) [] (by kernel_rfl) (Or.inl ⟨by rfl, fun w hSw => ?_⟩) ?_; rotate_left; ((try dsimp only at hSw); go_split_ands; go_simp; try with_reducible rfl); simp only [Act.put, List.setIfInBounds_toArray, List.set_cons_zero, List.set_cons_succ])
  refine AtS.two (i := 0) (j := 4) (by simp only [List.getElem?_toArray, List.getElem?_cons_succ, List.getElem?_cons_zero]; rfl) (by simp only [List.getElem?_toArray, List.getElem?_cons_succ, List.getElem?_cons_zero]; rfl) (by kernel_rfl) (by rfl) (by rfl) ?_ ?_
  · intro K hK
    go_simp
    have k1 := (Below.refl W.heap.size W).alloc (Nat.le_refl _) (.cells #[] 28)
    have own1 : (W.alloc (.cells #[] 28)).ownsRow W.heap.size 28 3 (.slice (some ⟨W.heap.size, 0, none⟩) 0 0) 0 [] := World.ownsRow_lit W #[] 0 (Nat.le_refl _) (by decide) rfl
    refine hK _ _ (HS.out _ k1) ?_
    clear hK K
    refine AtS.two (i := 2) (j := 4) (by simp only [List.getElem?_toArray, List.getElem?_cons_succ, List.getElem?_cons_zero]; rfl) (by simp only [List.getElem?_toArray, List.getElem?_cons_succ, List.getElem?_cons_zero]; rfl) (by kernel_rfl) (by rfl) (by rfl) ?_ ?_
    · intro K hK
      refine of_if (c := Region.wanted _ _ = true) ?_ (step_append_any (ops := #[]) _ rfl _ _ _ rfl W.heap.size 28 i1 _ 3 32 Try.underlying24 hi1 hy0 hy1 hy2 rfl (by omega) (.slice (some ⟨W.heap.size, 0, none⟩) 0 0) 0 [] rfl own1 A 0 _ (([] : List DOp).flatMap dC) rfl hsl (hsrc.keep (Keeps.of_below k1)) one_flat (by omega) (by omega) (by simp) ?_)
      · rfl
      intro v1 w2 own2 gr2 _
      have k2 := k1.grown gr2 (by simp) (fun g h => (own1.lt g h).1)
      simp only [Nat.zero_add, List.nil_append] at own2
      refine hK _ _ (HS.out _ k2) ?_
      clear hK K own1 gr2 k1
      simp only [Act.put, List.setIfInBounds_toArray, List.set_cons_zero, List.set_cons_succ]
      refine AtS.only (i := 4) (by simp only [List.getElem?_toArray, List.getElem?_cons_succ, List.getElem?_cons_zero]; rfl) (by kernel_rfl) (by rfl) ?_
      intro K hK
      go_simp
      have k3 := k2.alloc (by have := k2.size; omega) (.cells #[.int .i64 x.off, .int .i64 x.len, .string (strB x.data)] 28)
      refine hK _ _ (HS.out _ k3) ?_
      clear hK K
      have own3 := own2.alloc (.cells #[.int .i64 x.off, .int .i64 x.len, .string (strB x.data)] 28)
      refine AtS.late (i := 5) (by simp only [List.getElem?_toArray, List.getElem?_cons_succ, List.getElem?_cons_zero]; rfl) (by kernel_rfl) (by rfl) (by rfl) ?_
      intro K hK
      refine of_if (c := Region.wanted _ _ = true) ?_ (step_append_any (ops := #[]) _ rfl _ _ _ rfl W.heap.size 28 i1 _ 3 32 Try.underlying24 hi1 hy0 hy1 hy2 rfl (by omega) v1 0 (([] : List DOp).flatMap dC) rfl own3 (some ⟨_, 0, none⟩) 1 1 [.int .i64 x.off, .int .i64 x.len, .string (strB x.data)] rfl rfl (CellsAt.of_new _ _ _ _) (by simp [Value.oneCell']) (by omega) (by omega) (by have := k3.size; omega) ?_)
      · rfl
      intro v4 w4 own4 gr4 _
      have k4 := k3.grown gr4 (by have := k3.size; omega) (fun g h => (own3.lt g h).1)
      have HE' := Lib.hid (rowE_end HR.out (by simp) own4 rfl HWB.out k4)
      simp only [Act.put, List.setIfInBounds_toArray, List.set_cons_zero, List.set_cons_succ]
      refine hK _ _ ?_
      clear hK K
      refine AtS.late (i := 6) (by simp only [List.getElem?_toArray, List.getElem?_cons_succ, List.getElem?_cons_zero]; rfl) (by kernel_rfl) (by rfl) (by rfl) ?_
      intro K hK
      go_simp
      refine hK _ _ (AtS.done (by kernel_rfl) (NoPanic.normal ?_))
      clear hK K
      go_wp2
      go_ret
      exact HE'.out
    · intro K hK
      go_simp
      have k2 := k1.alloc (by simp) (.cells #[.int .i64 x.off, .int .i64 x.len, .string (strB x.data)] 28)
      have own2 := own1.alloc (.cells #[.int .i64 x.off, .int .i64 x.len, .string (strB x.data)] 28)
      have nw := CellsAt.of_new (W.alloc (.cells #[] 28)) #[.int .i64 x.off, .int .i64 x.len, .string (strB x.data)] 28 (0, 0)
      rw [show (W.alloc (.cells #[] 28)).heap.size = W.heap.size + 1 by simp] at nw
      refine hK _ _ (HS.out _ k2) ?_
      clear hK K own1
      refine AtS.only (i := 2) (by simp only [List.getElem?_toArray, List.getElem?_cons_succ, List.getElem?_cons_zero]; rfl) (by kernel_rfl) (by rfl) ?_
      intro K hK
      refine of_if (c := Region.wanted _ _ = true) ?_ (step_append_any (ops := #[]) _ rfl _ _ _ rfl W.heap.size 28 i1 _ 3 32 Try.underlying24 hi1 hy0 hy1 hy2 rfl (by omega) (.slice (some ⟨W.heap.size, 0, none⟩) 0 0) 0 [] rfl own2 A 0 _ (([] : List DOp).flatMap dC) rfl hsl (hsrc.keep (Keeps.of_below k2)) one_flat (by omega) (by omega) (by simp; omega) ?_)
      · rfl
      intro v1 w3 own3 gr3 _
      have k3 := k2.grown gr3 (by simp; omega) (fun g h => (own2.lt g h).1)
      have nw3 := nw.grown gr3 (by simp [Value.ownBlock])
      simp only [Nat.zero_add, List.nil_append] at own3
      refine hK _ _ (HS.out _ k3) ?_
      clear hK K own2 gr3 k2 k1 nw
      simp only [Act.put, List.setIfInBounds_toArray, List.set_cons_zero, List.set_cons_succ]
      refine AtS.late (i := 5) (by simp only [List.getElem?_toArray, List.getElem?_cons_succ, List.getElem?_cons_zero]; rfl) (by kernel_rfl) (by rfl) (by rfl) ?_
      intro K hK
      refine of_if (c := Region.wanted _ _ = true) ?_ (step_append_any (ops := #[]) _ rfl _ _ _ rfl W.heap.size 28 i1 _ 3 32 Try.underlying24 hi1 hy0 hy1 hy2 rfl (by omega) v1 0 (([] : List DOp).flatMap dC) rfl own3 (some ⟨_, 0, none⟩) 1 1 [.int .i64 x.off, .int .i64 x.len, .string (strB x.data)] rfl rfl nw3 (by simp [Value.oneCell']) (by omega) (by omega) (by have := k3.size; omega) ?_)
      · rfl
      intro v4 w4 own4 gr4 _
      have k4 := k3.grown gr4 (by have := k3.size; omega) (fun g h => (own3.lt g h).1)
      have HE' := Lib.hid (rowE_end HR.out (by simp) own4 rfl HWB.out k4)
      simp only [Act.put, List.setIfInBounds_toArray, List.set_cons_zero, List.set_cons_succ]
      refine hK _ _ ?_
      clear hK K
      refine AtS.late (i := 6) (by simp only [List.getElem?_toArray, List.getElem?_cons_succ, List.getElem?_cons_zero]; rfl) (by kernel_rfl) (by rfl) (by rfl) ?_
      intro K hK
      go_simp
      refine hK _ _ (AtS.done (by kernel_rfl) (NoPanic.normal ?_))
      clear hK K
      go_wp2
      go_ret
      exact HE'.out
  · intro K hK
    go_simp
    have k1 := (Below.refl W.heap.size W).alloc (Nat.le_refl _) (.cells #[.int .i64 x.off, .int .i64 x.len, .string (strB x.data)] 28)
    have nw := CellsAt.of_new W #[.int .i64 x.off, .int .i64 x.len, .string (strB x.data)] 28 (0, 0)
    refine hK _ _ (HS.out _ k1) ?_
    clear hK K
    refine AtS.only (i := 0) (by simp only [List.getElem?_toArray, List.getElem?_cons_succ, List.getElem?_cons_zero]; rfl) (by kernel_rfl) (by rfl) ?_
    intro K hK
    go_simp
    have k2 := k1.alloc (by simp) (.cells #[] 28)
    have own2 := World.ownsRow_lit (base := W.heap.size) (size := 3) (e := 28) (W.alloc (.cells #[.int .i64 x.off, .int .i64 x.len, .string (strB x.data)] 28)) #[] 0 (by simp) (by decide) rfl
    rw [show (W.alloc (.cells #[.int .i64 x.off, .int .i64 x.len, .string (strB x.data)] 28)).heap.size = W.heap.size + 1 by simp] at own2
    replace own2 : World.ownsRow _ _ _ _ _ 0 [] := own2
    have nw2 := nw.keep (Keeps.alloc _ (.cells #[] 28))
    refine hK _ _ (HS.out _ k2) ?_
    clear hK K
    refine AtS.only (i := 2) (by simp only [List.getElem?_toArray, List.getElem?_cons_succ, List.getElem?_cons_zero]; rfl) (by kernel_rfl) (by rfl) ?_
    intro K hK
    refine of_if (c := Region.wanted _ _ = true) ?_ (step_append_any (ops := #[]) _ rfl _ _ _ rfl W.heap.size 28 i1 _ 3 32 Try.underlying24 hi1 hy0 hy1 hy2 rfl (by omega) (.slice (some ⟨W.heap.size + 1, 0, none⟩) 0 0) 0 [] rfl own2 A 0 _ (([] : List DOp).flatMap dC) rfl hsl (hsrc.keep (Keeps.of_below k2)) one_flat (by omega) (by omega) (by simp; omega) ?_)
    · rfl
    intro v1 w3 own3 gr3 _
    have k3 := k2.grown gr3 (by simp; omega) (fun g h => (own2.lt g h).1)
    have nw3 := nw2.grown gr3 (by simp [Value.ownBlock])
    simp only [Nat.zero_add, List.nil_append] at own3
    refine hK _ _ (HS.out _ k3) ?_
    clear hK K own2 gr3 k2 k1 nw nw2
    simp only [Act.put, List.setIfInBounds_toArray, List.set_cons_zero, List.set_cons_succ]
    refine AtS.late (i := 5) (by simp only [List.getElem?_toArray, List.getElem?_cons_succ, List.getElem?_cons_zero]; rfl) (by kernel_rfl) (by rfl) (by rfl) ?_
    intro K hK
    refine of_if (c := Region.wanted _ _ = true) ?_ (step_append_any (ops := #[]) _ rfl _ _ _ rfl W.heap.size 28 i1 _ 3 32 Try.underlying24 hi1 hy0 hy1 hy2 rfl (by omega) v1 0 (([] : List DOp).flatMap dC) rfl own3 (some ⟨_, 0, none⟩) 1 1 [.int .i64 x.off, .int .i64 x.len, .string (strB x.data)] rfl rfl nw3 (by simp [Value.oneCell']) (by omega) (by omega) (by have := k3.size; omega) ?_)
    · rfl
    intro v4 w4 own4 gr4 _
    have k4 := k3.grown gr4 (by have := k3.size; omega) (fun g h => (own3.lt g h).1)
    have HE' := Lib.hid (rowE_end HR.out (by simp) own4 rfl HWB.out k4)
    simp only [Act.put, List.setIfInBounds_toArray, List.set_cons_zero, List.set_cons_succ]
    refine hK _ _ ?_
    clear hK K
    refine AtS.late (i := 6) (by simp only [List.getElem?_toArray, List.getElem?_cons_succ, List.getElem?_cons_zero]; rfl) (by kernel_rfl) (by rfl) (by rfl) ?_
    intro K hK
    go_simp
    refine hK _ _ (AtS.done (by kernel_rfl) (NoPanic.normal ?_))
    clear hK K
    go_wp2
    go_ret
    exact HE'.out

set_option maxRecDepth 100000 in
set_option maxHeartbeats 8000000 in
theorem radd_more (w : World) {va : Value} {ys : List DOp} {y : DOp} (ha : Dls w va (ys ++ [y])) (x : DOp) (hx : 0 ≤ x.len ∧ x.len ≤ 1000000000 ∧ x.data.length ≤ 1000000000) (hy : 0 ≤ y.len ∧ y.len ≤ 1000000000 ∧ -1000000000 ≤ y.off ∧ y.off ≤ 1000000000 ∧ y.data.length ≤ 1000000000) (hl : ys.length ≤ 1000000000) :
    Calls Try.prog 33 #[va, dV x] w (RowE (addD (ys ++ [y]) x) w) := by
  obtain ⟨i1, hi1, hy0, hy1, hy2⟩ := info_parts Try.info_op
  obtain ⟨A, c, rfl, h1, h2⟩ := ha.form
  have HK : Hid (∀ w', Keeps w w' → ∃ b o, A = some ⟨b, o, none⟩ ∧ w'.cell? ⟨b, o + ys.length * 3, none⟩ = some (.int .i64 y.off) ∧ w'.cell? ⟨b, o + ys.length * 3 + 1, none⟩ = some (.int .i64 y.len) ∧ w'.cell? ⟨b, o + ys.length * 3 + 2, none⟩ = some (.string (strB y.data))) := fun w' k => Dls.get (ha.keep k) (i := ys.length) (by simp)
  have HC := Lib.hid ha.cells
  have HCY : Hid (CellsAt w A (ys.flatMap dC)) := by
    have := (HC.out).take ((ys.flatMap dC).length)
    rwa [List.flatMap_append, List.take_left'  rfl] at this
  have hwm : IntKind.i64.wrap (ys.length : Int) = (ys.length : Int) := i64w (by omega) (by omega)
  have hsx : ¬ 9223372036854775807 < (strB y.data).size + (strB x.data).size := by rw [strB_size, strB_size]; omega
  have hg0 : (0 : Int) ≤ (ys.length : Int) := by omega
  have hg1 : (ys.length : Int) ≤ (c : Int) := by simp at h1; omega
  have HD := Lib.hid (addD_last ys y x)
  have hn : (ys ++ [y]).length = ys.length + 1 := by simp
  rw [hn] at h1 ⊢
  have hw1 : IntKind.i64.wrap (((ys.length + 1 : Nat) : Int) - 1) = (ys.length : Int) := by rw [i64w (by omega) (by omega)]; omega
  have hw2 : IntKind.i64.wrap (y.off + y.len) = y.off + y.len := i64w (by omega) (by omega)
  have hw3 : IntKind.i64.wrap (y.len + x.len) = y.len + x.len := i64w (by omega) (by omega)
  generalize addD (ys ++ [y]) x = r at *
  obtain ⟨b, o, rfl, c0, c1, c2⟩ := HK.out (w.alloc (.cells #[.int .i64 x.off, .int .i64 x.len, .string (strB x.data)] 28)) (Keeps.alloc _ _)
  have hlt1 : ys.length < ys.length + 1 := by omega
  clear ha hn HK
  unfold dV
  by_cases ex : x.len = 0
  · by_cases ey : y.len = 0
    · have q1 : (x.len == (0 : Int)) = true := by simp [ex]
      have q2 : (y.len == (0 : Int)) = true := by simp [ey]
      have HR : Hid (r = ys ++ [⟨0, 0, y.data ++ x.data⟩]) := by show _ = _; rw [HD.out, if_pos ⟨ex, ey⟩]
      clear HD
      clear ex ey
      go_enter Try.func33, Try.ntmps33
      go_wp2_with fail
      clear c0 c1 c2
      obtain ⟨W, hW⟩ : ∃ W, W = ((w.alloc (.cells #[.int .i64 x.off, .int .i64 x.len, .string (strB x.data)] 28)).alloc (.cells #[.int .i64 y.off, .int .i64 y.len, .string (strB y.data)] 28)).drew := ⟨_, rfl⟩
      have HWB : Hid (Below w.heap.size w W) := by subst hW; exact (((Below.refl w.heap.size w).alloc (Nat.le_refl _) _).alloc (by simp) _).drew
      have bx : Blk W w.heap.size 28 #[.int .i64 x.off, .int .i64 x.len, .string (strB x.data)] := by subst hW; exact (Blk.drew ((Blk.new w #[.int .i64 x.off, .int .i64 x.len, .string (strB x.data)] 28).alloc _))
      have by_ : Blk W (w.heap.size + 1) 28 #[.int .i64 y.off, .int .i64 y.len, .string (strB y.data)] := by subst hW; have := Blk.drew (Blk.new (w.alloc (.cells #[.int .i64 x.off, .int .i64 x.len, .string (strB x.data)] 28)) #[.int .i64 y.off, .int .i64 y.len, .string (strB y.data)] 28); rwa [show (w.alloc (.cells #[.int .i64 x.off, .int .i64 x.len, .string (strB x.data)] 28)).heap.size = w.heap.size + 1 by simp] at this
      have hS0 : W.cell? ⟨w.heap.size, 2, none⟩ = some (.string (strB x.data)) ∧ W.cell? ⟨w.heap.size + 1, 2, none⟩ = some (.string (strB y.data)) := ⟨bx.cell (j := 2) rfl, by_.cell (j := 2) rfl⟩
      have hsz : W.heap.size = w.heap.size + 2 := by subst hW; simp
      have HS : Hid (∀ w', Below W.heap.size W w' → w'.cell? ⟨w.heap.size, 2, none⟩ = some (.string (strB x.data)) ∧ w'.cell? ⟨w.heap.size + 1, 2, none⟩ = some (.string (strB y.data))) := fun w' k => ⟨by rw [k.cell (by simp only; omega)]; exact hS0.1, by rw [k.cell (by simp only; omega)]; exact hS0.2⟩
      clear hsz
      have hsrc := HCY.out.keep (Keeps.of_below HWB.out)
      have hsl : (ys.flatMap dC).length = ys.length * 3 := by exact flat_len dC_len _
      refine AtS.start (S := fun w' => w'.cell? ⟨w.heap.size, 2, none⟩ = some (.string (strB x.data)) ∧ w'.cell? ⟨w.heap.size + 1, 2, none⟩ = some (.string (strB y.data))) (by kernel_rfl) (by rw [← hW]; exact hS0) 14 ?_
      rw [← hW]
      clear hW hS0 bx by_
      (refine AtS.free (i := 1) (v := ?_) (by simp only [List.getElem?_toArray, List.getElem?_cons_succ, List.getElem?_cons_zero]; rfl) (by kernel_rfl) (by kernel_rfl) (by kernel_rfl) (fun _ _ _ h => h) (by kernel_rfl) (Or.inl ⟨by rfl, fun w _ => ?_⟩) ?_; rotate_left; (go_simp; try with_reducible rfl); simp only [Act.put, List.setIfInBounds_toArray, List.set_cons_zero, List.set_cons_succ])
      (refine AtS.free (i := 2) (v := ?_) (by simp only [List.getElem?_toArray, List.getElem?_cons_succ, List.getElem?_cons_zero]; rfl) (by kernel_rfl) (by kernel_rfl) (by kernel_rfl) (fun _ _ _ h => h) (by kernel_rfl) (Or.inl ⟨by rfl, fun w _ => ?_⟩) ?_; rotate_left; (go_simp; try with_reducible rfl); simp only [Act.put, List.setIfInBounds_toArray, List.set_cons_zero, List.set_cons_succ])
      (refine AtS.free (i := 3) (v := ?_) (by simp only [List.getElem?_toArray, List.getElem?_cons_succ, List.getElem?_cons_zero]; rfl) (by kernel_rfl) (by kernel_rfl) (by kernel_rfl) (fun _ _ _ h => h) (by kernel_rfl) (Or.inl ⟨by rfl, fun w _ => ?_⟩) ?_; rotate_left; (go_simp; try with_reducible rfl); simp only [Act.put, List.setIfInBounds_toArray, List.set_cons_zero, List.set_cons_succ])
      (refine AtS.free (i := 4) (v := ?_) (by simp only [List.getElem?_toArray, List.getElem?_cons_succ, List.getElem?_cons_zero]; rfl) (by kernel_rfl) (by kernel_rfl) (by kernel_rfl) (fun _ _ _ h => h) (by kernel_rfl) (Or.inl ⟨by rfl, fun w _ => ?_⟩) ?_; rotate_left; (go_simp; try with_reducible rfl); simp only [Act.put, List.setIfInBounds_toArray, List.set_cons_zero, List.set_cons_succ])
      (refine AtS.free (i := 5) (v := ?_) (by simp only [List.getElem?_toArray, List.getElem?_cons_succ, List.getElem?_cons_zero]; rfl) (by kernel_rfl) (by kernel_rfl) (by kernel_rfl) (fun _ _ _ h => h) (by kernel_rfl) (Or.inl ⟨by rfl, fun w _ => ?_⟩) ?_; rotate_left; (unfold execOp; go_simp; rfl); simp only [Act.put, List.setIfInBounds_toArray, List.set_cons_zero, List.set_cons_succ])
      (refine AtS.free (i := 7) (v := ?_) (by simp only [List.getElem?_toArray, List.getElem?_cons_succ, List.getElem?_cons_zero]; rfl) (by kernel_rfl) (by kernel_rfl) (by kernel_rfl) (fun _ _ _ h => h) (by kernel_rfl) (Or.inl ⟨by rfl, fun w _ => ?_⟩) ?_; rotate_left; (go_simp; try with_reducible rfl); simp only [Act.put, List.setIfInBounds_toArray, List.set_cons_zero, List.set_cons_succ])
      (refine AtS.load (i := 8) (v := ?_) (by simp only [List.getElem?_toArray, List.getElem?_cons_succ, List.getElem?_cons_zero]; rfl) (by kernel_rfl) (by kernel_rfl) (by kernel_rfl) (fun _ _ _ h => h) [] (by kernel_rfl) (Or.inl ⟨by rfl, fun w hSw => ?_⟩) ?_; rotate_left; ((try dsimp only at hSw); go_split_ands; go_simp; try with_reducible rfl); simp only [Act.put, List.setIfInBounds_toArray, List.set_cons_zero, List.set_cons_succ])
      (refine AtS.free (i := 9) (v := ?_) (by simp only [List.getElem?_toArray, List.getElem?_cons_succ, List.getElem?_cons_zero]; rfl) (by kernel_rfl) (by kernel_rfl) (by kernel_rfl) (fun _ _ _ h => h) (by kernel_rfl) (Or.inl ⟨by rfl, fun w _ => ?_⟩) ?_; rotate_left; (go_simp; try with_reducible rfl); simp only [Act.put, List.setIfInBounds_toArray, List.set_cons_zero, List.set_cons_succ])
      (refine AtS.load (i := 10) (v := ?_) (by simp only [List.getElem?_toArray, List.getElem?_cons_succ, List.getElem?_cons_zero]; rfl) (by kernel_rfl) (by kernel_rfl) (by kernel_rfl) (fun _ _ _ h => h) [] (by kernel_rfl) (Or.inl ⟨by rfl, fun w hSw => ?_⟩) ?_; rotate_left; ((try dsimp only at hSw); go_split_ands; go_simp; try with_reducible rfl); simp only [Act.put, List.setIfInBounds_toArray, List.set_cons_zero, List.set_cons_succ])
      (refine AtS.free (i := 11) (v := ?_) (by simp only [List.getElem?_toArray, List.getElem?_cons_succ, List.getElem?_cons_zero]; rfl) (by kernel_rfl) (by kernel_rfl) (by kernel_rfl) (fun _ _ _ h => h) (by kernel_rfl) (Or.inl ⟨by rfl, fun w _ => ?_⟩) ?_; rotate_left; (unfold execOp; go_simp; rfl); simp only [Act.put, List.setIfInBounds_toArray, List.set_cons_zero, List.set_cons_succ])
      (refine AtS.free (i := 12) (v := ?_) (by simp only [List.getElem?_toArray, List.getElem?_cons_succ, List.getElem?_cons_zero]; rfl) (by kernel_rfl) (by kernel_rfl) (by kernel_rfl) (fun _ _ _ h => h) (by kernel_rfl) (Or.inl ⟨by rfl, fun w _ => ?_⟩) ?_; rotate_left; (go_simp; try with_reducible rfl); simp only [Act.put, List.setIfInBounds_toArray, List.set_cons_zero, List.set_cons_succ])
      refine AtS.two (i := 0) (j := 13) (by simp only [List.getElem?_toArray, List.getElem?_cons_succ, List.getElem?_cons_zero]; rfl) (by simp only [List.getElem?_toArray, List.getElem?_cons_succ, List.getElem?_cons_zero]; rfl) (by kernel_rfl) (by rfl) (by rfl) ?_ ?_
      · intro K hK
        go_simp
        have k1 := (Below.refl W.heap.size W).alloc (Nat.le_refl _) (.cells #[] 28)
        have own1 : (W.alloc (.cells #[] 28)).ownsRow W.heap.size 28 3 (.slice (some ⟨W.heap.size, 0, none⟩) 0 0) 0 [] := World.ownsRow_lit W #[] 0 (Nat.le_refl _) (by decide) rfl
        refine hK _ _ (HS.out _ k1) ?_
        clear hK K
        refine AtS.two (i := 6) (j := 13) (by simp only [List.getElem?_toArray, List.getElem?_cons_succ, List.getElem?_cons_zero]; rfl) (by simp only [List.getElem?_toArray, List.getElem?_cons_succ, List.getElem?_cons_zero]; rfl) (by kernel_rfl) (by rfl) (by rfl) ?_ ?_
        · intro K hK
          refine of_if (c := Region.wanted _ _ = true) ?_ (step_append_any (ops := #[]) _ rfl _ _ _ rfl W.heap.size 28 i1 _ 3 32 Try.underlying24 hi1 hy0 hy1 hy2 rfl (by omega) (.slice (some ⟨W.heap.size, 0, none⟩) 0 0) 0 [] rfl own1 (some ⟨b, o, none⟩) ys.length _ (ys.flatMap dC) rfl hsl (hsrc.keep (Keeps.of_below k1)) one_flat (by omega) (by omega) (by simp) ?_)
          · rfl
          intro v1 w2 own2 gr2 _
          have k2 := k1.grown gr2 (by simp) (fun g h => (own1.lt g h).1)
          simp only [Nat.zero_add, List.nil_append] at own2
          refine hK _ _ (HS.out _ k2) ?_
          clear hK K own1 gr2 k1
          simp only [Act.put, List.setIfInBounds_toArray, List.set_cons_zero, List.set_cons_succ]
          refine AtS.only (i := 13) (by simp only [List.getElem?_toArray, List.getElem?_cons_succ, List.getElem?_cons_zero]; rfl) (by kernel_rfl) (by rfl) ?_
          intro K hK
          go_simp
          have k3 := k2.alloc (by have := k2.size; omega) (.cells #[.int .i64 0, .int .i64 0, .string (strB y.data ++ strB x.data)] 28)
          refine hK _ _ (HS.out _ k3) ?_
          clear hK K
          have own3 := own2.alloc (.cells #[.int .i64 0, .int .i64 0, .string (strB y.data ++ strB x.data)] 28)
          refine AtS.late (i := 14) (by simp only [List.getElem?_toArray, List.getElem?_cons_succ, List.getElem?_cons_zero]; rfl) (by kernel_rfl) (by rfl) (by rfl) ?_
          intro K hK
          refine of_if (c := Region.wanted _ _ = true) ?_ (step_append_any (ops := #[]) _ rfl _ _ _ rfl W.heap.size 28 i1 _ 3 32 Try.underlying24 hi1 hy0 hy1 hy2 rfl (by omega) v1 ys.length (ys.flatMap dC) rfl own3 (some ⟨_, 0, none⟩) 1 1 [.int .i64 0, .int .i64 0, .string (strB y.data ++ strB x.data)] rfl rfl (CellsAt.of_new _ _ _ _) (by simp [Value.oneCell']) (by omega) (by omega) (by have := k3.size; omega) ?_)
          · rfl
          intro v4 w4 own4 gr4 _
          have k4 := k3.grown gr4 (by have := k3.size; omega) (fun g h => (own3.lt g h).1)
          have HE' := Lib.hid (rowE_end HR.out rfl own4 (by rw [strB_append]; rfl) HWB.out k4)
          simp only [Act.put, List.setIfInBounds_toArray, List.set_cons_zero, List.set_cons_succ]
          refine hK _ _ ?_
          clear hK K
          refine AtS.late (i := 15) (by simp only [List.getElem?_toArray, List.getElem?_cons_succ, List.getElem?_cons_zero]; rfl) (by kernel_rfl) (by rfl) (by rfl) ?_
          intro K hK
          go_simp
          refine hK _ _ (AtS.done (by kernel_rfl) (NoPanic.normal ?_))
          clear hK K
          go_wp2
          go_ret
          exact HE'.out
        · intro K hK
          go_simp
          have k2 := k1.alloc (by simp) (.cells #[.int .i64 0, .int .i64 0, .string (strB y.data ++ strB x.data)] 28)
          have own2 := own1.alloc (.cells #[.int .i64 0, .int .i64 0, .string (strB y.data ++ strB x.data)] 28)
          have nw := CellsAt.of_new (W.alloc (.cells #[] 28)) #[.int .i64 0, .int .i64 0, .string (strB y.data ++ strB x.data)] 28 (0, 0)
          rw [show (W.alloc (.cells #[] 28)).heap.size = W.heap.size + 1 by simp] at nw
          refine hK _ _ (HS.out _ k2) ?_
          clear hK K own1
          refine AtS.only (i := 6) (by simp only [List.getElem?_toArray, List.getElem?_cons_succ, List.getElem?_cons_zero]; rfl) (by kernel_rfl) (by rfl) ?_
          intro K hK
          refine of_if (c := Region.wanted _ _ = true) ?_ (step_append_any (ops := #[]) _ rfl _ _ _ rfl W.heap.size 28 i1 _ 3 32 Try.underlying24 hi1 hy0 hy1 hy2 rfl (by omega) (.slice (some ⟨W.heap.size, 0, none⟩) 0 0) 0 [] rfl own2 (some ⟨b, o, none⟩) ys.length _ (ys.flatMap dC) rfl hsl (hsrc.keep (Keeps.of_below k2)) one_flat (by omega) (by omega) (by simp; omega) ?_)
          · rfl
          intro v1 w3 own3 gr3 _
          have k3 := k2.grown gr3 (by simp; omega) (fun g h => (own2.lt g h).1)
          have nw3 := nw.grown gr3 (by simp [Value.ownBlock])
          simp only [Nat.zero_add, List.nil_append] at own3
          refine hK _ _ (HS.out _ k3) ?_
          clear hK K own2 gr3 k2 k1 nw
          simp only [Act.put, List.setIfInBounds_toArray, List.set_cons_zero, List.set_cons_succ]
          refine AtS.late (i := 14) (by simp only [List.getElem?_toArray, List.getElem?_cons_succ, List.getElem?_cons_zero]; rfl) (by kernel_rfl) (by rfl) (by rfl) ?_
          intro K hK
          refine of_if (c := Region.wanted _ _ = true) ?_ (step_append_any (ops := #[]) _ rfl _ _ _ rfl W.heap.size 28 i1 _ 3 32 Try.underlying24 hi1 hy0 hy1 hy2 rfl (by omega) v1 ys.length (ys.flatMap dC) rfl own3 (some ⟨_, 0, none⟩) 1 1 [.int .i64 0, .int .i64 0, .string (strB y.data ++ strB x.data)] rfl rfl nw3 (by simp [Value.oneCell']) (by omega) (by omega) (by have := k3.size; omega) ?_)
          · rfl
          intro v4 w4 own4 gr4 _
          have k4 := k3.grown gr4 (by have := k3.size; omega) (fun g h => (own3.lt g h).1)
          have HE' := Lib.hid (rowE_end HR.out rfl own4 (by rw [strB_append]; rfl) HWB.out k4)
          simp only [Act.put, List.setIfInBounds_toArray, List.set_cons_zero, List.set_cons_succ]
          refine hK _ _ ?_
          clear hK K
          refine AtS.late (i := 15) (by simp only [List.getElem?_toArray, List.getElem?_cons_succ, List.getElem?_cons_zero]; rfl) (by kernel_rfl) (by rfl) (by rfl) ?_
          intro K hK
          go_simp
          refine hK _ _ (AtS.done (by kernel_rfl) (NoPanic.normal ?_))
          clear hK K
          go_wp2
          go_ret
          exact HE'.out
      · intro K hK
        go_simp
        have k1 := (Below.refl W.heap.size W).alloc (Nat.le_refl _) (.cells #[.int .i64 0, .int .i64 0, .string (strB y.data ++ strB x.data)] 28)
        have nw := CellsAt.of_new W #[.int .i64 0, .int .i64 0, .string (strB y.data ++ strB x.data)] 28 (0, 0)
        refine hK _ _ (HS.out _ k1) ?_
        clear hK K
        refine AtS.only (i := 0) (by simp only [List.getElem?_toArray, List.getElem?_cons_succ, List.getElem?_cons_zero]; rfl) (by kernel_rfl) (by rfl) ?_
        intro K hK
        go_simp
        have k2 := k1.alloc (by simp) (.cells #[] 28)
        have own2 := World.ownsRow_lit (base := W.heap.size) (size := 3) (e := 28) (W.alloc (.cells #[.int .i64 0, .int .i64 0, .string (strB y.data ++ strB x.data)] 28)) #[] 0 (by simp) (by decide) rfl
        rw [show (W.alloc (.cells #[.int .i64 0, .int .i64 0, .string (strB y.data ++ strB x.data)] 28)).heap.size = W.heap.size + 1 by simp] at own2
        replace own2 : World.ownsRow _ _ _ _ _ 0 [] := own2
        have nw2 := nw.keep (Keeps.alloc _ (.cells #[] 28))
        refine hK _ _ (HS.out _ k2) ?_
        clear hK K
        refine AtS.only (i := 6) (by simp only [List.getElem?_toArray, List.getElem?_cons_succ, List.getElem?_cons_zero]; rfl) (by kernel_rfl) (by rfl) ?_
        intro K hK
        refine of_if (c := Region.wanted _ _ = true) ?_ (step_append_any (ops := #[]) _ rfl _ _ _ rfl W.heap.size 28 i1 _ 3 32 Try.underlying24 hi1 hy0 hy1 hy2 rfl (by omega) (.slice (some ⟨W.heap.size + 1, 0, none⟩) 0 0) 0 [] rfl own2 (some ⟨b, o, none⟩) ys.length _ (ys.flatMap dC) rfl hsl (hsrc.keep (Keeps.of_below k2)) one_flat (by omega) (by omega) (by simp; omega) ?_)
        · rfl
        intro v1 w3 own3 gr3 _
        have k3 := k2.grown gr3 (by simp; omega) (fun g h => (own2.lt g h).1)
        have nw3 := nw2.grown gr3 (by simp [Value.ownBlock])
        simp only [Nat.zero_add, List.nil_append] at own3
        refine hK _ _ (HS.out _ k3) ?_
        clear hK K own2 gr3 k2 k1 nw nw2
        simp only [Act.put, List.setIfInBounds_toArray, List.set_cons_zero, List.set_cons_succ]
        refine AtS.late (i := 14) (by simp only [List.getElem?_toArray, List.getElem?_cons_succ, List.getElem?_cons_zero]; rfl) (by kernel_rfl) (by rfl) (by rfl) ?_
        intro K hK
        refine of_if (c := Region.wanted _ _ = true) ?_ (step_append_any (ops := #[]) _ rfl _ _ _ rfl W.heap.size 28 i1 _ 3 32 Try.underlying24 hi1 hy0 hy1 hy2 rfl (by omega) v1 ys.length (ys.flatMap dC) rfl own3 (some ⟨_, 0, none⟩) 1 1 [.int .i64 0, .int .i64 0, .string (strB y.data ++ strB x.data)] rfl rfl nw3 (by simp [Value.oneCell']) (by omega) (by omega) (by have := k3.size; omega) ?_)
        · rfl
        intro v4 w4 own4 gr4 _
        have k4 := k3.grown gr4 (by have := k3.size; omega) (fun g h => (own3.lt g h).1)
        have HE' := Lib.hid (rowE_end HR.out rfl own4 (by rw [strB_append]; rfl) HWB.out k4)
        simp only [Act.put, List.setIfInBounds_toArray, List.set_cons_zero, List.set_cons_succ]
        refine hK _ _ ?_
        clear hK K
        refine AtS.late (i := 15) (by simp only [List.getElem?_toArray, List.getElem?_cons_succ, List.getElem?_cons_zero]; rfl) (by kernel_rfl) (by rfl) (by rfl) ?_
        intro K hK
        go_simp
        refine hK _ _ (AtS.done (by kernel_rfl) (NoPanic.normal ?_))
        clear hK K
        go_wp2
        go_ret
        exact HE'.out
    · have q1 : (x.len == (0 : Int)) = true := by simp [ex]
      have q2 : (y.len == (0 : Int)) = false := by simp [ey]
      have q3 : decide ((0 : Int) < x.len) = false := by simp; omega
      have HR : Hid (r = ys ++ [y] ++ [x]) := by show _ = _; rw [HD.out, if_neg (fun h => ey h.2), if_neg (fun h => by omega)]
      clear HD
      clear ex ey
      go_enter Try.func33, Try.ntmps33
      go_wp2_with fail
      clear c0 c1 c2
      obtain ⟨W, hW⟩ : ∃ W, W = ((w.alloc (.cells #[.int .i64 x.off, .int .i64 x.len, .string (strB x.data)] 28)).alloc (.cells #[.int .i64 y.off, .int .i64 y.len, .string (strB y.data)] 28)).drew := ⟨_, rfl⟩
      have HWB : Hid (Below w.heap.size w W) := by subst hW; exact (((Below.refl w.heap.size w).alloc (Nat.le_refl _) _).alloc (by simp) _).drew
      have bx : Blk W w.heap.size 28 #[.int .i64 x.off, .int .i64 x.len, .string (strB x.data)] := by subst hW; exact (Blk.drew ((Blk.new w #[.int .i64 x.off, .int .i64 x.len, .string (strB x.data)] 28).alloc _))
      have by_ : Blk W (w.heap.size + 1) 28 #[.int .i64 y.off, .int .i64 y.len, .string (strB y.data)] := by subst hW; have := Blk.drew (Blk.new (w.alloc (.cells #[.int .i64 x.off, .int .i64 x.len, .string (strB x.data)] 28)) #[.int .i64 y.off, .int .i64 y.len, .string (strB y.data)] 28); rwa [show (w.alloc (.cells #[.int .i64 x.off, .int .i64 x.len, .string (strB x.data)] 28)).heap.size = w.heap.size + 1 by simp] at this
      have hS0 : W.cell? ⟨w.heap.size, 0, none⟩ = some (.int .i64 x.off) ∧ W.cell? ⟨w.heap.size, 1, none⟩ = some (.int .i64 x.len) ∧ W.cell? ⟨w.heap.size, 2, none⟩ = some (.string (strB x.data)) := ⟨bx.cell (j := 0) rfl, bx.cell (j := 1) rfl, bx.cell (j := 2) rfl⟩
      have hsz : W.heap.size = w.heap.size + 2 := by subst hW; simp
      have HS : Hid (∀ w', Below W.heap.size W w' → w'.cell? ⟨w.heap.size, 0, none⟩ = some (.int .i64 x.off) ∧ w'.cell? ⟨w.heap.size, 1, none⟩ = some (.int .i64 x.len) ∧ w'.cell? ⟨w.heap.size, 2, none⟩ = some (.string (strB x.data))) := fun w' k => ⟨by rw [k.cell (by simp only; omega)]; exact hS0.1, by rw [k.cell (by simp only; omega)]; exact hS0.2.1, by rw [k.cell (by simp only; omega)]; exact hS0.2.2⟩
      clear hsz
      have hsrc := HC.out.keep (Keeps.of_below HWB.out)
      have hsl : ((ys ++ [y]).flatMap dC).length = (ys.length + 1) * 3 := by rw [flat_len dC_len]; simp
      refine AtS.start (S := fun w' => w'.cell? ⟨w.heap.size, 0, none⟩ = some (.int .i64 x.off) ∧ w'.cell? ⟨w.heap.size, 1, none⟩ = some (.int .i64 x.len) ∧ w'.cell? ⟨w.heap.size, 2, none⟩ = some (.string (strB x.data))) (by kernel_rfl) (by rw [← hW]; exact hS0) 5 ?_
      rw [← hW]
      clear hW hS0 bx by_
      (refine AtS.free (i := 1) (v := ?_) (by simp only [List.getElem?_toArray, List.getElem?_cons_succ, List.getElem?_cons_zero]; rfl) (by kernel_rfl) (by kernel_rfl) (by kernel_rfl) (fun _ _ _ h => h) (by kernel_rfl) (Or.inl ⟨by rfl, fun w _ => ?_⟩) ?_; rotate_left; (go_simp; try with_reducible rfl); simp only [Act.put, List.setIfInBounds_toArray, List.set_cons_zero, List.set_cons_succ])
      (refine AtS.load (i := 3) (v := ?_) (by simp only [List.getElem?_toArray, List.getElem?_cons_succ, List.getElem?_cons_zero]; rfl) (by kernel_rfl) (by kernel_rfl) (by kernel_rfl) (fun _ _ _ h => h) [] (by kernel_rfl) (Or.inl ⟨by rfl, fun w hSw => ?_⟩) ?_; rotate_left; ((try dsimp only at hSw); go_split_ands; go_simp; try with_reducible rfl); simp only [Act.put, List.setIfInBounds_toArray, List.set_cons_zero, List.set_cons_succ])
      refine AtS.two (i := 0) (j := 4) (by simp only [List.getElem?_toArray, List.getElem?_cons_succ, List.getElem?_cons_zero]; rfl) (by simp only [List.getElem?_toArray, List.getElem?_cons_succ, List.getElem?_cons_zero]; rfl) (by kernel_rfl) (by rfl) (by rfl) ?_ ?_
      · intro K hK
        go_simp
        have k1 := (Below.refl W.heap.size W).alloc (Nat.le_refl _) (.cells #[] 28)
        have own1 : (W.alloc (.cells #[] 28)).ownsRow W.heap.size 28 3 (.slice (some ⟨W.heap.size, 0, none⟩) 0 0) 0 [] := World.ownsRow_lit W #[] 0 (Nat.le_refl _) (by decide) rfl
        refine hK _ _ (HS.out _ k1) ?_
        clear hK K
        refine AtS.two (i := 2) (j := 4) (by simp only [List.getElem?_toArray, List.getElem?_cons_succ, List.getElem?_cons_zero]; rfl) (by simp only [List.getElem?_toArray, List.getElem?_cons_succ, List.getElem?_cons_zero]; rfl) (by kernel_rfl) (by rfl) (by rfl) ?_ ?_
        · intro K hK
          refine of_if (c := Region.wanted _ _ = true) ?_ (step_append_any (ops := #[]) _ rfl _ _ _ rfl W.heap.size 28 i1 _ 3 32 Try.underlying24 hi1 hy0 hy1 hy2 rfl (by omega) (.slice (some ⟨W.heap.size, 0, none⟩) 0 0) 0 [] rfl own1 (some ⟨b, o, none⟩) (ys.length + 1) _ ((ys ++ [y]).flatMap dC) rfl hsl (hsrc.keep (Keeps.of_below k1)) one_flat (by omega) (by omega) (by simp) ?_)
          · rfl
          intro v1 w2 own2 gr2 _
          have k2 := k1.grown gr2 (by simp) (fun g h => (own1.lt g h).1)
          simp only [Nat.zero_add, List.nil_append] at own2
          refine hK _ _ (HS.out _ k2) ?_
          clear hK K own1 gr2 k1
          simp only [Act.put, List.setIfInBounds_toArray, List.set_cons_zero, List.set_cons_succ]
          refine AtS.only (i := 4) (by simp only [List.getElem?_toArray, List.getElem?_cons_succ, List.getElem?_cons_zero]; rfl) (by kernel_rfl) (by rfl) ?_
          intro K hK
          go_simp
          have k3 := k2.alloc (by have := k2.size; omega) (.cells #[.int .i64 x.off, .int .i64 x.len, .string (strB x.data)] 28)
          refine hK _ _ (HS.out _ k3) ?_
          clear hK K
          have own3 := own2.alloc (.cells #[.int .i64 x.off, .int .i64 x.len, .string (strB x.data)] 28)
          refine AtS.late (i := 5) (by simp only [List.getElem?_toArray, List.getElem?_cons_succ, List.getElem?_cons_zero]; rfl) (by kernel_rfl) (by rfl) (by rfl) ?_
          intro K hK
          refine of_if (c := Region.wanted _ _ = true) ?_ (step_append_any (ops := #[]) _ rfl _ _ _ rfl W.heap.size 28 i1 _ 3 32 Try.underlying24 hi1 hy0 hy1 hy2 rfl (by omega) v1 (ys.length + 1) ((ys ++ [y]).flatMap dC) rfl own3 (some ⟨_, 0, none⟩) 1 1 [.int .i64 x.off, .int .i64 x.len, .string (strB x.data)] rfl rfl (CellsAt.of_new _ _ _ _) (by simp [Value.oneCell']) (by omega) (by omega) (by have := k3.size; omega) ?_)
          · rfl
          intro v4 w4 own4 gr4 _
          have k4 := k3.grown gr4 (by have := k3.size; omega) (fun g h => (own3.lt g h).1)
          have HE' := Lib.hid (rowE_end HR.out (by simp) own4 rfl HWB.out k4)
          simp only [Act.put, List.setIfInBounds_toArray, List.set_cons_zero, List.set_cons_succ]
          refine hK _ _ ?_
          clear hK K
          refine AtS.late (i := 6) (by simp only [List.getElem?_toArray, List.getElem?_cons_succ, List.getElem?_cons_zero]; rfl) (by kernel_rfl) (by rfl) (by rfl) ?_
          intro K hK
          go_simp
          refine hK _ _ (AtS.done (by kernel_rfl) (NoPanic.normal ?_))
          clear hK K
          go_wp2
          go_ret
          exact HE'.out
        · intro K hK
          go_simp
          have k2 := k1.alloc (by simp) (.cells #[.int .i64 x.off, .int .i64 x.len, .string (strB x.data)] 28)
          have own2 := own1.alloc (.cells #[.int .i64 x.off, .int .i64 x.len, .string (strB x.data)] 28)
          have nw := CellsAt.of_new (W.alloc (.cells #[] 28)) #[.int .i64 x.off, .int .i64 x.len, .string (strB x.data)] 28 (0, 0)
          rw [show (W.alloc (.cells #[] 28)).heap.size = W.heap.size + 1 by simp] at nw
          refine hK _ _ (HS.out _ k2) ?_
          clear hK K own1
          refine AtS.only (i := 2) (by simp only [List.getElem?_toArray, List.getElem?_cons_succ, List.getElem?_cons_zero]; rfl) (by kernel_rfl) (by rfl) ?_
          intro K hK
          refine of_if (c := Region.wanted _ _ = true) ?_ (step_append_any (ops := #[]) _ rfl _ _ _ rfl W.heap.size 28 i1 _ 3 32 Try.underlying24 hi1 hy0 hy1 hy2 rfl (by omega) (.slice (some ⟨W.heap.size, 0, none⟩) 0 0) 0 [] rfl own2 (some ⟨b, o, none⟩) (ys.length + 1) _ ((ys ++ [y]).flatMap dC) rfl hsl (hsrc.keep (Keeps.of_below k2)) one_flat (by omega) (by omega) (by simp; omega) ?_)
          · rfl
          intro v1 w3 own3 gr3 _
          have k3 := k2.grown gr3 (by simp; omega) (fun g h => (own2.lt g h).1)
          have nw3 := nw.grown gr3 (by simp [Value.ownBlock])
          simp only [Nat.zero_add, List.nil_append] at own3
          refine hK _ _ (HS.out _ k3) ?_
          clear hK K own2 gr3 k2 k1 nw
          simp only [Act.put, List.setIfInBounds_toArray, List.set_cons_zero, List.set_cons_succ]
          refine AtS.late (i := 5) (by simp only [List.getElem?_toArray, List.getElem?_cons_succ, List.getElem?_cons_zero]; rfl) (by kernel_rfl) (by rfl) (by rfl) ?_
          intro K hK
          refine of_if (c := Region.wanted _ _ = true) ?_ (step_append_any (ops := #[]) _ rfl _ _ _ rfl W.heap.size 28 i1 _ 3 32 Try.underlying24 hi1 hy0 hy1 hy2 rfl (by omega) v1 (ys.length + 1) ((ys ++ [y]).flatMap dC) rfl own3 (some ⟨_, 0, none⟩) 1 1 [.int .i64 x.off, .int .i64 x.len, .string (strB x.data)] rfl rfl nw3 (by simp [Value.oneCell']) (by omega) (by omega) (by have := k3.size; omega) ?_)
          · rfl
          intro v4 w4 own4 gr4 _
          have k4 := k3.grown gr4 (by have := k3.size; omega) (fun g h => (own3.lt g h).1)
          have HE' := Lib.hid (rowE_end HR.out (by simp) own4 rfl HWB.out k4)
          simp only [Act.put, List.setIfInBounds_toArray, List.set_cons_zero, List.set_cons_succ]
          refine hK _ _ ?_
          clear hK K
          refine AtS.late (i := 6) (by simp only [List.getElem?_toArray, List.getElem?_cons_succ, List.getElem?_cons_zero]; rfl) (by kernel_rfl) (by rfl) (by rfl) ?_
          intro K hK
          go_simp
          refine hK _ _ (AtS.done (by kernel_rfl) (NoPanic.normal ?_))
          clear hK K
          go_wp2
          go_ret
          exact HE'.out
      · intro K hK
        go_simp
        have k1 := (Below.refl W.heap.size W).alloc (Nat.le_refl _) (.cells #[.int .i64 x.off, .int .i64 x.len, .string (strB x.data)] 28)
        have nw := CellsAt.of_new W #[.int .i64 x.off, .int .i64 x.len, .string (strB x.data)] 28 (0, 0)
        refine hK _ _ (HS.out _ k1) ?_
        clear hK K
        refine AtS.only (i := 0) (by simp only [List.getElem?_toArray, List.getElem?_cons_succ, List.getElem?_cons_zero]; rfl) (by kernel_rfl) (by rfl) ?_
        intro K hK
        go_simp
        have k2 := k1.alloc (by simp) (.cells #[] 28)
        have own2 := World.ownsRow_lit (base := W.heap.size) (size := 3) (e := 28) (W.alloc (.cells #[.int .i64 x.off, .int .i64 x.len, .string (strB x.data)] 28)) #[] 0 (by simp) (by decide) rfl
        rw [show (W.alloc (.cells #[.int .i64 x.off, .int .i64 x.len, .string (strB x.data)] 28)).heap.size = W.heap.size + 1 by simp] at own2
        replace own2 : World.ownsRow _ _ _ _ _ 0 [] := own2
        have nw2 := nw.keep (Keeps.alloc _ (.cells #[] 28))
        refine hK _ _ (HS.out _ k2) ?_
        clear hK K
        refine AtS.only (i := 2) (by simp only [List.getElem?_toArray, List.getElem?_cons_succ, List.getElem?_cons_zero]; rfl) (by kernel_rfl) (by rfl) ?_
        intro K hK
        refine of_if (c := Region.wanted _ _ = true) ?_ (step_append_any (ops := #[]) _ rfl _ _ _ rfl W.heap.size 28 i1 _ 3 32 Try.underlying24 hi1 hy0 hy1 hy2 rfl (by omega) (.slice (some ⟨W.heap.size + 1, 0, none⟩) 0 0) 0 [] rfl own2 (some ⟨b, o, none⟩) (ys.length + 1) _ ((ys ++ [y]).flatMap dC) rfl hsl (hsrc.keep (Keeps.of_below k2)) one_flat (by omega) (by omega) (by simp; omega) ?_)
        · rfl
        intro v1 w3 own3 gr3 _
        have k3 := k2.grown gr3 (by simp; omega) (fun g h => (own2.lt g h).1)
        have nw3 := nw2.grown gr3 (by simp [Value.ownBlock])
        simp only [Nat.zero_add, List.nil_append] at own3
        refine hK _ _ (HS.out _ k3) ?_
        clear hK K own2 gr3 k2 k1 nw nw2
        simp only [Act.put, List.setIfInBounds_toArray, List.set_cons_zero, List.set_cons_succ]
        refine AtS.late (i := 5) (by simp only [List.getElem?_toArray, List.getElem?_cons_succ, List.getElem?_cons_zero]; rfl) (by kernel_rfl) (by rfl) (by rfl) ?_
        intro K hK
        refine of_if (c := Region.wanted _ _ = true) ?_ (step_append_any (ops := #[]) _ rfl _ _ _ rfl W.heap.size 28 i1 _ 3 32 Try.underlying24 hi1 hy0 hy1 hy2 rfl (by omega) v1 (ys.length + 1) ((ys ++ [y]).flatMap dC) rfl own3 (some ⟨_, 0, none⟩) 1 1 [.int .i64 x.off, .int .i64 x.len, .string (strB x.data)] rfl rfl nw3 (by simp [Value.oneCell']) (by omega) (by omega) (by have := k3.size; omega) ?_)
        · rfl
        intro v4 w4 own4 gr4 _
        have k4 := k3.grown gr4 (by have := k3.size; omega) (fun g h => (own3.lt g h).1)
        have HE' := Lib.hid (rowE_end HR.out (by simp) own4 rfl HWB.out k4)
        simp only [Act.put, List.setIfInBounds_toArray, List.set_cons_zero, List.set_cons_succ]
        refine hK _ _ ?_
        clear hK K
        refine AtS.late (i := 6) (by simp only [List.getElem?_toArray, List.getElem?_cons_succ, List.getElem?_cons_zero]; rfl) (by kernel_rfl) (by rfl) (by rfl) ?_
        intro K hK
        go_simp
        refine hK _ _ (AtS.done (by kernel_rfl) (NoPanic.normal ?_))
        clear hK K
        go_wp2
        go_ret
        exact HE'.out
  · have q1 : (x.len == (0 : Int)) = false := by simp [ex]
    have q3 : decide ((0 : Int) < x.len) = true := by simp; omega
    by_cases ey : 0 < y.len
    · have q4 : decide ((0 : Int) < y.len) = true := by simp; omega
      by_cases ez : y.off + y.len = x.off
      · have q5 : (y.off + y.len == x.off) = true := by simp [ez]
        have HR : Hid (r = ys ++ [⟨y.off, y.len + x.len, []⟩]) := by show _ = _; rw [HD.out, if_neg (fun h => ex h.1), if_pos ⟨by omega, ey, ez⟩]
        clear HD
        clear ex ey ez
        go_enter Try.func33, Try.ntmps33
        go_wp2_with fail
        clear c0 c1 c2
        obtain ⟨W, hW⟩ : ∃ W, W = ((w.alloc (.cells #[.int .i64 x.off, .int .i64 x.len, .string (strB x.data)] 28)).alloc (.cells #[.int .i64 y.off, .int .i64 y.len, .string (strB y.data)] 28)).drew := ⟨_, rfl⟩
        have HWB : Hid (Below w.heap.size w W) := by subst hW; exact (((Below.refl w.heap.size w).alloc (Nat.le_refl _) _).alloc (by simp) _).drew
        have bx : Blk W w.heap.size 28 #[.int .i64 x.off, .int .i64 x.len, .string (strB x.data)] := by subst hW; exact (Blk.drew ((Blk.new w #[.int .i64 x.off, .int .i64 x.len, .string (strB x.data)] 28).alloc _))
        have by_ : Blk W (w.heap.size + 1) 28 #[.int .i64 y.off, .int .i64 y.len, .string (strB y.data)] := by subst hW; have := Blk.drew (Blk.new (w.alloc (.cells #[.int .i64 x.off, .int .i64 x.len, .string (strB x.data)] 28)) #[.int .i64 y.off, .int .i64 y.len, .string (strB y.data)] 28); rwa [show (w.alloc (.cells #[.int .i64 x.off, .int .i64 x.len, .string (strB x.data)] 28)).heap.size = w.heap.size + 1 by simp] at this
        have hS0 : W.cell? ⟨w.heap.size, 1, none⟩ = some (.int .i64 x.len) ∧ W.cell? ⟨w.heap.size + 1, 0, none⟩ = some (.int .i64 y.off) ∧ W.cell? ⟨w.heap.size + 1, 1, none⟩ = some (.int .i64 y.len) := ⟨bx.cell (j := 1) rfl, by_.cell (j := 0) rfl, by_.cell (j := 1) rfl⟩
        have hsz : W.heap.size = w.heap.size + 2 := by subst hW; simp
        have HS : Hid (∀ w', Below W.heap.size W w' → w'.cell? ⟨w.heap.size, 1, none⟩ = some (.int .i64 x.len) ∧ w'.cell? ⟨w.heap.size + 1, 0, none⟩ = some (.int .i64 y.off) ∧ w'.cell? ⟨w.heap.size + 1, 1, none⟩ = some (.int .i64 y.len)) := fun w' k => ⟨by rw [k.cell (by simp only; omega)]; exact hS0.1, by rw [k.cell (by simp only; omega)]; exact hS0.2.1, by rw [k.cell (by simp only; omega)]; exact hS0.2.2⟩
        clear hsz
        have hsrc := HCY.out.keep (Keeps.of_below HWB.out)
        have hsl : (ys.flatMap dC).length = ys.length * 3 := by exact flat_len dC_len _
        refine AtS.start (S := fun w' => w'.cell? ⟨w.heap.size, 1, none⟩ = some (.int .i64 x.len) ∧ w'.cell? ⟨w.heap.size + 1, 0, none⟩ = some (.int .i64 y.off) ∧ w'.cell? ⟨w.heap.size + 1, 1, none⟩ = some (.int .i64 y.len)) (by kernel_rfl) (by rw [← hW]; exact hS0) 16 ?_
        rw [← hW]
        clear hW hS0 bx by_
        (refine AtS.free (i := 1) (v := ?_) (by simp only [List.getElem?_toArray, List.getElem?_cons_succ, List.getElem?_cons_zero]; rfl) (by kernel_rfl) (by kernel_rfl) (by kernel_rfl) (fun _ _ _ h => h) (by kernel_rfl) (Or.inl ⟨by rfl, fun w _ => ?_⟩) ?_; rotate_left; (go_simp; try with_reducible rfl); simp only [Act.put, List.setIfInBounds_toArray, List.set_cons_zero, List.set_cons_succ])
        (refine AtS.free (i := 2) (v := ?_) (by simp only [List.getElem?_toArray, List.getElem?_cons_succ, List.getElem?_cons_zero]; rfl) (by kernel_rfl) (by kernel_rfl) (by kernel_rfl) (fun _ _ _ h => h) (by kernel_rfl) (Or.inl ⟨by rfl, fun w _ => ?_⟩) ?_; rotate_left; (go_simp; try with_reducible rfl); simp only [Act.put, List.setIfInBounds_toArray, List.set_cons_zero, List.set_cons_succ])
        (refine AtS.free (i := 3) (v := ?_) (by simp only [List.getElem?_toArray, List.getElem?_cons_succ, List.getElem?_cons_zero]; rfl) (by kernel_rfl) (by kernel_rfl) (by kernel_rfl) (fun _ _ _ h => h) (by kernel_rfl) (Or.inl ⟨by rfl, fun w _ => ?_⟩) ?_; rotate_left; (go_simp; try with_reducible rfl); simp only [Act.put, List.setIfInBounds_toArray, List.set_cons_zero, List.set_cons_succ])
        (refine AtS.free (i := 4) (v := ?_) (by simp only [List.getElem?_toArray, List.getElem?_cons_succ, List.getElem?_cons_zero]; rfl) (by kernel_rfl) (by kernel_rfl) (by kernel_rfl) (fun _ _ _ h => h) (by kernel_rfl) (Or.inl ⟨by rfl, fun w _ => ?_⟩) ?_; rotate_left; (go_simp; try with_reducible rfl); simp only [Act.put, List.setIfInBounds_toArray, List.set_cons_zero, List.set_cons_succ])
        (refine AtS.free (i := 5) (v := ?_) (by simp only [List.getElem?_toArray, List.getElem?_cons_succ, List.getElem?_cons_zero]; rfl) (by kernel_rfl) (by kernel_rfl) (by kernel_rfl) (fun _ _ _ h => h) (by kernel_rfl) (Or.inl ⟨by rfl, fun w _ => ?_⟩) ?_; rotate_left; (unfold execOp; go_simp; rfl); simp only [Act.put, List.setIfInBounds_toArray, List.set_cons_zero, List.set_cons_succ])
        (refine AtS.free (i := 7) (v := ?_) (by simp only [List.getElem?_toArray, List.getElem?_cons_succ, List.getElem?_cons_zero]; rfl) (by kernel_rfl) (by kernel_rfl) (by kernel_rfl) (fun _ _ _ h => h) (by kernel_rfl) (Or.inl ⟨by rfl, fun w _ => ?_⟩) ?_; rotate_left; (go_simp; try with_reducible rfl); simp only [Act.put, List.setIfInBounds_toArray, List.set_cons_zero, List.set_cons_succ])
        (refine AtS.load (i := 8) (v := ?_) (by simp only [List.getElem?_toArray, List.getElem?_cons_succ, List.getElem?_cons_zero]; rfl) (by kernel_rfl) (by kernel_rfl) (by kernel_rfl) (fun _ _ _ h => h) [] (by kernel_rfl) (Or.inl ⟨by rfl, fun w hSw => ?_⟩) ?_; rotate_left; ((try dsimp only at hSw); go_split_ands; go_simp; try with_reducible rfl); simp only [Act.put, List.setIfInBounds_toArray, List.set_cons_zero, List.set_cons_succ])
        (refine AtS.free (i := 9) (v := ?_) (by simp only [List.getElem?_toArray, List.getElem?_cons_succ, List.getElem?_cons_zero]; rfl) (by kernel_rfl) (by kernel_rfl) (by kernel_rfl) (fun _ _ _ h => h) (by kernel_rfl) (Or.inl ⟨by rfl, fun w _ => ?_⟩) ?_; rotate_left; (go_simp; try with_reducible rfl); simp only [Act.put, List.setIfInBounds_toArray, List.set_cons_zero, List.set_cons_succ])
        (refine AtS.load (i := 10) (v := ?_) (by simp only [List.getElem?_toArray, List.getElem?_cons_succ, List.getElem?_cons_zero]; rfl) (by kernel_rfl) (by kernel_rfl) (by kernel_rfl) (fun _ _ _ h => h) [] (by kernel_rfl) (Or.inl ⟨by rfl, fun w hSw => ?_⟩) ?_; rotate_left; ((try dsimp only at hSw); go_split_ands; go_simp; try with_reducible rfl); simp only [Act.put, List.setIfInBounds_toArray, List.set_cons_zero, List.set_cons_succ])
        (refine AtS.free (i := 11) (v := ?_) (by simp only [List.getElem?_toArray, List.getElem?_cons_succ, List.getElem?_cons_zero]; rfl) (by kernel_rfl) (by kernel_rfl) (by kernel_rfl) (fun _ _ _ h => h) (by kernel_rfl) (Or.inl ⟨by rfl, fun w _ => ?_⟩) ?_; rotate_left; (go_simp; try with_reducible rfl); simp only [Act.put, List.setIfInBounds_toArray, List.set_cons_zero, List.set_cons_succ])
        (refine AtS.load (i := 12) (v := ?_) (by simp only [List.getElem?_toArray, List.getElem?_cons_succ, List.getElem?_cons_zero]; rfl) (by kernel_rfl) (by kernel_rfl) (by kernel_rfl) (fun _ _ _ h => h) [] (by kernel_rfl) (Or.inl ⟨by rfl, fun w hSw => ?_⟩) ?_; rotate_left; ((try dsimp only at hSw); go_split_ands; go_simp; try with_reducible rfl); simp only [Act.put, List.setIfInBounds_toArray, List.set_cons_zero, List.set_cons_succ])
        (refine AtS.free (i := 13) (v := ?_) (by simp only [List.getElem?_toArray, List.getElem?_cons_succ, List.getElem?_cons_zero]; rfl) (by kernel_rfl) (by kernel_rfl) (by kernel_rfl) (fun _ _ _ h => h) (by kernel_rfl) (Or.inl ⟨by rfl, fun w _ => ?_⟩) ?_; rotate_left; (go_simp; try with_reducible rfl); simp only [Act.put, List.setIfInBounds_toArray, List.set_cons_zero, List.set_cons_succ])
        (refine AtS.free (i := 14) (v := ?_) (by simp only [List.getElem?_toArray, List.getElem?_cons_succ, List.getElem?_cons_zero]; rfl) (by kernel_rfl) (by kernel_rfl) (by kernel_rfl) (fun _ _ _ h => h) (by kernel_rfl) (Or.inl ⟨by rfl, fun w _ => ?_⟩) ?_; rotate_left; (go_simp; try with_reducible rfl); simp only [Act.put, List.setIfInBounds_toArray, List.set_cons_zero, List.set_cons_succ])
        refine AtS.two (i := 0) (j := 15) (by simp only [List.getElem?_toArray, List.getElem?_cons_succ, List.getElem?_cons_zero]; rfl) (by simp only [List.getElem?_toArray, List.getElem?_cons_succ, List.getElem?_cons_zero]; rfl) (by kernel_rfl) (by rfl) (by rfl) ?_ ?_
        · intro K hK
          go_simp
          have k1 := (Below.refl W.heap.size W).alloc (Nat.le_refl _) (.cells #[] 28)
          have own1 : (W.alloc (.cells #[] 28)).ownsRow W.heap.size 28 3 (.slice (some ⟨W.heap.size, 0, none⟩) 0 0) 0 [] := World.ownsRow_lit W #[] 0 (Nat.le_refl _) (by decide) rfl
          refine hK _ _ (HS.out _ k1) ?_
          clear hK K
          refine AtS.two (i := 6) (j := 15) (by simp only [List.getElem?_toArray, List.getElem?_cons_succ, List.getElem?_cons_zero]; rfl) (by simp only [List.getElem?_toArray, List.getElem?_cons_succ, List.getElem?_cons_zero]; rfl) (by kernel_rfl) (by rfl) (by rfl) ?_ ?_
          · intro K hK
            refine of_if (c := Region.wanted _ _ = true) ?_ (step_append_any (ops := #[]) _ rfl _ _ _ rfl W.heap.size 28 i1 _ 3 32 Try.underlying24 hi1 hy0 hy1 hy2 rfl (by omega) (.slice (some ⟨W.heap.size, 0, none⟩) 0 0) 0 [] rfl own1 (some ⟨b, o, none⟩) ys.length _ (ys.flatMap dC) rfl hsl (hsrc.keep (Keeps.of_below k1)) one_flat (by omega) (by omega) (by simp) ?_)
            · rfl
            intro v1 w2 own2 gr2 _
            have k2 := k1.grown gr2 (by simp) (fun g h => (own1.lt g h).1)
            simp only [Nat.zero_add, List.nil_append] at own2
            refine hK _ _ (HS.out _ k2) ?_
            clear hK K own1 gr2 k1
            simp only [Act.put, List.setIfInBounds_toArray, List.set_cons_zero, List.set_cons_succ]
            refine AtS.only (i := 15) (by simp only [List.getElem?_toArray, List.getElem?_cons_succ, List.getElem?_cons_zero]; rfl) (by kernel_rfl) (by rfl) ?_
            intro K hK
            go_simp
            have k3 := k2.alloc (by have := k2.size; omega) (.cells #[.int .i64 y.off, .int .i64 (y.len + x.len), .string ⟨#[]⟩] 28)
            refine hK _ _ (HS.out _ k3) ?_
            clear hK K
            have own3 := own2.alloc (.cells #[.int .i64 y.off, .int .i64 (y.len + x.len), .string ⟨#[]⟩] 28)
            refine AtS.late (i := 16) (by simp only [List.getElem?_toArray, List.getElem?_cons_succ, List.getElem?_cons_zero]; rfl) (by kernel_rfl) (by rfl) (by rfl) ?_
            intro K hK
            refine of_if (c := Region.wanted _ _ = true) ?_ (step_append_any (ops := #[]) _ rfl _ _ _ rfl W.heap.size 28 i1 _ 3 32 Try.underlying24 hi1 hy0 hy1 hy2 rfl (by omega) v1 ys.length (ys.flatMap dC) rfl own3 (some ⟨_, 0, none⟩) 1 1 [.int .i64 y.off, .int .i64 (y.len + x.len), .string ⟨#[]⟩] rfl rfl (CellsAt.of_new _ _ _ _) (by simp [Value.oneCell']) (by omega) (by omega) (by have := k3.size; omega) ?_)
            · rfl
            intro v4 w4 own4 gr4 _
            have k4 := k3.grown gr4 (by have := k3.size; omega) (fun g h => (own3.lt g h).1)
            have HE' := Lib.hid (rowE_end HR.out rfl own4 rfl HWB.out k4)
            simp only [Act.put, List.setIfInBounds_toArray, List.set_cons_zero, List.set_cons_succ]
            refine hK _ _ ?_
            clear hK K
            refine AtS.late (i := 17) (by simp only [List.getElem?_toArray, List.getElem?_cons_succ, List.getElem?_cons_zero]; rfl) (by kernel_rfl) (by rfl) (by rfl) ?_
            intro K hK
            go_simp
            refine hK _ _ (AtS.done (by kernel_rfl) (NoPanic.normal ?_))
            clear hK K
            go_wp2
            go_ret
            exact HE'.out
          · intro K hK
            go_simp
            have k2 := k1.alloc (by simp) (.cells #[.int .i64 y.off, .int .i64 (y.len + x.len), .string ⟨#[]⟩] 28)
            have own2 := own1.alloc (.cells #[.int .i64 y.off, .int .i64 (y.len + x.len), .string ⟨#[]⟩] 28)
            have nw := CellsAt.of_new (W.alloc (.cells #[] 28)) #[.int .i64 y.off, .int .i64 (y.len + x.len), .string ⟨#[]⟩] 28 (0, 0)
            rw [show (W.alloc (.cells #[] 28)).heap.size = W.heap.size + 1 by simp] at nw
            refine hK _ _ (HS.out _ k2) ?_
            clear hK K own1
            refine AtS.only (i := 6) (by simp only [List.getElem?_toArray, List.getElem?_cons_succ, List.getElem?_cons_zero]; rfl) (by kernel_rfl) (by rfl) ?_
            intro K hK
            refine of_if (c := Region.wanted _ _ = true) ?_ (step_append_any (ops := #[]) _ rfl _ _ _ rfl W.heap.size 28 i1 _ 3 32 Try.underlying24 hi1 hy0 hy1 hy2 rfl (by omega) (.slice (some ⟨W.heap.size, 0, none⟩) 0 0) 0 [] rfl own2 (some ⟨b, o, none⟩) ys.length _ (ys.flatMap dC) rfl hsl (hsrc.keep (Keeps.of_below k2)) one_flat (by omega) (by omega) (by simp; omega) ?_)
            · rfl
            intro v1 w3 own3 gr3 _
            have k3 := k2.grown gr3 (by simp; omega) (fun g h => (own2.lt g h).1)
            have nw3 := nw.grown gr3 (by simp [Value.ownBlock])
            simp only [Nat.zero_add, List.nil_append] at own3
            refine hK _ _ (HS.out _ k3) ?_
            clear hK K own2 gr3 k2 k1 nw
            simp only [Act.put, List.setIfInBounds_toArray, List.set_cons_zero, List.set_cons_succ]
            refine AtS.late (i := 16) (by simp only [List.getElem?_toArray, List.getElem?_cons_succ, List.getElem?_cons_zero]; rfl) (by kernel_rfl) (by rfl) (by rfl) ?_
            intro K hK
            refine of_if (c := Region.wanted _ _ = true) ?_ (step_append_any (ops := #[]) _ rfl _ _ _ rfl W.heap.size 28 i1 _ 3 32 Try.underlying24 hi1 hy0 hy1 hy2 rfl (by omega) v1 ys.length (ys.flatMap dC) rfl own3 (some ⟨_, 0, none⟩) 1 1 [.int .i64 y.off, .int .i64 (y.len + x.len), .string ⟨#[]⟩] rfl rfl nw3 (by simp [Value.oneCell']) (by omega) (by omega) (by have := k3.size; omega) ?_)
            · rfl
            intro v4 w4 own4 gr4 _
            have k4 := k3.grown gr4 (by have := k3.size; omega) (fun g h => (own3.lt g h).1)
            have HE' := Lib.hid (rowE_end HR.out rfl own4 rfl HWB.out k4)
            simp only [Act.put, List.setIfInBounds_toArray, List.set_cons_zero, List.set_cons_succ]
            refine hK _ _ ?_
            clear hK K
            refine AtS.late (i := 17) (by simp only [List.getElem?_toArray, List.getElem?_cons_succ, List.getElem?_cons_zero]; rfl) (by kernel_rfl) (by rfl) (by rfl) ?_
            intro K hK
            go_simp
            refine hK _ _ (AtS.done (by kernel_rfl) (NoPanic.normal ?_))
            clear hK K
            go_wp2
            go_ret
            exact HE'.out
        · intro K hK
          go_simp
          have k1 := (Below.refl W.heap.size W).alloc (Nat.le_refl _) (.cells #[.int .i64 y.off, .int .i64 (y.len + x.len), .string ⟨#[]⟩] 28)
          have nw := CellsAt.of_new W #[.int .i64 y.off, .int .i64 (y.len + x.len), .string ⟨#[]⟩] 28 (0, 0)
          refine hK _ _ (HS.out _ k1) ?_
          clear hK K
          refine AtS.only (i := 0) (by simp only [List.getElem?_toArray, List.getElem?_cons_succ, List.getElem?_cons_zero]; rfl) (by kernel_rfl) (by rfl) ?_
          intro K hK
          go_simp
          have k2 := k1.alloc (by simp) (.cells #[] 28)
          have own2 := World.ownsRow_lit (base := W.heap.size) (size := 3) (e := 28) (W.alloc (.cells #[.int .i64 y.off, .int .i64 (y.len + x.len), .string ⟨#[]⟩] 28)) #[] 0 (by simp) (by decide) rfl
          rw [show (W.alloc (.cells #[.int .i64 y.off, .int .i64 (y.len + x.len), .string ⟨#[]⟩] 28)).heap.size = W.heap.size + 1 by simp] at own2
          replace own2 : World.ownsRow _ _ _ _ _ 0 [] := own2
          have nw2 := nw.keep (Keeps.alloc _ (.cells #[] 28))
          refine hK _ _ (HS.out _ k2) ?_
          clear hK K
          refine AtS.only (i := 6) (by simp only [List.getElem?_toArray, List.getElem?_cons_succ, List.getElem?_cons_zero]; rfl) (by kernel_rfl) (by rfl) ?_
          intro K hK
          refine of_if (c := Region.wanted _ _ = true) ?_ (step_append_any (ops := #[]) _ rfl _ _ _ rfl W.heap.size 28 i1 _ 3 32 Try.underlying24 hi1 hy0 hy1 hy2 rfl (by omega) (.slice (some ⟨W.heap.size + 1, 0, none⟩) 0 0) 0 [] rfl own2 (some ⟨b, o, none⟩) ys.length _ (ys.flatMap dC) rfl hsl (hsrc.keep (Keeps.of_below k2)) one_flat (by omega) (by omega) (by simp; omega) ?_)
          · rfl
          intro v1 w3 own3 gr3 _
          have k3 := k2.grown gr3 (by simp; omega) (fun g h => (own2.lt g h).1)
          have nw3 := nw2.grown gr3 (by simp [Value.ownBlock])
          simp only [Nat.zero_add, List.nil_append] at own3
          refine hK _ _ (HS.out _ k3) ?_
          clear hK K own2 gr3 k2 k1 nw nw2
          simp only [Act.put, List.setIfInBounds_toArray, List.set_cons_zero, List.set_cons_succ]
          refine AtS.late (i := 16) (by simp only [List.getElem?_toArray, List.getElem?_cons_succ, List.getElem?_cons_zero]; rfl) (by kernel_rfl) (by rfl) (by rfl) ?_
          intro K hK
          refine of_if (c := Region.wanted _ _ = true) ?_ (step_append_any (ops := #[]) _ rfl _ _ _ rfl W.heap.size 28 i1 _ 3 32 Try.underlying24 hi1 hy0 hy1 hy2 rfl (by omega) v1 ys.length (ys.flatMap dC) rfl own3 (some ⟨_, 0, none⟩) 1 1 [.int .i64 y.off, .int .i64 (y.len + x.len), .string ⟨#[]⟩] rfl rfl nw3 (by simp [Value.oneCell']) (by omega) (by omega) (by have := k3.size; omega) ?_)
          · rfl
          intro v4 w4 own4 gr4 _
          have k4 := k3.grown gr4 (by have := k3.size; omega) (fun g h => (own3.lt g h).1)
          have HE' := Lib.hid (rowE_end HR.out rfl own4 rfl HWB.out k4)
          simp only [Act.put, List.setIfInBounds_toArray, List.set_cons_zero, List.set_cons_succ]
          refine hK _ _ ?_
          clear hK K
          refine AtS.late (i := 17) (by simp only [List.getElem?_toArray, List.getElem?_cons_succ, List.getElem?_cons_zero]; rfl) (by kernel_rfl) (by rfl) (by rfl) ?_
          intro K hK
          go_simp
          refine hK _ _ (AtS.done (by kernel_rfl) (NoPanic.normal ?_))
          clear hK K
          go_wp2
          go_ret
          exact HE'.out
      · have q5 : (y.off + y.len == x.off) = false := by simp [ez]
        have HR : Hid (r = ys ++ [y] ++ [x]) := by show _ = _; rw [HD.out, if_neg (fun h => ex h.1), if_neg (fun h => ez h.2.2)]
        clear HD
        clear ex ey ez
        go_enter Try.func33, Try.ntmps33
        go_wp2_with fail
        clear c0 c1 c2
        obtain ⟨W, hW⟩ : ∃ W, W = ((w.alloc (.cells #[.int .i64 x.off, .int .i64 x.len, .string (strB x.data)] 28)).alloc (.cells #[.int .i64 y.off, .int .i64 y.len, .string (strB y.data)] 28)).drew := ⟨_, rfl⟩
        have HWB : Hid (Below w.heap.size w W) := by subst hW; exact (((Below.refl w.heap.size w).alloc (Nat.le_refl _) _).alloc (by simp) _).drew
        have bx : Blk W w.heap.size 28 #[.int .i64 x.off, .int .i64 x.len, .string (strB x.data)] := by subst hW; exact (Blk.drew ((Blk.new w #[.int .i64 x.off, .int .i64 x.len, .string (strB x.data)] 28).alloc _))
        have by_ : Blk W (w.heap.size + 1) 28 #[.int .i64 y.off, .int .i64 y.len, .string (strB y.data)] := by subst hW; have := Blk.drew (Blk.new (w.alloc (.cells #[.int .i64 x.off, .int .i64 x.len, .string (strB x.data)] 28)) #[.int .i64 y.off, .int .i64 y.len, .string (strB y.data)] 28); rwa [show (w.alloc (.cells #[.int .i64 x.off, .int .i64 x.len, .string (strB x.data)] 28)).heap.size = w.heap.size + 1 by simp] at this
        have hS0 : W.cell? ⟨w.heap.size, 0, none⟩ = some (.int .i64 x.off) ∧ W.cell? ⟨w.heap.size, 1, none⟩ = some (.int .i64 x.len) ∧ W.cell? ⟨w.heap.size, 2, none⟩ = some (.string (strB x.data)) := ⟨bx.cell (j := 0) rfl, bx.cell (j := 1) rfl, bx.cell (j := 2) rfl⟩
        have hsz : W.heap.size = w.heap.size + 2 := by subst hW; simp
        have HS : Hid (∀ w', Below W.heap.size W w' → w'.cell? ⟨w.heap.size, 0, none⟩ = some (.int .i64 x.off) ∧ w'.cell? ⟨w.heap.size, 1, none⟩ = some (.int .i64 x.len) ∧ w'.cell? ⟨w.heap.size, 2, none⟩ = some (.string (strB x.data))) := fun w' k => ⟨by rw [k.cell (by simp only; omega)]; exact hS0.1, by rw [k.cell (by simp only; omega)]; exact hS0.2.1, by rw [k.cell (by simp only; omega)]; exact hS0.2.2⟩
        clear hsz
        have hsrc := HC.out.keep (Keeps.of_below HWB.out)
        have hsl : ((ys ++ [y]).flatMap dC).length = (ys.length + 1) * 3 := by rw [flat_len dC_len]; simp
        refine AtS.start (S := fun w' => w'.cell? ⟨w.heap.size, 0, none⟩ = some (.int .i64 x.off) ∧ w'.cell? ⟨w.heap.size, 1, none⟩ = some (.int .i64 x.len) ∧ w'.cell? ⟨w.heap.size, 2, none⟩ = some (.string (strB x.data))) (by kernel_rfl) (by rw [← hW]; exact hS0) 5 ?_
        rw [← hW]
        clear hW hS0 bx by_
        (refine AtS.free (i := 1) (v := ?_) (by simp only [List.getElem?_toArray, List.getElem?_cons_succ, List.getElem?_cons_zero]; rfl) (by kernel_rfl) (by kernel_rfl) (by kernel_rfl) (fun _ _ _ h => h) (by kernel_rfl) (Or.inl ⟨by rfl, fun w _ => ?_⟩) ?_; rotate_left; (go_simp; try with_reducible rfl); simp only [Act.put, List.setIfInBounds_toArray, List.set_cons_zero, List.set_cons_succ])
        (refine AtS.load (i := 3) (v := ?_) (by simp only [List.getElem?_toArray, List.getElem?_cons_succ, List.getElem?_cons_zero]; rfl) (by kernel_rfl) (by kernel_rfl) (by kernel_rfl) (fun _ _ _ h => h) [] (by kernel_rfl) (Or.inl ⟨by rfl, fun w hSw => ?_⟩) ?_; rotate_left; ((try dsimp only at hSw); go_split_ands; go_simp; try with_reducible rfl); simp only [Act.put, List.setIfInBounds_toArray, List.set_cons_zero, List.set_cons_succ])
        refine AtS.two (i := 0) (j := 4) (by simp only [List.getElem?_toArray, List.getElem?_cons_succ, List.getElem?_cons_zero]; rfl) (by simp only [List.getElem?_toArray, List.getElem?_cons_succ, List.getElem?_cons_zero]; rfl) (by kernel_rfl) (by rfl) (by rfl) ?_ ?_
        · intro K hK
          go_simp
          have k1 := (Below.refl W.heap.size W).alloc (Nat.le_refl _) (.cells #[] 28)
          have own1 : (W.alloc (.cells #[] 28)).ownsRow W.heap.size 28 3 (.slice (some ⟨W.heap.size, 0, none⟩) 0 0) 0 [] := World.ownsRow_lit W #[] 0 (Nat.le_refl _) (by decide) rfl
          refine hK _ _ (HS.out _ k1) ?_
          clear hK K
          refine AtS.two (i := 2) (j := 4) (by simp only [List.getElem?_toArray, List.getElem?_cons_succ, List.getElem?_cons_zero]; rfl) (by simp only [List.getElem?_toArray, List.getElem?_cons_succ, List.getElem?_cons_zero]; rfl) (by kernel_rfl) (by rfl) (by rfl) ?_ ?_
          · intro K hK
            refine of_if (c := Region.wanted _ _ = true) ?_ (step_append_any (ops := #[]) _ rfl _ _ _ rfl W.heap.size 28 i1 _ 3 32 Try.underlying24 hi1 hy0 hy1 hy2 rfl (by omega) (.slice (some ⟨W.heap.size, 0, none⟩) 0 0) 0 [] rfl own1 (some ⟨b, o, none⟩) (ys.length + 1) _ ((ys ++ [y]).flatMap dC) rfl hsl (hsrc.keep (Keeps.of_below k1)) one_flat (by omega) (by omega) (by simp) ?_)
            · rfl
            intro v1 w2 own2 gr2 _
            have k2 := k1.grown gr2 (by simp) (fun g h => (own1.lt g h).1)
            simp only [Nat.zero_add, List.nil_append] at own2
            refine hK _ _ (HS.out _ k2) ?_
            clear hK K own1 gr2 k1
            simp only [Act.put, List.setIfInBounds_toArray, List.set_cons_zero, List.set_cons_succ]
            refine AtS.only (i := 4) (by simp only [List.getElem?_toArray, List.getElem?_cons_succ, List.getElem?_cons_zero]; rfl) (by kernel_rfl) (by rfl) ?_
            intro K hK
            go_simp
            have k3 := k2.alloc (by have := k2.size; omega) (.cells #[.int .i64 x.off, .int .i64 x.len, .string (strB x.data)] 28)
            refine hK _ _ (HS.out _ k3) ?_
            clear hK K
            have own3 := own2.alloc (.cells #[.int .i64 x.off, .int .i64 x.len, .string (strB x.data)] 28)
            refine AtS.late (i := 5) (by simp only [List.getElem?_toArray, List.getElem?_cons_succ, List.getElem?_cons_zero]; rfl) (by kernel_rfl) (by rfl) (by rfl) ?_
            intro K hK
            refine of_if (c := Region.wanted _ _ = true) ?_ (step_append_any (ops := #[]) _ rfl _ _ _ rfl W.heap.size 28 i1 _ 3 32 Try.underlying24 hi1 hy0 hy1 hy2 rfl (by omega) v1 (ys.length + 1) ((ys ++ [y]).flatMap dC) rfl own3 (some ⟨_, 0, none⟩) 1 1 [.int .i64 x.off, .int .i64 x.len, .string (strB x.data)] rfl rfl (CellsAt.of_new _ _ _ _) (by simp [Value.oneCell']) (by omega) (by omega) (by have := k3.size; omega) ?_)
            · rfl
            intro v4 w4 own4 gr4 _
            have k4 := k3.grown gr4 (by have := k3.size; omega) (fun g h => (own3.lt g h).1)
            have HE' := Lib.hid (rowE_end HR.out (by simp) own4 rfl HWB.out k4)
            simp only [Act.put, List.setIfInBounds_toArray, List.set_cons_zero, List.set_cons_succ]
            refine hK _ _ ?_
            clear hK K
            refine AtS.late (i := 6) (by simp only [List.getElem?_toArray, List.getElem?_cons_succ, List.getElem?_cons_zero]; rfl) (by kernel_rfl) (by rfl) (by rfl) ?_
            intro K hK
            go_simp
            refine hK _ _ (AtS.done (by kernel_rfl) (NoPanic.normal ?_))
            clear hK K
            go_wp2
            go_ret
            exact HE'.out
          · intro K hK
            go_simp
            have k2 := k1.alloc (by simp) (.cells #[.int .i64 x.off, .int .i64 x.len, .string (strB x.data)] 28)
            have own2 := own1.alloc (.cells #[.int .i64 x.off, .int .i64 x.len, .string (strB x.data)] 28)
            have nw := CellsAt.of_new (W.alloc (.cells #[] 28)) #[.int .i64 x.off, .int .i64 x.len, .string (strB x.data)] 28 (0, 0)
            rw [show (W.alloc (.cells #[] 28)).heap.size = W.heap.size + 1 by simp] at nw
            refine hK _ _ (HS.out _ k2) ?_
            clear hK K own1
            refine AtS.only (i := 2) (by simp only [List.getElem?_toArray, List.getElem?_cons_succ, List.getElem?_cons_zero]; rfl) (by kernel_rfl) (by rfl) ?_
            intro K hK
            refine of_if (c := Region.wanted _ _ = true) ?_ (step_append_any (ops := #[]) _ rfl _ _ _ rfl W.heap.size 28 i1 _ 3 32 Try.underlying24 hi1 hy0 hy1 hy2 rfl (by omega) (.slice (some ⟨W.heap.size, 0, none⟩) 0 0) 0 [] rfl own2 (some ⟨b, o, none⟩) (ys.length + 1) _ ((ys ++ [y]).flatMap dC) rfl hsl (hsrc.keep (Keeps.of_below k2)) one_flat (by omega) (by omega) (by simp; omega) ?_)
            · rfl
            intro v1 w3 own3 gr3 _
            have k3 := k2.grown gr3 (by simp; omega) (fun g h => (own2.lt g h).1)
            have nw3 := nw.grown gr3 (by simp [Value.ownBlock])
            simp only [Nat.zero_add, List.nil_append] at own3
            refine hK _ _ (HS.out _ k3) ?_
            clear hK K own2 gr3 k2 k1 nw
            simp only [Act.put, List.setIfInBounds_toArray, List.set_cons_zero, List.set_cons_succ]
            refine AtS.late (i := 5) (by simp only [List.getElem?_toArray, List.getElem?_cons_succ, List.getElem?_cons_zero]; rfl) (by kernel_rfl) (by rfl) (by rfl) ?_
            intro K hK
            refine of_if (c := Region.wanted _ _ = true) ?_ (step_append_any (ops := #[]) _ rfl _ _ _ rfl W.heap.size 28 i1 _ 3 32 Try.underlying24 hi1 hy0 hy1 hy2 rfl (by omega) v1 (ys.length + 1) ((ys ++ [y]).flatMap dC) rfl own3 (some ⟨_, 0, none⟩) 1 1 [.int .i64 x.off, .int .i64 x.len, .string (strB x.data)] rfl rfl nw3 (by simp [Value.oneCell']) (by omega) (by omega) (by have := k3.size; omega) ?_)
            · rfl
            intro v4 w4 own4 gr4 _
            have k4 := k3.grown gr4 (by have := k3.size; omega) (fun g h => (own3.lt g h).1)
            have HE' := Lib.hid (rowE_end HR.out (by simp) own4 rfl HWB.out k4)
            simp only [Act.put, List.setIfInBounds_toArray, List.set_cons_zero, List.set_cons_succ]
            refine hK _ _ ?_
            clear hK K
            refine AtS.late (i := 6) (by simp only [List.getElem?_toArray, List.getElem?_cons_succ, List.getElem?_cons_zero]; rfl) (by kernel_rfl) (by rfl) (by rfl) ?_
            intro K hK
            go_simp
            refine hK _ _ (AtS.done (by kernel_rfl) (NoPanic.normal ?_))
            clear hK K
            go_wp2
            go_ret
            exact HE'.out
        · intro K hK
          go_simp
          have k1 := (Below.refl W.heap.size W).alloc (Nat.le_refl _) (.cells #[.int .i64 x.off, .int .i64 x.len, .string (strB x.data)] 28)
          have nw := CellsAt.of_new W #[.int .i64 x.off, .int .i64 x.len, .string (strB x.data)] 28 (0, 0)
          refine hK _ _ (HS.out _ k1) ?_
          clear hK K
          refine AtS.only (i := 0) (by simp only [List.getElem?_toArray, List.getElem?_cons_succ, List.getElem?_cons_zero]; rfl) (by kernel_rfl) (by rfl) ?_
          intro K hK
          go_simp
          have k2 := k1.alloc (by simp) (.cells #[] 28)
          have own2 := World.ownsRow_lit (base := W.heap.size) (size := 3) (e := 28) (W.alloc (.cells #[.int .i64 x.off, .int .i64 x.len, .string (strB x.data)] 28)) #[] 0 (by simp) (by decide) rfl
          rw [show (W.alloc (.cells #[.int .i64 x.off, .int .i64 x.len, .string (strB x.data)] 28)).heap.size = W.heap.size + 1 by simp] at own2
          replace own2 : World.ownsRow _ _ _ _ _ 0 [] := own2
          have nw2 := nw.keep (Keeps.alloc _ (.cells #[] 28))
          refine hK _ _ (HS.out _ k2) ?_
          clear hK K
          refine AtS.only (i := 2) (by simp only [List.getElem?_toArray, List.getElem?_cons_succ, List.getElem?_cons_zero]; rfl) (by kernel_rfl) (by rfl) ?_
          intro K hK
          refine of_if (c := Region.wanted _ _ = true) ?_ (step_append_any (ops := #[]) _ rfl _ _ _ rfl W.heap.size 28 i1 _ 3 32 Try.underlying24 hi1 hy0 hy1 hy2 rfl (by omega) (.slice (some ⟨W.heap.size + 1, 0, none⟩) 0 0) 0 [] rfl own2 (some ⟨b, o, none⟩) (ys.length + 1) _ ((ys ++ [y]).flatMap dC) rfl hsl (hsrc.keep (Keeps.of_below k2)) one_flat (by omega) (by omega) (by simp; omega) ?_)
          · rfl
          intro v1 w3 own3 gr3 _
          have k3 := k2.grown gr3 (by simp; omega) (fun g h => (own2.lt g h).1)
          have nw3 := nw2.grown gr3 (by simp [Value.ownBlock])
          simp only [Nat.zero_add, List.nil_append] at own3
          refine hK _ _ (HS.out _ k3) ?_
          clear hK K own2 gr3 k2 k1 nw nw2
          simp only [Act.put, List.setIfInBounds_toArray, List.set_cons_zero, List.set_cons_succ]
          refine AtS.late (i := 5) (by simp only [List.getElem?_toArray, List.getElem?_cons_succ, List.getElem?_cons_zero]; rfl) (by kernel_rfl) (by rfl) (by rfl) ?_
          intro K hK
          refine of_if (c := Region.wanted _ _ = true) ?_ (step_append_any (ops := #[]) _ rfl _ _ _ rfl W.heap.size 28 i1 _ 3 32 Try.underlying24 hi1 hy0 hy1 hy2 rfl (by omega) v1 (ys.length + 1) ((ys ++ [y]).flatMap dC) rfl own3 (some ⟨_, 0, none⟩) 1 1 [.int .i64 x.off, .int .i64 x.len, .string (strB x.data)] rfl rfl nw3 (by simp [Value.oneCell']) (by omega) (by omega) (by have := k3.size; omega) ?_)
          · rfl
          intro v4 w4 own4 gr4 _
          have k4 := k3.grown gr4 (by have := k3.size; omega) (fun g h => (own3.lt g h).1)
          have HE' := Lib.hid (rowE_end HR.out (by simp) own4 rfl HWB.out k4)
          simp only [Act.put, List.setIfInBounds_toArray, List.set_cons_zero, List.set_cons_succ]
          refine hK _ _ ?_
          clear hK K
          refine AtS.late (i := 6) (by simp only [List.getElem?_toArray, List.getElem?_cons_succ, List.getElem?_cons_zero]; rfl) (by kernel_rfl) (by rfl) (by rfl) ?_
          intro K hK
          go_simp
          refine hK _ _ (AtS.done (by kernel_rfl) (NoPanic.normal ?_))
          clear hK K
          go_wp2
          go_ret
          exact HE'.out
    · have q4 : decide ((0 : Int) < y.len) = false := by simp; omega
      have HR : Hid (r = ys ++ [y] ++ [x]) := by show _ = _; rw [HD.out, if_neg (fun h => ex h.1), if_neg (fun h => ey h.2.1)]
      clear HD
      clear ex ey
      go_enter Try.func33, Try.ntmps33
      go_wp2_with fail
      clear c0 c1 c2
      obtain ⟨W, hW⟩ : ∃ W, W = ((w.alloc (.cells #[.int .i64 x.off, .int .i64 x.len, .string (strB x.data)] 28)).alloc (.cells #[.int .i64 y.off, .int .i64 y.len, .string (strB y.data)] 28)).drew := ⟨_, rfl⟩
      have HWB : Hid (Below w.heap.size w W) := by subst hW; exact (((Below.refl w.heap.size w).alloc (Nat.le_refl _) _).alloc (by simp) _).drew
      have bx : Blk W w.heap.size 28 #[.int .i64 x.off, .int .i64 x.len, .string (strB x.data)] := by subst hW; exact (Blk.drew ((Blk.new w #[.int .i64 x.off, .int .i64 x.len, .string (strB x.data)] 28).alloc _))
      have by_ : Blk W (w.heap.size + 1) 28 #[.int .i64 y.off, .int .i64 y.len, .string (strB y.data)] := by subst hW; have := Blk.drew (Blk.new (w.alloc (.cells #[.int .i64 x.off, .int .i64 x.len, .string (strB x.data)] 28)) #[.int .i64 y.off, .int .i64 y.len, .string (strB y.data)] 28); rwa [show (w.alloc (.cells #[.int .i64 x.off, .int .i64 x.len, .string (strB x.data)] 28)).heap.size = w.heap.size + 1 by simp] at this
      have hS0 : W.cell? ⟨w.heap.size, 0, none⟩ = some (.int .i64 x.off) ∧ W.cell? ⟨w.heap.size, 1, none⟩ = some (.int .i64 x.len) ∧ W.cell? ⟨w.heap.size, 2, none⟩ = some (.string (strB x.data)) := ⟨bx.cell (j := 0) rfl, bx.cell (j := 1) rfl, bx.cell (j := 2) rfl⟩
      have hsz : W.heap.size = w.heap.size + 2 := by subst hW; simp
      have HS : Hid (∀ w', Below W.heap.size W w' → w'.cell? ⟨w.heap.size, 0, none⟩ = some (.int .i64 x.off) ∧ w'.cell? ⟨w.heap.size, 1, none⟩ = some (.int .i64 x.len) ∧ w'.cell? ⟨w.heap.size, 2, none⟩ = some (.string (strB x.data))) := fun w' k => ⟨by rw [k.cell (by simp only; omega)]; exact hS0.1, by rw [k.cell (by simp only; omega)]; exact hS0.2.1, by rw [k.cell (by simp only; omega)]; exact hS0.2.2⟩
      clear hsz
      have hsrc := HC.out.keep (Keeps.of_below HWB.out)
      have hsl : ((ys ++ [y]).flatMap dC).length = (ys.length + 1) * 3 := by rw [flat_len dC_len]; simp
      refine AtS.start (S := fun w' => w'.cell? ⟨w.heap.size, 0, none⟩ = some (.int .i64 x.off) ∧ w'.cell? ⟨w.heap.size, 1, none⟩ = some (.int .i64 x.len) ∧ w'.cell? ⟨w.heap.size, 2, none⟩ = some (.string (strB x.data))) (by kernel_rfl) (by rw [← hW]; exact hS0) 5 ?_
      rw [← hW]
      clear hW hS0 bx by_
      (refine AtS.free (i := 1) (v := ?_) (by simp only [List.getElem?_toArray, List.getElem?_cons_succ, List.getElem?_cons_zero]; rfl) (by kernel_rfl) (by kernel_rfl) (by kernel_rfl) (fun _ _ _ h => h) (by kernel_rfl) (Or.inl ⟨by rfl, fun w _ => ?_⟩) ?_; rotate_left; (go_simp; try with_reducible rfl); simp only [Act.put, List.setIfInBounds_toArray, List.set_cons_zero, List.set_cons_succ])
      (refine AtS.load (i := 3) (v := ?_) (by simp only [List.getElem?_toArray, List.getElem?_cons_succ, List.getElem?_cons_zero]; rfl) (by kernel_rfl) (by kernel_rfl) (by kernel_rfl) (fun _ _ _ h => h) [] (by kernel_rfl) (Or.inl ⟨by rfl, fun w hSw => ?_⟩) ?_; rotate_left; ((try dsimp only at hSw); go_split_ands; go_simp; try with_reducible rfl); simp only [Act.put, List.setIfInBounds_toArray, List.set_cons_zero, List.set_cons_succ])
      refine AtS.two (i := 0) (j := 4) (by simp only [List.getElem?_toArray, List.getElem?_cons_succ, List.getElem?_cons_zero]; rfl) (by simp only [List.getElem?_toArray, List.getElem?_cons_succ, List.getElem?_cons_zero]; rfl) (by kernel_rfl) (by rfl) (by rfl) ?_ ?_
      · intro K hK
        go_simp
        have k1 := (Below.refl W.heap.size W).alloc (Nat.le_refl _) (.cells #[] 28)
        have own1 : (W.alloc (.cells #[] 28)).ownsRow W.heap.size 28 3 (.slice (some ⟨W.heap.size, 0, none⟩) 0 0) 0 [] := World.ownsRow_lit W #[] 0 (Nat.le_refl _) (by decide) rfl
        refine hK _ _ (HS.out _ k1) ?_
        clear hK K
        refine AtS.two (i := 2) (j := 4) (by simp only [List.getElem?_toArray, List.getElem?_cons_succ, List.getElem?_cons_zero]; rfl) (by simp only [List.getElem?_toArray, List.getElem?_cons_succ, List.getElem?_cons_zero]; rfl) (by kernel_rfl) (by rfl) (by rfl) ?_ ?_
        · intro K hK
          refine of_if (c := Region.wanted _ _ = true) ?_ (step_append_any (ops := #[]) _ rfl _ _ _ rfl W.heap.size 28 i1 _ 3 32 Try.underlying24 hi1 hy0 hy1 hy2 rfl (by omega) (.slice (some ⟨W.heap.size, 0, none⟩) 0 0) 0 [] rfl own1 (some ⟨b, o, none⟩) (ys.length + 1) _ ((ys ++ [y]).flatMap dC) rfl hsl (hsrc.keep (Keeps.of_below k1)) one_flat (by omega) (by omega) (by simp) ?_)
          · rfl
          intro v1 w2 own2 gr2 _
          have k2 := k1.grown gr2 (by simp) (fun g h => (own1.lt g h).1)
          simp only [Nat.zero_add, List.nil_append] at own2
          refine hK _ _ (HS.out _ k2) ?_
          clear hK K own1 gr2 k1
          simp only [Act.put, List.setIfInBounds_toArray, List.set_cons_zero, List.set_cons_succ]
          refine AtS.only (i := 4) (by simp only [List.getElem?_toArray, List.getElem?_cons_succ, List.getElem?_cons_zero]; rfl) (by kernel_rfl) (by rfl) ?_
          intro K hK
          go_simp
          have k3 := k2.alloc (by have := k2.size; omega) (.cells #[.int .i64 x.off, .int .i64 x.len, .string (strB x.data)] 28)
          refine hK _ _ (HS.out _ k3) ?_
          clear hK K
          have own3 := own2.alloc (.cells #[.int .i64 x.off, .int .i64 x.len, .string (strB x.data)] 28)
          refine AtS.late (i := 5) (by simp only [List.getElem?_toArray, List.getElem?_cons_succ, List.getElem?_cons_zero]; rfl) (by kernel_rfl) (by rfl) (by rfl) ?_
          intro K hK
          refine of_if (c := Region.wanted _ _ = true) ?_ (step_append_any (ops := #[]) _ rfl _ _ _ rfl W.heap.size 28 i1 _ 3 32 Try.underlying24 hi1 hy0 hy1 hy2 rfl (by omega) v1 (ys.length + 1) ((ys ++ [y]).flatMap dC) rfl own3 (some ⟨_, 0, none⟩) 1 1 [.int .i64 x.off, .int .i64 x.len, .string (strB x.data)] rfl rfl (CellsAt.of_new _ _ _ _) (by simp [Value.oneCell']) (by omega) (by omega) (by have := k3.size; omega) ?_)
          · rfl
          intro v4 w4 own4 gr4 _
          have k4 := k3.grown gr4 (by have := k3.size; omega) (fun g h => (own3.lt g h).1)
          have HE' := Lib.hid (rowE_end HR.out (by simp) own4 rfl HWB.out k4)
          simp only [Act.put, List.setIfInBounds_toArray, List.set_cons_zero, List.set_cons_succ]
          refine hK _ _ ?_
          clear hK K
          refine AtS.late (i := 6) (by simp only [List.getElem?_toArray, List.getElem?_cons_succ, List.getElem?_cons_zero]; rfl) (by kernel_rfl) (by rfl) (by rfl) ?_
          intro K hK
          go_simp
          refine hK _ _ (AtS.done (by kernel_rfl) (NoPanic.normal ?_))
          clear hK K
          go_wp2
          go_ret
          exact HE'.out
        · intro K hK
          go_simp
          have k2 := k1.alloc (by simp) (.cells #[.int .i64 x.off, .int .i64 x.len, .string (strB x.data)] 28)
          have own2 := own1.alloc (.cells #[.int .i64 x.off, .int .i64 x.len, .string (strB x.data)] 28)
          have nw := CellsAt.of_new (W.alloc (.cells #[] 28)) #[.int .i64 x.off, .int .i64 x.len, .string (strB x.data)] 28 (0, 0)
          rw [show (W.alloc (.cells #[] 28)).heap.size = W.heap.size + 1 by simp] at nw
          refine hK _ _ (HS.out _ k2) ?_
          clear hK K own1
          refine AtS.only (i := 2) (by simp only [List.getElem?_toArray, List.getElem?_cons_succ, List.getElem?_cons_zero]; rfl) (by kernel_rfl) (by rfl) ?_
          intro K hK
          refine of_if (c := Region.wanted _ _ = true) ?_ (step_append_any (ops := #[]) _ rfl _ _ _ rfl W.heap.size 28 i1 _ 3 32 Try.underlying24 hi1 hy0 hy1 hy2 rfl (by omega) (.slice (some ⟨W.heap.size, 0, none⟩) 0 0) 0 [] rfl own2 (some ⟨b, o, none⟩) (ys.length + 1) _ ((ys ++ [y]).flatMap dC) rfl hsl (hsrc.keep (Keeps.of_below k2)) one_flat (by omega) (by omega) (by simp; omega) ?_)
          · rfl
          intro v1 w3 own3 gr3 _
          have k3 := k2.grown gr3 (by simp; omega) (fun g h => (own2.lt g h).1)
          have nw3 := nw.grown gr3 (by simp [Value.ownBlock])
          simp only [Nat.zero_add, List.nil_append] at own3
          refine hK _ _ (HS.out _ k3) ?_
          clear hK K own2 gr3 k2 k1 nw
          simp only [Act.put, List.setIfInBounds_toArray, List.set_cons_zero, List.set_cons_succ]
          refine AtS.late (i := 5) (by simp only [List.getElem?_toArray, List.getElem?_cons_succ, List.getElem?_cons_zero]; rfl) (by kernel_rfl) (by rfl) (by rfl) ?_
          intro K hK
          refine of_if (c := Region.wanted _ _ = true) ?_ (step_append_any (ops := #[]) _ rfl _ _ _ rfl W.heap.size 28 i1 _ 3 32 Try.underlying24 hi1 hy0 hy1 hy2 rfl (by omega) v1 (ys.length + 1) ((ys ++ [y]).flatMap dC) rfl own3 (some ⟨_, 0, none⟩) 1 1 [.int .i64 x.off, .int .i64 x.len, .string (strB x.data)] rfl rfl nw3 (by simp [Value.oneCell']) (by omega) (by omega) (by have := k3.size; omega) ?_)
          · rfl
          intro v4 w4 own4 gr4 _
          have k4 := k3.grown gr4 (by have := k3.size; omega) (fun g h => (own3.lt g h).1)
          have HE' := Lib.hid (rowE_end HR.out (by simp) own4 rfl HWB.out k4)
          simp only [Act.put, List.setIfInBounds_toArray, List.set_cons_zero, List.set_cons_succ]
          refine hK _ _ ?_
          clear hK K
          refine AtS.late (i := 6) (by simp only [List.getElem?_toArray, List.getElem?_cons_succ, List.getElem?_cons_zero]; rfl) (by kernel_rfl) (by rfl) (by rfl) ?_
          intro K hK
          go_simp
          refine hK _ _ (AtS.done (by kernel_rfl) (NoPanic.normal ?_))
          clear hK K
          go_wp2
          go_ret
          exact HE'.out
      · intro K hK
        go_simp
        have k1 := (Below.refl W.heap.size W).alloc (Nat.le_refl _) (.cells #[.int .i64 x.off, .int .i64 x.len, .string (strB x.data)] 28)
        have nw := CellsAt.of_new W #[.int .i64 x.off, .int .i64 x.len, .string (strB x.data)] 28 (0, 0)
        refine hK _ _ (HS.out _ k1) ?_
        clear hK K
        refine AtS.only (i := 0) (by simp only [List.getElem?_toArray, List.getElem?_cons_succ, List.getElem?_cons_zero]; rfl) (by kernel_rfl) (by rfl) ?_
        intro K hK
        go_simp
        have k2 := k1.alloc (by simp) (.cells #[] 28)
        have own2 := World.ownsRow_lit (base := W.heap.size) (size := 3) (e := 28) (W.alloc (.cells #[.int .i64 x.off, .int .i64 x.len, .string (strB x.data)] 28)) #[] 0 (by simp) (by decide) rfl
        rw [show (W.alloc (.cells #[.int .i64 x.off, .int .i64 x.len, .string (strB x.data)] 28)).heap.size = W.heap.size + 1 by simp] at own2
        replace own2 : World.ownsRow _ _ _ _ _ 0 [] := own2
        have nw2 := nw.keep (Keeps.alloc _ (.cells #[] 28))
        refine hK _ _ (HS.out _ k2) ?_
        clear hK K
        refine AtS.only (i := 2) (by simp only [List.getElem?_toArray, List.getElem?_cons_succ, List.getElem?_cons_zero]; rfl) (by kernel_rfl) (by rfl) ?_
        intro K hK
        refine of_if (c := Region.wanted _ _ = true) ?_ (step_append_any (ops := #[]) _ rfl _ _ _ rfl W.heap.size 28 i1 _ 3 32 Try.underlying24 hi1 hy0 hy1 hy2 rfl (by omega) (.slice (some ⟨W.heap.size + 1, 0, none⟩) 0 0) 0 [] rfl own2 (some ⟨b, o, none⟩) (ys.length + 1) _ ((ys ++ [y]).flatMap dC) rfl hsl (hsrc.keep (Keeps.of_below k2)) one_flat (by omega) (by omega) (by simp; omega) ?_)
        · rfl
        intro v1 w3 own3 gr3 _
        have k3 := k2.grown gr3 (by simp; omega) (fun g h => (own2.lt g h).1)
        have nw3 := nw2.grown gr3 (by simp [Value.ownBlock])
        simp only [Nat.zero_add, List.nil_append] at own3
        refine hK _ _ (HS.out _ k3) ?_
        clear hK K own2 gr3 k2 k1 nw nw2
        simp only [Act.put, List.setIfInBounds_toArray, List.set_cons_zero, List.set_cons_succ]
        refine AtS.late (i := 5) (by simp only [List.getElem?_toArray, List.getElem?_cons_succ, List.getElem?_cons_zero]; rfl) (by kernel_rfl) (by rfl) (by rfl) ?_
        intro K hK
        refine of_if (c := Region.wanted _ _ = true) ?_ (step_append_any (ops := #[]) _ rfl _ _ _ rfl W.heap.size 28 i1 _ 3 32 Try.underlying24 hi1 hy0 hy1 hy2 rfl (by omega) v1 (ys.length + 1) ((ys ++ [y]).flatMap dC) rfl own3 (some ⟨_, 0, none⟩) 1 1 [.int .i64 x.off, .int .i64 x.len, .string (strB x.data)] rfl rfl nw3 (by simp [Value.oneCell']) (by omega) (by omega) (by have := k3.size; omega) ?_)
        · rfl
        intro v4 w4 own4 gr4 _
        have k4 := k3.grown gr4 (by have := k3.size; omega) (fun g h => (own3.lt g h).1)
        have HE' := Lib.hid (rowE_end HR.out (by simp) own4 rfl HWB.out k4)
        simp only [Act.put, List.setIfInBounds_toArray, List.set_cons_zero, List.set_cons_succ]
        refine hK _ _ ?_
        clear hK K
        refine AtS.late (i := 6) (by simp only [List.getElem?_toArray, List.getElem?_cons_succ, List.getElem?_cons_zero]; rfl) (by kernel_rfl) (by rfl) (by rfl) ?_
        intro K hK
        go_simp
        refine hK _ _ (AtS.done (by kernel_rfl) (NoPanic.normal ?_))
        clear hK K
        go_wp2
        go_ret
        exact HE'.out

theorem radd_any (w : World) {va : Value} {xs : List DOp} (ha : Dls w va xs) (x : DOp) (hx : 0 ≤ x.len ∧ x.len ≤ 1000000000 ∧ x.data.length ≤ 1000000000) (hy : ∀ y ∈ xs, 0 ≤ y.len ∧ y.len ≤ 1000000000 ∧ -1000000000 ≤ y.off ∧ y.off ≤ 1000000000 ∧ y.data.length ≤ 1000000000) (hl : xs.length ≤ 1000000000) :
    Calls Try.prog 33 #[va, dV x] w (RowE (addD xs x) w) := by
  rcases List.eq_nil_or_concat xs with rfl | ⟨ys, y, rfl⟩
  · exact radd_nil w ha x
  · rw [List.concat_eq_append] at *
    exact radd_more w ha x hx (hy y (by simp)) (by simp at hl; omega)
end Go.Proofs.Ytiioebpmfjipeaa
