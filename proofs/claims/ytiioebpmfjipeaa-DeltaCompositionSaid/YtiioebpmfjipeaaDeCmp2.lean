/- delta: the elements of a composition, as an iterator. (Printed by wip/gen/gen_decmp2.py.) -/
import Derived.Test.YtiioebpmfjipeaaDeCmp1
import Derived.Test.YtiioebpmfjipeaaSrt
import Derived.Test.YtiioebpmfjipeaaDeIter
namespace Go.Proofs.Ytiioebpmfjipeaa
set_option linter.unusedVariables false
set_option linter.unusedSimpArgs false
open Go.RowKit
attribute [local go_sem] Oper.semAt_some

/-- All blocks are as they were. -/
structure KeepF (w w' : World) : Prop where
  size : w.heap.size ≤ w'.heap.size
  same : ∀ (b : Nat) (o : Obj), w.heap[b]? = some o → w'.heap[b]? = some o
section
variable {w w' w'' : World}
theorem KeepF.of_below (k : Below w.heap.size w w') : KeepF w w' := ⟨k.size, fun b o hx => (k.block b (Array.getElem?_eq_some_iff.1 hx).1).trans hx⟩
theorem KeepF.below (x : KeepF w w') (k : Below w'.heap.size w' w'') : KeepF w w'' := ⟨Nat.le_trans x.size k.size, fun b o hx => by
  have h1 := x.same b o hx
  exact (k.block b (Array.getElem?_eq_some_iff.1 h1).1).trans h1⟩
theorem KeepF.keepA {h : Nat} (x : KeepF w w') (k : KeepA 5 w.heap.size h w' w'') : KeepF w w'' := ⟨Nat.le_trans x.size k.size, fun b o hx => k.low b o (Array.getElem?_eq_some_iff.1 hx).1 (x.same b o hx)⟩
theorem KeepF.blk (x : KeepF w w') {g : Nat} {t : TypeId} {cs : Array Value} (hb : Blk w g t cs) : Blk w' g t cs := x.same g _ hb
theorem KeepF.keeps (x : KeepF w w') : Keeps w w' := fun b o u h => by
  have hlt := World.block_lt_of_cell? w _ h
  have e : w'.heap[b]? = w.heap[b]? := by rw [Array.getElem?_eq_getElem hlt]; exact x.same b _ (Array.getElem?_eq_getElem hlt)
  rw [World.cell?_of_block (w := w) (w' := w') (a := ⟨b, o, none⟩) e]
  exact h
theorem KeepF.cmpB (x : KeepF w w') {va vb : Value} {n : Nat} {es : List Int} {b1 b2 b5 g : Nat} (h : CmpB va vb n es b1 b2 b5 g w) : CmpB va vb n es b1 b2 b5 g w' := ⟨x.blk h.x1, x.blk h.x2, x.blk h.x5, x.blk h.xg⟩
end
theorem comp_drop' {first second : List DOp} {i : Nat} {x : DOp} (hx : second[i]? = some x) : compRaw first (second.drop i) = compX first x ++ compRaw first (second.drop (i + 1)) := by
  obtain ⟨h, rfl⟩ := List.getElem?_eq_some_iff.1 hx
  rw [List.drop_eq_getElem_cons h]
  exact List.flatMap_cons
theorem CmpB.end_ {va vb : Value} {xs : List DOp} {b1 b2 b5 g : Nat} {w : World} (h : CmpB va vb xs.length (esK xs xs.length) b1 b2 b5 g w) : ∀ j y, (esK xs xs.length)[j]? = some y → w.cell? ⟨g, 0 + j, none⟩ = some (.int .i64 y) := fun j y hj => by
  rw [Nat.zero_add]
  exact h.xg.cell (by simp [esA, hj])
theorem esK_mono (xs : List DOp) : ∀ (i j : Nat) (y z : Int), i ≤ j → (esK xs xs.length)[i]? = some y → (esK xs xs.length)[j]? = some z → y ≤ z := fun i j y z hij hi hj => by
  have h1 := (List.getElem?_eq_some_iff.1 hi).1
  have h2 := (List.getElem?_eq_some_iff.1 hj).1
  rw [esK_len] at h1 h2
  rw [esK_all xs h1] at hi
  rw [esK_all xs h2] at hj
  cases hi
  cases hj
  have := sumD_prefix (xs.take (j + 1)) (i + 1)
  rwa [List.take_take, Nat.min_eq_left (by omega)] at this

theorem sumD_all (xs : List DOp) : sumD (xs.take xs.length) = sumD xs := by rw [List.take_length]
theorem cut_spec {xs : List DOp} {f : Int} {r : Nat} (h : Cut1 (esK xs xs.length) (f + 1) r) (h0 : 0 ≤ f) (h1 : f < sumD xs) : r < xs.length ∧ (∀ j, j ≤ r → sumD (xs.take j) ≤ f) ∧ f < sumD (xs.take (r + 1)) := by
  obtain ⟨c1, c2, c3⟩ := h
  rw [esK_len] at c1
  have hr : r < xs.length := by
    rcases Nat.lt_or_ge r xs.length with h | h
    · exact h
    · exfalso
      rcases Nat.eq_zero_or_pos xs.length with hz | hz
      · rw [List.length_eq_zero_iff.1 hz] at h1
        have : sumD [] = 0 := rfl
        omega
      · have := c2 (xs.length - 1) _ (esK_all xs (by omega)) (by omega)
        rw [show xs.length - 1 + 1 = xs.length by omega, sumD_all] at this
        omega
  refine ⟨hr, fun j hj => ?_, ?_⟩
  · rcases Nat.eq_zero_or_pos j with hz | hz
    · subst hz; exact h0
    · have := c2 (j - 1) _ (esK_all xs (by omega)) (by omega)
      rw [show j - 1 + 1 = j by omega] at this
      omega
  · have := c3 r _ (esK_all xs hr) (Nat.le_refl _)
    omega
theorem cmp_step {xs : List DOp} {N : Int} (hv : ValL N xs) {fr to_ : Int} {j : Nat} {y : DOp} (hy : xs[j]? = some y) (h1 : sumD (xs.take j) ≤ fr) (h2 : fr < sumD (xs.take (j + 1))) (h3 : fr < to_) (h4 : to_ ≤ sumD xs) :
    partL (sumD (xs.take j)) (xs.drop j) fr to_ = cutX y (fr - sumD (xs.take j)) (min to_ (sumD (xs.take (j + 1))) - sumD (xs.take j)) :: partL (sumD (xs.take (j + 1))) (xs.drop (j + 1)) (min to_ (sumD (xs.take (j + 1)))) to_
    ∧ (min to_ (sumD (xs.take (j + 1))) < to_ → j + 1 < xs.length ∧ sumD (xs.take (j + 1)) ≤ min to_ (sumD (xs.take (j + 1))) ∧ min to_ (sumD (xs.take (j + 1))) < sumD (xs.take (j + 1 + 1))) := by
  have hst := sumD_take hy
  rw [hst] at h2
  obtain ⟨hj, rfl⟩ := List.getElem?_eq_some_iff.1 hy
  constructor
  · rw [List.drop_eq_getElem_cons hj, partL_take h1 h2 h3, hst]
  · intro h5
    have hj1 : j + 1 < xs.length := by
      rcases Nat.lt_or_ge (j + 1) xs.length with h | h
      · exact h
      · exfalso
        rw [List.take_of_length_le h] at h5
        omega
    have hz := szD_pos1 (hv xs[j + 1] (List.getElem_mem _)).1
    have hst2 := sumD_take (List.getElem?_eq_getElem hj1)
    rw [hst2]
    omega

set_option maxRecDepth 100000 in
set_option maxHeartbeats 8000000 in
theorem comp1_in (w : World) {A B : Option Addr} {c d : Nat} {xs ys : List DOp} {b1 b2 b5 g : Nat} {N : Int} (hC : CmpB (.slice A xs.length c) (.slice B ys.length d) xs.length (esK xs xs.length) b1 b2 b5 g w)
    (ha : Dls w (.slice A xs.length c) xs) (hb : Dls w (.slice B ys.length d) ys) (hN : N ≤ 65536) (hvx : ValL N xs) (hsx : sumD xs ≤ 65536) (hvy : ValL (sumD xs) ys) (hsy : sumD ys ≤ 65536) :
    Yields' w.heap.size w 66 #[.pointer (some ⟨b2, 0, none⟩), .pointer (some ⟨b5, 0, none⟩), .pointer (some ⟨b1, 0, none⟩)] (compRaw xs ys) := by
  intro n l J hn hJ hJm hY W hBW h0
  have hxl : xs.length ≤ 65536 := by have := val_count hvx; omega
  have hyl : ys.length ≤ 65536 := by have := val_count hvy; omega
  have HC := Lib.hid hC
  have HA := Lib.hid ha
  have HB := Lib.hid hb
  have HVX := Lib.hid hvx
  have HVY := Lib.hid hvy
  have HJ := Lib.hid hJ
  have HJM := Lib.hid hJm
  have HY := Lib.hid hY
  have hU := KeepF.of_below hBW
  have HX0 : Hid (compRaw xs ys = [] ++ compRaw xs (ys.drop 0)) := rfl
  have HPX : Hid (∀ k, sumD (xs.take k) ≤ sumD xs) := sumD_prefix xs
  generalize hcs : compRaw xs ys = cs at HY HX0 ⊢
  have hd1 : ys.length ≤ d := by obtain ⟨a2, e2, hB1, hc1, hc2⟩ := hb.form; cases hB1; exact hc1
  have p2 : W.cell? ⟨b2, 0, none⟩ = some (.slice B ys.length d) := (hU.blk hC.x2).cell (j := 0) rfl
  clear hC ha hb hvx hvy hJ hJm hY hBW hcs
  refine callsIn_of_wp Try.func66 rfl trivial ?_ rfl
  simp only [Try.ntmps66, List.size_toArray, List.length_cons, List.length_nil, Nat.reduceAdd, Nat.reduceSub, Array.replicate_succ, Array.replicate_zero, List.push_toArray, List.append_toArray, List.nil_append, List.cons_append]
  gi_wp2
  gi_loopw [14] (fun ii wr => ∃ (k h : Nat) (pre : List DOp), ii = .int .i64 k ∧ k ≤ ys.length ∧ Hid (cs = pre ++ compRaw xs (ys.drop k)) ∧ J h pre wr ∧ h ≤ wr.heap.size ∧ KeepF w wr) (fun ii _ => ys.length - (intOf ii).toNat)
  case atStart => exact ⟨0, _, [], rfl, by omega, HX0, h0, Nat.le_refl _, hU⟩
  case round =>
    clear h0 hU p2 HX0
    obtain ⟨k, h, pre, rfl, hk, HX, hj, hh, hu⟩ := hrel
    by_cases hlt : k < ys.length
    · obtain ⟨x, hx⟩ : ∃ x, ys[k]? = some x := ⟨_, List.getElem?_eq_getElem hlt⟩
      obtain ⟨bb, oo, rfl, c0, c1, c2⟩ := (HB.out.keep hu.keeps).get hx
      have hval := HVY.out x (List.mem_of_getElem? hx)
      have hlx0 := hval.len0
      have HXD := Lib.hid (HX.out.trans (congrArg (pre ++ ·) (comp_drop' (first := xs) hx)))
      have hal := (Below.refl wr.heap.size wr).alloc (Nat.le_refl _) (.cells #[.int .i64 x.off, .int .i64 x.len, .string (strB x.data)] 28)
      have hbx := Blk.new wr #[.int .i64 x.off, .int .i64 x.len, .string (strB x.data)] 28
      have hu2 := hu.below hal
      have HJ2 := Lib.hid (HJ.out _ _ _ _ hal hj)
      have hh2 : h ≤ wr.heap.size := hh
      have CI := Lib.hid (fun w' => isIns_any x w')
      have hsz2 : wr.heap.size < (wr.alloc (.cells #[.int .i64 x.off, .int .i64 x.len, .string (strB x.data)] 28)).heap.size := hbx.lt
      clear HX hj hu hx
      gi_upto_region 3 with (fail)
      clear c0 c1 c2
      generalize wr.alloc (.cells #[.int .i64 x.off, .int .i64 x.len, .string (strB x.data)] 28) = w2 at *
      generalize wr.heap.size = gx at *
      have q0 : w2.cell? ⟨gx, 0, none⟩ = some (.int .i64 x.off) := hbx.cell (j := 0) rfl
      have q1 : w2.cell? ⟨gx, 1, none⟩ = some (.int .i64 x.len) := hbx.cell (j := 1) rfl
      have q2 : w2.cell? ⟨gx, 2, none⟩ = some (.string (strB x.data)) := hbx.cell (j := 2) rfl
      unfold dV at CI
      by_cases hcl : 0 < x.len
      · have hcp : x.cp := hval.1.resolve_right fun hi => by have := hi.1; omega
        have hib : insB x = false := decide_eq_false fun e => by have := e.1; omega
        have hv2 := hval.2 hcp
        have HCX : Hid (compX xs x = partL 0 xs x.off (x.off + x.len)) := if_pos hcl
        rw [hib] at CI
        have hto : IntKind.i64.wrap (x.off + x.len) = x.off + x.len := i64w (by omega) (by omega)
        clear hib hcp hval
        gi_wp2_with fail
        refine ⟨trivial, ?_⟩
        refine (callsIn_wide.2 (CI.out _)).mono ?_
        rintro e w3 ⟨rfl, hb3⟩
        have hbx3 := hbx.keep hb3
        have hu3 := hu2.below hb3
        have HJ3 := Lib.hid (HJ.out _ _ _ _ hb3 HJ2.out)
        have hs3 := hb3.size
        clear q0 q1 q2 CI hb3 hbx hu2 HJ2 hal
        have q0 : w3.cell? ⟨gx, 0, none⟩ = some (.int .i64 x.off) := hbx3.cell (j := 0) rfl
        have q1 : w3.cell? ⟨gx, 1, none⟩ = some (.int .i64 x.len) := hbx3.cell (j := 1) rfl
        have hC3 := hu3.cmpB HC.out
        have q5 : w3.cell? ⟨b5, 0, none⟩ = some (.slice (some ⟨g, 0, none⟩) xs.length xs.length) := hC3.x5.cell (j := 0) rfl
        have hfw : IntKind.i64.wrap (x.off + 1) = x.off + 1 := i64w (by omega) (by omega)
        have CS := fun (n : Nat) => searchInts_any (w3.drewN n) (b := g) (o := 0) (c := xs.length) (x := x.off + 1) (esK xs xs.length) (by rw [esK_len]; omega) hC3.xg.lt hC3.end_ (esK_mono xs)
        rw [esK_len] at CS
        have CS' := Lib.hid CS
        have HDr : Hid (∀ n, Below w3.heap.size w3 (w3.drewN n)) := fun n => ((Drawn.refl w3).drewN n).below _
        clear CS hC3
        gi_wp2_with fail
        refine wpIn_wide.2 ?_
        go_quiet (fail)
        clear q0 q1
        gi_wp2_with fail
        refine ⟨trivial, ?_⟩
        refine (callsIn_wide.2 (CS'.out _)).mono ?_
        rintro e w4 ⟨r, rfl, hcut, hb4⟩
        obtain ⟨g1, g2, g3⟩ := cut_spec hcut hv2.1 (by omega)
        have hb34 := (HDr.out nq).trans hb4
        have HJ4 := Lib.hid (HJ.out _ _ _ _ hb34 HJ3.out)
        have HU4 := Lib.hid (hu3.below hb34)
        have hs4 := hb34.size
        obtain ⟨REST, hRE⟩ : ∃ l, compRaw xs (ys.drop (k + 1)) = l := ⟨_, rfl⟩
        have HREST := Lib.hid hRE
        have HX4 : Hid (cs = pre ++ (partL (sumD (xs.take r)) (xs.drop r) x.off (x.off + x.len) ++ REST)) := by
          show _ = _
          rw [HXD.out, HCX.out, partL_from r xs 0 x.off (x.off + x.len) (fun j hj _ => by rw [Int.zero_add]; exact g2 j hj) (by omega), Int.zero_add, hRE]
        have hg2 := g2 r (Nat.le_refl _)
        have HIN : Hid (x.off < x.off + x.len → r < xs.length ∧ sumD (xs.take r) ≤ x.off ∧ x.off < sumD (xs.take (r + 1))) := fun _ => ⟨g1, hg2, g3⟩
        have hto1 : x.off + x.len ≤ sumD xs := hv2.2
        have hf0 : x.off ≤ x.off + x.len := by omega
        clear hcut hb4 hb34 CS' HDr hu3 HJ3 HXD HCX hRE g2 g3 hg2 q5 hbx3
        generalize x.off + x.len = to_ at *
        gi_wp2
        gi_loopw [7, 9] (fun fi ji wi => ∃ (fr : Int) (j h2 : Nat) (pre2 : List DOp), fi = .int .i64 fr ∧ ji = .int .i64 j ∧ 0 ≤ fr ∧ fr ≤ to_ ∧ j ≤ xs.length ∧ Hid (fr < to_ → j < xs.length ∧ sumD (xs.take j) ≤ fr ∧ fr < sumD (xs.take (j + 1))) ∧ Hid (cs = pre2 ++ (partL (sumD (xs.take j)) (xs.drop j) fr to_ ++ REST)) ∧ J h2 pre2 wi ∧ h2 ≤ wi.heap.size ∧ KeepF w wi) (fun _ ji _ => xs.length + 1 - (intOf ji).toNat)
        case atStart => exact ⟨x.off, r, h, pre, rfl, rfl, hv2.1, hf0, by omega, HIN, HX4, HJ4.out, by omega, HU4.out⟩
        case round =>
          clear HIN HX4 HJ4 HU4
          obtain ⟨fr, j, h2, pre2, rfl, rfl, hfr0, hfr1, hj0, HIN, HXI, hji, hhi, hui⟩ := hrel
          by_cases hft : fr < to_
          · obtain ⟨i1, i2, i3⟩ := HIN.out hft
            obtain ⟨y, hy⟩ : ∃ y, xs[j]? = some y := ⟨_, List.getElem?_eq_getElem i1⟩
            obtain ⟨s1, s2⟩ := cmp_step HVX.out hy i2 i3 hft hto1
            have hvy2 := HVX.out y (List.mem_of_getElem? hy)
            have hst := sumD_take hy
            have hp := HPX.out (j + 1)
            have hp0 := sumD_pos (xs.take j)
            have hCi := hui.cmpB HC.out
            have hAi := HA.out.keep hui.keeps
            have q5 : wr.cell? ⟨b5, 0, none⟩ = some (.slice (some ⟨g, 0, none⟩) xs.length xs.length) := hCi.x5.cell (j := 0) rfl
            have q1 : wr.cell? ⟨b1, 0, none⟩ = some (.slice A xs.length c) := hCi.x1.cell (j := 0) rfl
            have qe : wr.cell? ⟨g, j, none⟩ = some (.int .i64 (sumD (xs.take (j + 1)))) := by
              have := hCi.end_ j _ (esK_all xs i1)
              rwa [Nat.zero_add] at this
            obtain ⟨ba, oa, hAe, d0, d1, d2⟩ := hAi.get hy
            obtain ⟨E, hE⟩ : ∃ E, E = sumD (xs.take (j + 1)) := ⟨_, rfl⟩
            obtain ⟨at_, hat⟩ : ∃ a, a = sumD (xs.take j) := ⟨_, rfl⟩
            obtain ⟨z, hz⟩ : ∃ z, z = szD y := ⟨_, rfl⟩
            rw [← hE] at s1 s2 hst hp qe i3
            rw [← hat] at s1 i2 hst hp0
            rw [← hz] at hst
            obtain ⟨en, hen⟩ : ∃ e, e = min to_ E := ⟨_, rfl⟩
            rw [← hen] at s1 s2
            have hen1 : en ≤ to_ := by omega
            have hen2 : en ≤ E := by omega
            have hen3 : fr < en := by omega
            obtain ⟨p, hpp⟩ : ∃ p : Nat, fr - at_ = (p : Int) := ⟨(fr - at_).toNat, by omega⟩
            obtain ⟨q, hqq⟩ : ∃ q : Nat, en - at_ = (q : Int) := ⟨(en - at_).toNat, by omega⟩
            have wa : IntKind.i64.wrap (fr - at_) = (p : Int) := by rw [i64w (by omega) (by omega), hpp]
            have wb : IntKind.i64.wrap (en - at_) = (q : Int) := by rw [i64w (by omega) (by omega), hqq]
            have wc : IntKind.i64.wrap (E - z) = at_ := by rw [i64w (by omega) (by omega)]; omega
            rw [hpp, hqq] at s1
            have CP := Lib.hid (fun w' => cut_any y hvy2 hN (by rw [← hz]; omega) p q (by omega) (by rw [← hz]; omega) w')
            have CZ := Lib.hid (fun w' => size_any y w')
            rw [← hz] at CZ
            have HXS : Hid (cs = pre2 ++ cutX y p q :: (partL E (xs.drop (j + 1)) en to_ ++ REST)) := by
              show _ = _
              rw [HXI.out, ← hat, s1]
              rfl
            have HIN2 : Hid (en < to_ → j + 1 < xs.length ∧ E ≤ en ∧ en < sumD (xs.take (j + 1 + 1))) := s2
            have HEE := Lib.hid hE
            have hji2 : (j : Int) < (xs.length : Int) := by omega
            have HJi := Lib.hid hji
            have HUi := Lib.hid hui
            unfold dV at CP CZ
            subst hAe
            have hmin : min to_ E = en := hen.symm
            have HKY : Hid (∀ w', Below wr.heap.size wr w' → w'.cell? ⟨b5, 0, none⟩ = some (.slice (some ⟨g, 0, none⟩) xs.length xs.length) ∧ w'.cell? ⟨g, j, none⟩ = some (.int .i64 E) ∧ w'.cell? ⟨b1, 0, none⟩ = some (.slice (some ⟨ba, oa, none⟩) xs.length c) ∧ w'.cell? ⟨ba, oa + j * 3, none⟩ = some (.int .i64 y.off) ∧ w'.cell? ⟨ba, oa + j * 3 + 1, none⟩ = some (.int .i64 y.len) ∧ w'.cell? ⟨ba, oa + j * 3 + 2, none⟩ = some (.string (strB y.data))) := fun w' hb =>
              have kk := Keeps.of_below hb
              ⟨kk _ _ _ q5, kk _ _ _ qe, kk _ _ _ q1, kk _ _ _ d0, kk _ _ _ d1, kk _ _ _ d2⟩
            clear HIN HXI s1 s2 hy hvy2 hst hp hp0 hCi hAi hE hat hz hen hpp hqq i3 hji hui
            gi_upto_region 10 with (fail)
            have hjl : ¬ (xs.length : Int) ≤ (j : Int) := by omega
            refine AtS.startIn (S := fun w' => w'.cell? ⟨b5, 0, none⟩ = some (.slice (some ⟨g, 0, none⟩) xs.length xs.length) ∧ w'.cell? ⟨g, j, none⟩ = some (.int .i64 E) ∧ w'.cell? ⟨b1, 0, none⟩ = some (.slice (some ⟨ba, oa, none⟩) xs.length c) ∧ w'.cell? ⟨ba, oa + j * 3, none⟩ = some (.int .i64 y.off) ∧ w'.cell? ⟨ba, oa + j * 3 + 1, none⟩ = some (.int .i64 y.len) ∧ w'.cell? ⟨ba, oa + j * 3 + 2, none⟩ = some (.string (strB y.data))) Wid.wide (by kernel_rfl) (by kernel_rfl) (HKY.out _ (Below.refl _ _).drew) 9 ?_
            clear q5 q1 qe d0 d1 d2
            (refine AtS.load (i := 0) (v := ?_) (by simp only [List.getElem?_toArray, List.getElem?_cons_succ, List.getElem?_cons_zero]; rfl) (by kernel_rfl) (by kernel_rfl) (by kernel_rfl) (fun _ _ _ h => h) [] (by kernel_rfl) (Or.inl ⟨by rfl, fun w hSw => ?_⟩) ?_; rotate_left; ((try dsimp only at hSw); go_split_ands; go_simp; try with_reducible rfl); simp only [Act.put, List.setIfInBounds_toArray, List.set_cons_zero, List.set_cons_succ])
            (refine AtS.free (i := 1) (v := ?_) (by simp only [List.getElem?_toArray, List.getElem?_cons_succ, List.getElem?_cons_zero]; rfl) (by kernel_rfl) (by kernel_rfl) (by kernel_rfl) (fun _ _ _ h => h) (by kernel_rfl) (Or.inl ⟨by rfl, fun w _ => ?_⟩) ?_; rotate_left; (go_simp; try with_reducible rfl); simp only [Act.put, List.setIfInBounds_toArray, List.set_cons_zero, List.set_cons_succ])
            (refine AtS.free (i := 2) (v := ?_) (by simp only [List.getElem?_toArray, List.getElem?_cons_succ, List.getElem?_cons_zero]; rfl) (by kernel_rfl) (by kernel_rfl) (by kernel_rfl) (fun _ _ _ h => h) (by kernel_rfl) (Or.inl ⟨by rfl, fun w _ => ?_⟩) ?_; rotate_left; (go_simp; try with_reducible rfl); simp only [Act.put, List.setIfInBounds_toArray, List.set_cons_zero, List.set_cons_succ])
            (refine AtS.load (i := 3) (v := ?_) (by simp only [List.getElem?_toArray, List.getElem?_cons_succ, List.getElem?_cons_zero]; rfl) (by kernel_rfl) (by kernel_rfl) (by kernel_rfl) (fun _ _ _ h => h) [] (by kernel_rfl) (Or.inl ⟨by rfl, fun w hSw => ?_⟩) ?_; rotate_left; ((try dsimp only at hSw); go_split_ands; go_simp; try with_reducible rfl); simp only [Act.put, List.setIfInBounds_toArray, List.set_cons_zero, List.set_cons_succ])
            (refine AtS.load (i := 4) (v := ?_) (by simp only [List.getElem?_toArray, List.getElem?_cons_succ, List.getElem?_cons_zero]; rfl) (by kernel_rfl) (by kernel_rfl) (by kernel_rfl) (fun _ _ _ h => h) [] (by kernel_rfl) (Or.inl ⟨by rfl, fun w hSw => ?_⟩) ?_; rotate_left; ((try dsimp only at hSw); go_split_ands; go_simp; try with_reducible rfl); simp only [Act.put, List.setIfInBounds_toArray, List.set_cons_zero, List.set_cons_succ])
            (refine AtS.free (i := 5) (v := ?_) (by simp only [List.getElem?_toArray, List.getElem?_cons_succ, List.getElem?_cons_zero]; rfl) (by kernel_rfl) (by kernel_rfl) (by kernel_rfl) (fun _ _ _ h => h) (by kernel_rfl) (Or.inl ⟨by rfl, fun w _ => ?_⟩) ?_; rotate_left; (go_simp; try with_reducible rfl); simp only [Act.put, List.setIfInBounds_toArray, List.set_cons_zero, List.set_cons_succ])
            (refine AtS.free (i := 6) (v := ?_) (by simp only [List.getElem?_toArray, List.getElem?_cons_succ, List.getElem?_cons_zero]; rfl) (by kernel_rfl) (by kernel_rfl) (by kernel_rfl) (fun _ _ _ h => h) (by kernel_rfl) (Or.inl ⟨by rfl, fun w _ => ?_⟩) ?_; rotate_left; (go_simp; try with_reducible rfl); simp only [Act.put, List.setIfInBounds_toArray, List.set_cons_zero, List.set_cons_succ])
            (refine AtS.load (i := 7) (v := ?_) (by simp only [List.getElem?_toArray, List.getElem?_cons_succ, List.getElem?_cons_zero]; rfl) (by kernel_rfl) (by kernel_rfl) (by kernel_rfl) (fun _ _ _ h => h) [] (by kernel_rfl) (Or.inl ⟨by rfl, fun w hSw => ?_⟩) ?_; rotate_left; ((try dsimp only at hSw); go_split_ands; go_simp; try with_reducible rfl); simp only [Act.put, List.setIfInBounds_toArray, List.set_cons_zero, List.set_cons_succ])
            refine AtS.only (i := 8) (by simp only [List.getElem?_toArray, List.getElem?_cons_succ, List.getElem?_cons_zero]; rfl) (by kernel_rfl) (by rfl) ?_
            intro K hK
            go_simp
            refine (CZ.out _).mono ?_
            rintro e w6 ⟨rfl, hb6⟩
            have hb6' : Below wr.heap.size wr w6 := (Below.refl wr.heap.size wr).drew.trans hb6
            have hK' := hK
            clear hK CZ
            refine hK' _ _ (HKY.out _ hb6') ?_
            clear hK' K
            refine AtS.late (i := 9) (by simp only [List.getElem?_toArray, List.getElem?_cons_succ, List.getElem?_cons_zero]; rfl) (by kernel_rfl) (by rfl) (by rfl) ?_
            intro K hK
            go_simp
            refine hK _ _ ?_
            clear hK K
            refine AtS.late (i := 10) (by simp only [List.getElem?_toArray, List.getElem?_cons_succ, List.getElem?_cons_zero]; rfl) (by kernel_rfl) (by rfl) (by rfl) ?_
            intro K hK
            go_simp
            refine hK _ _ (AtS.done (by kernel_rfl) (OnlyN.normal ?_))
            clear hK K
            obtain ⟨q5, qe, q1, d0, d1, d2⟩ := HKY.out _ hb6'
            have HJ6 := Lib.hid (HJ.out _ _ _ _ hb6' HJi.out)
            have HU6 := Lib.hid (HUi.out.below hb6')
            have hs6 := hb6'.size
            clear hb6 hb6' HJi HUi HKY
            gi_wp2_with fail
            refine ⟨trivial, ?_⟩
            refine (callsIn_wide.2 (CP.out _)).mono ?_
            rintro e w7 ⟨rfl, hb7⟩
            have hs7 := hb7.size
            have hu7 := HU6.out.below hb7
            obtain ⟨fn, tmps, assign, body, hyy, hR⟩ := HY.out h2 pre2 (cutX y p q) w7 (HJ.out _ _ _ _ hb7 HJ6.out) (by omega) ⟨_, HXS.out⟩
            have HR := Lib.hid hR
            have HXS2 : Hid (cs = (pre2 ++ [cutX y p q]) ++ (partL (sumD (xs.take (j + 1))) (xs.drop (j + 1)) en to_ ++ REST)) := by
              show _ = _
              rw [HXS.out, HEE.out, List.append_assoc]
              rfl
            unfold dV at hyy
            clear hR q5 qe q1 d0 d1 d2 HJ6 HU6 hb7 CP HXS
            generalize cutX y p q = el at *
            gi_wp2_with fail
            refine HR.out.mono ?_
            rintro e w8 ⟨rfl, hj8, hk8⟩
            have HU8 := Lib.hid (hu7.keepA hk8)
            have HJ8 := Lib.hid hj8
            have HIN3 : Hid (en < to_ → j + 1 < xs.length ∧ sumD (xs.take (j + 1)) ≤ en ∧ en < sumD (xs.take (j + 1 + 1))) := fun hh => by
              have := HIN2.out hh
              rw [HEE.out] at this
              exact this
            clear hk8 HR hyy hu7 hj8 HIN2
            gi_wp2
            go_roundw
            case rel => exact ⟨en, j + 1, w8.heap.size, pre2 ++ [el], rfl, by go_num, by omega, hen1, by omega, HIN3, HXS2.out, HJ8.out, Nat.le_refl _, HU8.out⟩
            case measure => simp [intOf]; omega
          · have hfe : fr = to_ := by omega
            have HX5 : Hid (cs = pre2 ++ compRaw xs (ys.drop (k + 1))) := by
              show _ = _
              rw [HXI.out, partL_end _ _ _ _ (.inl (by omega)), HREST.out]
              rfl
            have HJ5 := Lib.hid hji
            have HU5 := Lib.hid hui
            clear HXI HIN hji hui hfe
            gi_wp2
            go_roundw
            case rel => exact ⟨k + 1, h2, pre2, by go_num, by omega, HX5.out, HJ5.out, hhi, HU5.out⟩
            case measure => simp [intOf]; omega
      · have hib : x.ins := hval.1.resolve_left fun hc => hcl hc.1
        have hib' : insB x = true := decide_eq_true hib
        rw [hib'] at CI
        have HCX : Hid (compX xs x = [x]) := if_neg hcl
        clear hib hib' hval
        gi_wp2_with fail
        refine ⟨trivial, ?_⟩
        refine (callsIn_wide.2 (CI.out _)).mono ?_
        rintro e w3 ⟨rfl, hb3⟩
        have hbx3 := hbx.keep hb3
        have hu3 := hu2.below hb3
        have hs3 := hb3.size
        have HXS : Hid (cs = pre ++ x :: compRaw xs (ys.drop (k + 1))) := by show _ = _; rw [HXD.out, HCX.out]; rfl
        obtain ⟨fn, tmps, assign, body, hy, hR⟩ := HY.out h pre x w3 (HJ.out _ _ _ _ hb3 HJ2.out) (by omega) ⟨_, HXS.out⟩
        have HR := Lib.hid hR
        unfold dV at hy
        clear q0 q1 q2 CI hb3 hbx hu2 HJ2 hal HXD HCX hR
        have q0 : w3.cell? ⟨gx, 0, none⟩ = some (.int .i64 x.off) := hbx3.cell (j := 0) rfl
        have q1 : w3.cell? ⟨gx, 1, none⟩ = some (.int .i64 x.len) := hbx3.cell (j := 1) rfl
        have q2 : w3.cell? ⟨gx, 2, none⟩ = some (.string (strB x.data)) := hbx3.cell (j := 2) rfl
        gi_wp2_with fail
        refine HR.out.mono ?_
        rintro e w5 ⟨rfl, hj5, hk5⟩
        have HU5 := Lib.hid (hu3.keepA hk5)
        have HJ5 := Lib.hid hj5
        clear hk5 HR hy q0 q1 q2 hbx3 hu3 hj5
        gi_wp2
        go_roundw
        case rel => exact ⟨k + 1, w5.heap.size, pre ++ [x], by go_num, by omega, by show _ = _; rw [HXS.out, List.append_assoc]; rfl, HJ5.out, Nat.le_refl _, HU5.out⟩
        case measure => simp [intOf]; omega
    · have HE : Hid (cs = pre) := by
        show _ = _
        rw [HX.out, List.drop_eq_nil_of_le (by omega)]
        exact List.append_nil _
      have HE2 : J wr.heap.size cs wr := by rw [HE.out]; exact HJM.out _ _ _ _ hh hj
      have HE3 := Lib.hid HE2
      clear HE2 HX hj HE
      have hlt' : ¬ (k : Int) < ys.length := by omega
      gi_wp2
      go_end0
      exact ⟨⟨_, rfl⟩, HE3.out⟩
end Go.Proofs.Ytiioebpmfjipeaa
