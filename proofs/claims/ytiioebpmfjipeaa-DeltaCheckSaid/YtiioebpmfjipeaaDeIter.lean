/- delta: the elements of a difference, as an iterator (Source.Diff's second closure). -/
import Derived.Test.YtiioebpmfjipeaaDeLong
import Derived.Test.YtiioebpmfjipeaaDeJoin
namespace Go.Proofs.Ytiioebpmfjipeaa
set_option linter.unusedVariables false
set_option linter.unusedSimpArgs false
open Go.RowKit
attribute [local go_sem] Oper.semAt_some

/-- All blocks but rows of bytes are as they were. -/
structure KeepU (w w' : World) : Prop where
  size : w.heap.size ≤ w'.heap.size
  same : ∀ (b : Nat) (o : Obj), w.heap[b]? = some o → (∀ cs fz, o ≠ Obj.cells cs 5 fz) → w'.heap[b]? = some o
section
variable {w w' w'' : World}
theorem KeepU.of_below (k : Below w.heap.size w w') : KeepU w w' := ⟨k.size, fun b o hx _ => (k.block b (Array.getElem?_eq_some_iff.1 hx).1).trans hx⟩
theorem KeepU.below (x : KeepU w w') (k : Below w'.heap.size w' w'') : KeepU w w'' := ⟨Nat.le_trans x.size k.size, fun b o hx ho => by
  have h1 := x.same b o hx ho
  exact (k.block b (Array.getElem?_eq_some_iff.1 h1).1).trans h1⟩
theorem KeepU.keepA {h : Nat} (x : KeepU w w') (k : KeepA 5 w.heap.size h w' w'') : KeepU w w'' := ⟨Nat.le_trans x.size k.size, fun b o hx ho => k.same b o (.inl (Array.getElem?_eq_some_iff.1 hx).1) (x.same b o hx ho) ho⟩
theorem KeepU.blk (x : KeepU w w') {g : Nat} {t : TypeId} {cs : Array Value} (hb : Blk w g t cs) (ht : t ≠ 5) : Blk w' g t cs := x.same g _ hb fun cs' fz e => ht (by injection e)
theorem KeepU.own (x : KeepU w w') {B sz n : Nat} {e : TypeId} {v : Value} {xs : List Value} (ho : w.ownsRow B e sz v n xs) (he : e ≠ 5) : w'.ownsRow B e sz v n xs := by
  refine ⟨ho.1, ?_⟩
  rcases ho.2 with hn | ⟨g, cap, cur, rfl, hb, hg, rest⟩
  · exact .inl hn
  · exact .inr ⟨g, cap, cur, rfl, hb, x.same g _ hg (fun cs fz e' => he (by injection e')), rest⟩
theorem KeepU.index (x : KeepU w w') {t : List UInt8} {B g : Nat} (h : IndexP t B g w) : IndexP t B g w' := by
  obtain ⟨m, la, ns, es, own, A, L, ⟨vn, ve, hV⟩, R, I, hl⟩ := h
  exact ⟨m, la, ns, es, own, A, L, ⟨vn, ve, x.blk hV.box (by decide), hV.base, x.own hV.nodes (by decide), x.own hV.edges (by decide)⟩, R, I, hl⟩
theorem IndexP.below {t : List UInt8} {B g : Nat} (h : IndexP t B g w) (k : Below w.heap.size w w') : IndexP t B g w' := (KeepU.of_below k).index h
end
theorem extract_one (b : ByteArray) (k : Nat) (h : k < b.size) : b.extract k (k + 1) = strB ((b.data.toList.drop k).take 1) := by
  apply ByteArray.ext
  rw [ByteArray.data_extract]
  apply Array.ext'
  simp [strB, Array.toList_extract, List.extract_eq_take_drop]
theorem diffF_copy {a b : List UInt8} {f k : Nat} (hk : k < b.length) (h : 4 ≤ (pick a (b.drop k)).2) : diffF a b (f + 1) k = ⟨(pick a (b.drop k)).1, (pick a (b.drop k)).2, []⟩ :: diffF a b f (k + (pick a (b.drop k)).2) := by
  rw [diffF, if_pos hk, if_pos h]
theorem diffF_ins {a b : List UInt8} {f k : Nat} (hk : k < b.length) (h : ¬ 4 ≤ (pick a (b.drop k)).2) : diffF a b (f + 1) k = ⟨0, 0, (b.drop k).take 1⟩ :: diffF a b f (k + 1) := by
  rw [diffF, if_pos hk, if_neg h]
theorem diffF_end {a b : List UInt8} {k : Nat} (hk : ¬ k < b.length) : ∀ f, diffF a b f k = []
  | 0 => rfl
  | f + 1 => by rw [diffF, if_neg hk]
theorem pick_le (a s : List UInt8) : (pick a s).1 ≤ a.length ∧ (pick a s).2 ≤ s.length := by
  obtain ⟨h1, h2, h3⟩ := bestF_spec a s a.length
  show (bestF a s a.length).1 ≤ _ ∧ (bestF a s a.length).2 ≤ _
  rcases Nat.eq_zero_or_pos (bestF a s a.length).2 with h | h
  · rw [h2 h, h]; omega
  · obtain ⟨k1, k2, _⟩ := h3 h
    have := cpl_le_right (a.drop (bestF a s a.length).1) s
    omega

def longV (gs gi : Nat) : Value := .func (.func 54) #[] #[.pointer (some ⟨gs, 0, none⟩), .pointer (some ⟨gi, 0, none⟩)]
set_option maxRecDepth 100000 in
set_option maxHeartbeats 4000000 in
theorem diff2_in (w : World) {t : List UInt8} {b : ByteArray} {B g gs gi gf : Nat} (hI : IndexP t B g w) (x1 : Blk w gs 9 #[.string b]) (x2 : Blk w gi 45 #[.pointer (some ⟨g, 0, none⟩)]) (x3 : Blk w gf 87 #[longV gs gi])
    (hb : b.size ≤ 65536) (ht : t.length ≤ 65536) :
    Yields' w.heap.size w 56 #[.pointer (some ⟨gs, 0, none⟩), .pointer (some ⟨gf, 0, none⟩)] (diffF t b.data.toList (b.data.toList.length + 1) 0) := by
  intro n l J hn hJ hJm hY W hBW h0
  have HI := Lib.hid hI
  have HX1 := Lib.hid x1
  have HX2 := Lib.hid x2
  have HX3 := Lib.hid x3
  have HJ := Lib.hid hJ
  have HJM := Lib.hid hJm
  have HY := Lib.hid hY
  have hbl : b.data.toList.length = b.size := by simp
  have HBL := Lib.hid hbl
  have hU := KeepU.of_below hBW
  generalize hxs : diffF t b.data.toList (b.data.toList.length + 1) 0 = xs at HY ⊢
  have HXE := Lib.hid hxs
  clear hI x1 x2 x3 hJ hJm hY hbl hxs hBW
  refine callsIn_of_wp Try.func56 rfl trivial ?_ rfl
  simp only [Try.ntmps56, List.size_toArray, List.length_cons, List.length_nil, Nat.reduceAdd, Nat.reduceSub, Array.replicate_succ, Array.replicate_zero, List.push_toArray, List.append_toArray, List.nil_append, List.cons_append]
  gi_wp2
  gi_loopw [4] (fun at_ wr => ∃ (k f h : Nat) (pre : List DOp), at_ = .int .i64 k ∧ k ≤ b.size ∧ b.size - k < f ∧ Hid (xs = pre ++ diffF t b.data.toList f k) ∧ J h pre wr ∧ h ≤ wr.heap.size ∧ KeepU w wr) (fun at_ _ => b.size - (intOf at_).toNat)
  case atStart => exact ⟨0, b.data.toList.length + 1, _, [], rfl, by omega, by have := HBL.out; omega, by show _ = _; rw [HXE.out]; rfl, h0, Nat.le_refl _, hU⟩
  case round =>
    clear h0 hU
    obtain ⟨k, f, h, pre, rfl, hk, hf, HX, hj, hh, hu⟩ := hrel
    have q1 : wr.cell? ⟨gs, 0, none⟩ = some (.string b) := (hu.blk HX1.out (by decide)).cell (j := 0) rfl
    have q3 : wr.cell? ⟨gf, 0, none⟩ = some (longV gs gi) := (hu.blk HX3.out (by decide)).cell (j := 0) rfl
    unfold longV at q3
    by_cases hlt : k < b.size
    · obtain ⟨f, rfl⟩ : ∃ f', f = f' + 1 := ⟨f - 1, by omega⟩
      have hkl : k < b.data.toList.length := by have := HBL.out; omega
      have hxe := extract_one b k hlt
      have hdl : ((b.data.toList.drop k).take 1).length = 1 := by rw [List.length_take, List.length_drop]; omega
      have HDC : Hid (4 ≤ (pick t (b.data.toList.drop k)).2 → diffF t b.data.toList (f + 1) k = ⟨(pick t (b.data.toList.drop k)).1, (pick t (b.data.toList.drop k)).2, []⟩ :: diffF t b.data.toList f (k + (pick t (b.data.toList.drop k)).2)) := diffF_copy hkl
      have HDI : Hid (¬ 4 ≤ (pick t (b.data.toList.drop k)).2 → diffF t b.data.toList (f + 1) k = ⟨0, 0, (b.data.toList.drop k).take 1⟩ :: diffF t b.data.toList f (k + 1)) := diffF_ins hkl
      have hdl0 := hdl
      obtain ⟨pk1, pk2⟩ := pick_le t (b.data.toList.drop k)
      rw [List.length_drop, HBL.out] at pk2
      -- the worlds
      have hal := (Below.refl wr.heap.size wr).alloc (Nat.le_refl _) (.cells #[.int .i64 0, .int .i64 0, .string (strB ((b.data.toList.drop k).take 1))] 28)
      have hbx := Blk.new wr #[.int .i64 0, .int .i64 0, .string (strB ((b.data.toList.drop k).take 1))] 28
      have hu2 := hu.below hal
      have CL := Lib.hid (longest_any (wr.alloc (.cells #[.int .i64 0, .int .i64 0, .string (strB ((b.data.toList.drop k).take 1))] 28)) (hu2.index HI.out) ((hu2.blk HX1.out (by decide)).cell (j := 0) rfl) ((hu2.blk HX2.out (by decide)).cell (j := 0) rfl) hlt hb ht)
      have hsz : wr.heap.size < (wr.alloc (.cells #[.int .i64 0, .int .i64 0, .string (strB ((b.data.toList.drop k).take 1))] 28)).heap.size := hbx.lt
      have HXX := Lib.hid hxe
      have HDL := Lib.hid hdl
      obtain ⟨gx, hgx⟩ : ∃ gx, gx = wr.heap.size := ⟨_, rfl⟩
      have hk0 : (0 : Int) ≤ (k : Int) := by omega
      have hk1 : (k : Int) < (b.size : Int) := by omega
      have hz1 : IntKind.i64.wrap ((k : Int) + 1) = (k : Int) + 1 := i64w (by omega) (by omega)
      have hxe' := hxe
      clear hdl
      gi_upto_region 3 with (fail)
      have hj2 := HJ.out _ _ _ _ hal hj
      have q3' : (wr.alloc (.cells #[.int .i64 0, .int .i64 0, .string (strB ((b.data.toList.drop k).take 1))] 28)).cell? ⟨gf, 0, none⟩ = some (longV gs gi) := (hu2.blk HX3.out (by decide)).cell (j := 0) rfl
      unfold longV at q3'
      have HD := Lib.hid hdl0
      clear hxe hxe' hj2 hu2 hdl0
      rw [← hgx] at hbx hsz ⊢
      generalize (wr.alloc (.cells #[.int .i64 0, .int .i64 0, .string (strB ((b.data.toList.drop k).take 1))] 28)) = w2 at *
      have hg1 : wr.heap.size ≤ gx := by omega
      have hg2 : gx ≤ wr.heap.size := by omega
      clear hgx
      gi_wp2_with fail
      refine ⟨trivial, ?_⟩
      refine (callsIn_wide.2 CL.out).mono ?_
      rintro e w3 ⟨off, rfl, hoff, hd⟩
      have hb3 : Below wr.heap.size wr w3 := hal.trans (hd.below _)
      have hbx3 : Blk w3 gx 28 #[.int .i64 0, .int .i64 0, .string (strB ((b.data.toList.drop k).take 1))] := hbx.keep (hd.below _)
      clear hbx hal CL q3' hd hsz
      generalize (pick t (b.data.toList.drop k)).2 = mm at *
      generalize (pick t (b.data.toList.drop k)).1 = oo at *
      by_cases h4 : 4 ≤ mm
      · have HXS := Lib.hid (HX.out.trans (congrArg (pre ++ ·) (HDC.out h4)))
        have e1 := hoff (by omega)
        subst e1
        have hdm : (4 : Int) ≤ (mm : Int) := by omega
        have f0 := hbx3.frozen 0
        have f1 := hbx3.frozen 1
        have f2 := hbx3.frozen 2
        have t0 := hbx3.cell (j := 0) rfl
        have t1 := hbx3.cell (j := 1) rfl
        have t2 := hbx3.cell (j := 2) rfl
        have hbx4 := ((hbx3.set 0 (.int .i64 off)).set 1 (.int .i64 mm)).set 2 (.string ⟨#[]⟩)
        have hb4 := ((hb3.setCell (p := ⟨gx, 0, none⟩) (by simp only; omega) (.int .i64 off)).setCell (p := ⟨gx, 1, none⟩) (by simp only; omega) (.int .i64 mm)).setCell (p := ⟨gx, 2, none⟩) (by simp only; omega) (.string ⟨#[]⟩)
        have HSZ : Hid (szD ⟨(off : Int), (mm : Int), []⟩ = (mm : Int)) := if_pos (by simp only; omega)
        have hmk : k + mm ≤ b.size := by omega
        gi_upto_region 6 with (fail)
        clear f0 f1 f2 t0 t1 t2 hbx3 hb3 hoff HX HDC HDI pk1 pk2
        generalize ((w3.setCell ⟨gx, 0, none⟩ (.int .i64 off)).setCell ⟨gx, 1, none⟩ (.int .i64 mm)).setCell ⟨gx, 2, none⟩ (.string ⟨#[]⟩) = w4 at *
        obtain ⟨fn, tmps, assign, body, hy, hR⟩ := HY.out h pre ⟨off, mm, []⟩ w4 (HJ.out _ _ _ _ hb4 hj) (by have := hb4.size; omega) ⟨_, HXS.out⟩
        have HR := Lib.hid hR
        unfold dV at hy
        simp only at hy
        have r0 : w4.cell? ⟨gx, 0, none⟩ = some (.int .i64 off) := hbx4.cell (j := 0) rfl
        have r1 : w4.cell? ⟨gx, 1, none⟩ = some (.int .i64 mm) := hbx4.cell (j := 1) rfl
        have r2 : w4.cell? ⟨gx, 2, none⟩ = some (.string (strB [])) := hbx4.cell (j := 2) rfl
        have hlx := hbx4.lt
        have hu4 := hu.below hb4
        clear hR hj
        gi_wp2_with fail
        refine HR.out.mono ?_
        rintro e w5 ⟨rfl, hj5, hk5⟩
        have hbx5 : Blk w5 gx 28 #[.int .i64 off, .int .i64 mm, .string (strB [])] := hk5.blk hbx4 (.inr (by omega)) (by decide)
        have hu5 := hu4.keepA hk5
        have s0 : w5.cell? ⟨gx, 0, none⟩ = some (.int .i64 off) := hbx5.cell (j := 0) rfl
        have s1 : w5.cell? ⟨gx, 1, none⟩ = some (.int .i64 mm) := hbx5.cell (j := 1) rfl
        have s2 : w5.cell? ⟨gx, 2, none⟩ = some (.string (strB [])) := hbx5.cell (j := 2) rfl
        have CZ := Lib.hid (size_any ⟨off, mm, []⟩ w5)
        clear hk5 HR hy r0 r1 r2 hbx4 hbx5 hu4 hb4 q1 q3 hu
        have HU := Lib.hid hu5
        have HJ5 := Lib.hid hj5
        clear hu5 hj5
        gi_wp2_with fail
        refine ⟨trivial, ?_⟩
        unfold dV at CZ
        simp only at CZ
        refine (callsIn_wide.2 CZ.out).mono ?_
        rintro e w6 ⟨rfl, hb6⟩
        rw [HSZ.out]
        have HU6 := Lib.hid (HU.out.below hb6)
        have HJ6 := Lib.hid (HJ.out _ _ _ _ hb6 HJ5.out)
        have hs6 := hb6.size
        clear hb6 s0 s1 s2 CZ HU HJ5
        gi_wp2
        go_roundw
        case rel => exact ⟨k + mm, f, w5.heap.size, pre ++ [⟨off, mm, []⟩], by go_num, by omega, by omega, by show _ = _; rw [HXS.out, List.append_assoc]; rfl, HJ6.out, hs6, HU6.out⟩
        case measure => simp [intOf]; omega
      · have HXS := Lib.hid (HX.out.trans (congrArg (pre ++ ·) (HDI.out h4)))
        have hdm : ¬ (4 : Int) ≤ (mm : Int) := by omega
        have hdm2 : (mm : Int) < 4 := by omega
        have hbx4 := hbx3
        have hb4 := hb3
        have HSZ : Hid (szD ⟨0, 0, (b.data.toList.drop k).take 1⟩ = (1 : Int)) := by
          show _ = _
          rw [show szD ⟨0, 0, (b.data.toList.drop k).take 1⟩ = (((b.data.toList.drop k).take 1).length : Int) from if_neg (by simp), HD.out]; rfl
        clear hoff HX HDC HDI pk1 pk2 hbx3 hb3
        generalize w3 = w4 at *
        obtain ⟨fn, tmps, assign, body, hy, hR⟩ := HY.out h pre ⟨0, 0, ((b.data.toList.drop k).take 1)⟩ w4 (HJ.out _ _ _ _ hb4 hj) (by have := hb4.size; omega) ⟨_, HXS.out⟩
        have HR := Lib.hid hR
        unfold dV at hy
        simp only at hy
        have r0 : w4.cell? ⟨gx, 0, none⟩ = some (.int .i64 0) := hbx4.cell (j := 0) rfl
        have r1 : w4.cell? ⟨gx, 1, none⟩ = some (.int .i64 0) := hbx4.cell (j := 1) rfl
        have r2 : w4.cell? ⟨gx, 2, none⟩ = some (.string (strB ((b.data.toList.drop k).take 1))) := hbx4.cell (j := 2) rfl
        have hlx := hbx4.lt
        have hu4 := hu.below hb4
        clear hR hj
        gi_wp2_with fail
        refine HR.out.mono ?_
        rintro e w5 ⟨rfl, hj5, hk5⟩
        have hbx5 : Blk w5 gx 28 #[.int .i64 0, .int .i64 0, .string (strB ((b.data.toList.drop k).take 1))] := hk5.blk hbx4 (.inr (by omega)) (by decide)
        have hu5 := hu4.keepA hk5
        have s0 : w5.cell? ⟨gx, 0, none⟩ = some (.int .i64 0) := hbx5.cell (j := 0) rfl
        have s1 : w5.cell? ⟨gx, 1, none⟩ = some (.int .i64 0) := hbx5.cell (j := 1) rfl
        have s2 : w5.cell? ⟨gx, 2, none⟩ = some (.string (strB ((b.data.toList.drop k).take 1))) := hbx5.cell (j := 2) rfl
        have CZ := Lib.hid (size_any ⟨0, 0, ((b.data.toList.drop k).take 1)⟩ w5)
        clear hk5 HR hy r0 r1 r2 hbx4 hbx5 hu4 hb4 q1 q3 hu
        have HU := Lib.hid hu5
        have HJ5 := Lib.hid hj5
        clear hu5 hj5
        gi_wp2_with fail
        refine ⟨trivial, ?_⟩
        unfold dV at CZ
        simp only at CZ
        refine (callsIn_wide.2 CZ.out).mono ?_
        rintro e w6 ⟨rfl, hb6⟩
        rw [HSZ.out]
        have HU6 := Lib.hid (HU.out.below hb6)
        have HJ6 := Lib.hid (HJ.out _ _ _ _ hb6 HJ5.out)
        have hs6 := hb6.size
        clear hb6 s0 s1 s2 CZ HU HJ5
        gi_wp2
        go_roundw
        case rel => exact ⟨k + 1, f, w5.heap.size, pre ++ [⟨0, 0, ((b.data.toList.drop k).take 1)⟩], by go_num, by omega, by omega, by show _ = _; rw [HXS.out, List.append_assoc]; rfl, HJ6.out, hs6, HU6.out⟩
        case measure => simp [intOf]; omega
    · have HE : Hid (xs = pre) := by
        show _ = _
        rw [HX.out, diffF_end (by have := HBL.out; omega), List.append_nil]
      have HE2 : J wr.heap.size xs wr := by rw [HE.out]; exact HJM.out _ _ _ _ hh hj
      have HE3 := Lib.hid HE2
      clear HE2 HX hj HE
      have hlt' : ¬ (k : Int) < b.size := by omega
      gi_wp2
      go_end0
      exact ⟨⟨_, rfl⟩, HE3.out⟩
end Go.Proofs.Ytiioebpmfjipeaa
