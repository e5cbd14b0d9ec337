/- delta: part; composition's boxes. -/
import Derived.Test.YtiioebpmfjipeaaCompP
import Derived.Test.YtiioebpmfjipeaaDeRPart
import Derived.Test.YtiioebpmfjipeaaDeDec
namespace Go.Proofs.Ytiioebpmfjipeaa
set_option linter.unusedVariables false
set_option linter.unusedSimpArgs false
open Go.RowKit

set_option maxRecDepth 100000 in
set_option maxHeartbeats 2000000 in
theorem cut_any (x : DOp) {N : Int} (hv : Val N x) (hN : N ≤ 65536) (hz : szD x ≤ 65536) (lo hi : Nat) (h1 : lo < hi) (h2 : (hi : Int) ≤ szD x) (w : World) :
    Calls Try.prog 68 #[dV x, .int .i64 lo, .int .i64 hi] w fun e w' => e = .returned (dV (cutX x lo hi)) ∧ Below w.heap.size w w' := by
  by_cases hl : 0 < x.len
  · have hc : x.cp := hv.1.resolve_right fun hi => by have := hi.1; omega
    have hv2 := hv.2 hc
    have hsz : szD x = x.len := if_pos hl
    have hcb : cpB x = true := decide_eq_true hc
    have HR : Hid (cutX x lo hi = ⟨x.off + lo, (hi : Int) - lo, []⟩) := if_pos hl
    have CX := Lib.hid (fun w' => isCopy_any x w')
    rw [hcb] at CX
    obtain ⟨o, l, d⟩ := x
    simp only at hv2 hsz hl HR
    have w1 : IntKind.i64.wrap (o + (lo : Int)) = o + (lo : Int) := i64w (by omega) (by omega)
    have w2 : IntKind.i64.wrap ((hi : Int) - (lo : Int)) = (hi : Int) - (lo : Int) := i64w (by omega) (by omega)
    unfold dV at CX
    have p1 := (Blk.new w #[.int .i64 o, .int .i64 l, .string (strB d)] 28).alloc (.cells #[.int .i64 0, .int .i64 0, .string ⟨#[]⟩] 28)
    have p2 := Blk.new (w.alloc (.cells #[.int .i64 o, .int .i64 l, .string (strB d)] 28)) #[.int .i64 0, .int .i64 0, .string ⟨#[]⟩] 28
    rw [show (w.alloc (.cells #[.int .i64 o, .int .i64 l, .string (strB d)] 28)).heap.size = w.heap.size + 1 by simp] at p2
    have hk2 := ((Below.refl w.heap.size w).alloc (Nat.le_refl _) (.cells #[.int .i64 o, .int .i64 l, .string (strB d)] 28)).alloc (by simp) (.cells #[.int .i64 0, .int .i64 0, .string ⟨#[]⟩] 28)
    clear hcb hc hv hz
    unfold dV
    rw [HR.out]
    simp only
    go_enter Try.func68, Try.ntmps68
    go_upto_region 1 with (fail)
    generalize (w.alloc (.cells #[.int .i64 o, .int .i64 l, .string (strB d)] 28)).alloc (.cells #[.int .i64 0, .int .i64 0, .string ⟨#[]⟩] 28) = w2 at *
    have q0 := p1.cell (j := 0) rfl
    have q1 := p1.cell (j := 1) rfl
    have q2 := p1.cell (j := 2) rfl
    go_wp2_with fail
    refine (CX.out _).mono ?_
    rintro e w3 ⟨rfl, hb3⟩
    have s1 := p1.keep hb3
    have s2 := p2.keep hb3
    have hk3 := hk2.trans (hb3.mono hk2.size)
    clear q0 q1 q2 p1 p2 hk2 hb3 CX
    have q0 := s1.cell (j := 0) rfl
    have q1 := s1.cell (j := 1) rfl
    have q2 := s1.cell (j := 2) rfl
    have f0 := s2.frozen 0
    have f1 := s2.frozen 1
    have f2 := s2.frozen 2
    have t0 := s2.cell (j := 0) rfl
    have t1 := s2.cell (j := 1) rfl
    have t2 := s2.cell (j := 2) rfl
    have s3 := ((s2.set 0 (.int .i64 (o + (lo : Int)))).set 1 (.int .i64 ((hi : Int) - (lo : Int)))).set 2 (.string ⟨#[]⟩)
    have hk4 := ((hk3.setCell (p := ⟨w.heap.size + 1, 0, none⟩) (by simp only; omega) (.int .i64 (o + (lo : Int)))).setCell (p := ⟨w.heap.size + 1, 1, none⟩) (by simp only; omega) (.int .i64 ((hi : Int) - (lo : Int)))).setCell (p := ⟨w.heap.size + 1, 2, none⟩) (by simp only; omega) (.string ⟨#[]⟩)
    go_wp2
    clear f0 f1 f2 t0 t1 t2 q0 q1 q2 s1 s2 hk3
    have k0 := s3.cell (j := 0) rfl
    have k1 := s3.cell (j := 1) rfl
    have k2 := s3.cell (j := 2) rfl
    exact bodyPost_ret (v := .agg #[.int .i64 (o + (lo : Int)), .int .i64 ((hi : Int) - (lo : Int)), .string ⟨#[]⟩]) (by simp [results, Try.results68, go_sem, k0, k1, k2]) rfl ⟨rfl, hk4⟩
  · have hi2 : x.ins := hv.1.resolve_left fun hc => hl hc.1
    have hsz : szD x = x.data.length := if_neg hl
    have hc : ¬ x.cp := fun hc => hl hc.1
    have hcb : cpB x = false := decide_eq_false hc
    have HR : Hid (cutX x lo hi = ⟨0, 0, (x.data.drop lo).take (hi - lo)⟩) := by
      show _ = _
      unfold cutX
      rw [if_neg hl]
      simp only [DOp.mk.injEq, true_and, Int.toNat_natCast]
      congr 1
      omega
    have CX := Lib.hid (fun w' => isCopy_any x w')
    rw [hcb] at CX
    obtain ⟨o, l, d⟩ := x
    simp only at hsz hl HR
    have hex := extract_str d (p := lo) (q := hi) (by omega)
    have hss : hi ≤ (strB d).size := by rw [strB_size]; omega
    have hlh : lo ≤ hi := by omega
    unfold dV at CX
    have p1 := (Blk.new w #[.int .i64 o, .int .i64 l, .string (strB d)] 28).alloc (.cells #[.int .i64 0, .int .i64 0, .string ⟨#[]⟩] 28)
    have p2 := Blk.new (w.alloc (.cells #[.int .i64 o, .int .i64 l, .string (strB d)] 28)) #[.int .i64 0, .int .i64 0, .string ⟨#[]⟩] 28
    rw [show (w.alloc (.cells #[.int .i64 o, .int .i64 l, .string (strB d)] 28)).heap.size = w.heap.size + 1 by simp] at p2
    have hk2 := ((Below.refl w.heap.size w).alloc (Nat.le_refl _) (.cells #[.int .i64 o, .int .i64 l, .string (strB d)] 28)).alloc (by simp) (.cells #[.int .i64 0, .int .i64 0, .string ⟨#[]⟩] 28)
    clear hcb hc hv hz hi2
    unfold dV
    rw [HR.out]
    simp only
    go_enter Try.func68, Try.ntmps68
    go_upto_region 1 with (fail)
    generalize (w.alloc (.cells #[.int .i64 o, .int .i64 l, .string (strB d)] 28)).alloc (.cells #[.int .i64 0, .int .i64 0, .string ⟨#[]⟩] 28) = w2 at *
    have q0 := p1.cell (j := 0) rfl
    have q1 := p1.cell (j := 1) rfl
    have q2 := p1.cell (j := 2) rfl
    go_wp2_with fail
    refine (CX.out _).mono ?_
    rintro e w3 ⟨rfl, hb3⟩
    have s1 := p1.keep hb3
    have s2 := p2.keep hb3
    have hk3 := hk2.trans (hb3.mono hk2.size)
    clear q0 q1 q2 p1 p2 hk2 hb3 CX
    have q0 := s1.cell (j := 0) rfl
    have q1 := s1.cell (j := 1) rfl
    have q2 := s1.cell (j := 2) rfl
    have f0 := s2.frozen 0
    have f1 := s2.frozen 1
    have f2 := s2.frozen 2
    have t0 := s2.cell (j := 0) rfl
    have t1 := s2.cell (j := 1) rfl
    have t2 := s2.cell (j := 2) rfl
    have s3 := ((s2.set 0 (.int .i64 0)).set 1 (.int .i64 0)).set 2 (.string (strB ((d.drop lo).take (hi - lo))))
    have hk4 := ((hk3.setCell (p := ⟨w.heap.size + 1, 0, none⟩) (by simp only; omega) (.int .i64 0)).setCell (p := ⟨w.heap.size + 1, 1, none⟩) (by simp only; omega) (.int .i64 0)).setCell (p := ⟨w.heap.size + 1, 2, none⟩) (by simp only; omega) (.string (strB ((d.drop lo).take (hi - lo))))
    go_wp2
    clear f0 f1 f2 t0 t1 t2 q0 q1 q2 s1 s2 hk3
    have k0 := s3.cell (j := 0) rfl
    have k1 := s3.cell (j := 1) rfl
    have k2 := s3.cell (j := 2) rfl
    exact bodyPost_ret (v := .agg #[.int .i64 0, .int .i64 0, .string (strB ((d.drop lo).take (hi - lo)))]) (by simp [results, Try.results68, go_sem, k0, k1, k2]) rfl ⟨rfl, hk4⟩

/-- The ends of the elements, as far as they are known. -/
def esK (xs : List DOp) (k : Nat) : List Int := (List.range xs.length).map fun j => if j < k then sumD (xs.take (j + 1)) else 0
theorem esK_zero (xs : List DOp) : esK xs 0 = List.replicate xs.length 0 := by
  apply List.ext_getElem
  · simp [esK]
  · intro i h1 h2; simp [esK]
theorem esK_set (xs : List DOp) {k : Nat} (hk : k < xs.length) : (esK xs k).set k (sumD (xs.take (k + 1))) = esK xs (k + 1) := by
  apply List.ext_getElem
  · simp [esK]
  · intro i h1 h2
    simp only [esK, List.getElem_set, List.getElem_map, List.getElem_range]
    by_cases e : k = i
    · subst e; simp
    · rw [if_neg e]
      by_cases h : i < k
      · rw [if_pos h, if_pos (by omega)]
      · rw [if_neg h, if_neg (by omega)]
theorem esK_len (xs : List DOp) (k : Nat) : (esK xs k).length = xs.length := by simp [esK]
theorem esK_all (xs : List DOp) {j : Nat} (h : j < xs.length) : (esK xs xs.length)[j]? = some (sumD (xs.take (j + 1))) := by
  simp [esK, h]
def esA (es : List Int) : Array Value := (es.map (Value.int .i64)).toArray
theorem esA_set (es : List Int) (k : Nat) (v : Int) : (esA es).setIfInBounds k (.int .i64 v) = esA (es.set k v) := by
  unfold esA
  rw [List.map_set]
  simp
/-- What composition leaves in memory: the boxes of first, second and the ends, and the ends' row. -/
structure CmpB (va vb : Value) (n : Nat) (es : List Int) (b1 b2 b5 g : Nat) (w : World) : Prop where
  x1 : Blk w b1 24 #[va]
  x2 : Blk w b2 24 #[vb]
  x5 : Blk w b5 94 #[.slice (some ⟨g, 0, none⟩) n n]
  xg : Blk w g 3 (esA es)
def compV (b2 b5 b1 : Nat) : Value := .func (.func 66) #[] #[.pointer (some ⟨b2, 0, none⟩), .pointer (some ⟨b5, 0, none⟩), .pointer (some ⟨b1, 0, none⟩)]
theorem CmpB.below {va vb : Value} {n : Nat} {es : List Int} {b1 b2 b5 g : Nat} {w w' : World} (h : CmpB va vb n es b1 b2 b5 g w) (k : Below w.heap.size w w') : CmpB va vb n es b1 b2 b5 g w' :=
  ⟨h.x1.keep k, h.x2.keep k, h.x5.keep k, h.xg.keep k⟩
theorem CmpB.put {va vb : Value} {n : Nat} {es : List Int} {b1 b2 b5 g : Nat} {w : World} (h : CmpB va vb n es b1 b2 b5 g w) (k : Nat) (v : Int) (h1 : b1 ≠ g) (h2 : b2 ≠ g) (h5 : b5 ≠ g) : CmpB va vb n (es.set k v) b1 b2 b5 g (w.setCell ⟨g, k, none⟩ (.int .i64 v)) :=
  ⟨h.x1.far (p := ⟨g, k, none⟩) h1 _, h.x2.far (p := ⟨g, k, none⟩) h2 _, h.x5.far (p := ⟨g, k, none⟩) h5 _, by rw [← esA_set]; exact h.xg.set k _⟩
theorem Try.info_int5 : (Try.prog.info? 3).map (fun i => (i.zero, i.size, i.bytes)) = some (some (.int .i64 0), 1, 8) := by kernel_rfl
/-- An answer of composition. -/
def CpnE (va vb : Value) (xs : List DOp) (w0 : World) (e : Ending) (w : World) : Prop :=
  ∃ b1 b2 b5 g, e = .returned (compV b2 b5 b1) ∧ CmpB va vb xs.length (esK xs xs.length) b1 b2 b5 g w ∧ Below w0.heap.size w0 w

set_option maxRecDepth 100000 in
set_option maxHeartbeats 4000000 in
theorem composition_any (w : World) {va : Value} {B : Option Addr} {m d : Nat} {xs : List DOp} (ha : Dls w va xs) (hs : sumD xs ≤ 65536) (hl : xs.length ≤ 65536) :
    Calls Try.prog 51 #[va, .slice B m d] w (CpnE va (.slice B m d) xs w) := by
  obtain ⟨i1, hi1, hy0, hy1, hy2⟩ := info_parts Try.info_int5
  obtain ⟨A, c, rfl, h1, h2⟩ := ha.form
  have HA := Lib.hid ha
  have HP : Hid (∀ k, sumD (xs.take k) ≤ sumD xs) := sumD_prefix xs
  have HZ : Hid ((Array.replicate xs.length (Value.int .i64 0)) = esA (esK xs 0)) := by
    show _ = _
    rw [esK_zero]
    unfold esA
    simp
  have x1 := (Blk.new w #[.slice A xs.length c] 24).alloc (.cells #[.slice B m d] 24)
  have x2 := Blk.new (w.alloc (.cells #[.slice A xs.length c] 24)) #[.slice B m d] 24
  rw [show (w.alloc (.cells #[.slice A xs.length c] 24)).heap.size = w.heap.size + 1 by simp] at x2
  have k2 := ((Below.refl w.heap.size w).alloc (Nat.le_refl _) (.cells #[.slice A xs.length c] 24)).alloc (by simp) (.cells #[.slice B m d] 24)
  have hs2 : ((w.alloc (.cells #[.slice A xs.length c] 24)).alloc (.cells #[.slice B m d] 24)).heap.size = w.heap.size + 2 := by simp
  clear ha
  go_enter Try.func51, Try.ntmps51
  go_upto_region 1 with (fail)
  generalize (w.alloc (.cells #[.slice A xs.length c] 24)).alloc (.cells #[.slice B m d] 24) = w2 at *
  have q1 := x1.cell (j := 0) rfl
  have X1 := Lib.hid x1
  have X2 := Lib.hid x2
  have K2 := Lib.hid k2
  have HS2 := Lib.hid hs2
  clear x1 x2 k2 hs2
  go_upto_region 2 with (at_make; refine wpList_make_blk _ rfl _ _ _ rfl 3 i1 (.int .i64 0) Try.underlying94 hi1 hy0 hy1 rfl .i64 .i64 _ _ xs.length rfl rfl (by omega) (by omega) (by rw [hy2]; omega) (by omega) ?_; intro g w3 hg hblk hb3)
  rw [HZ.out] at hblk
  have hgl := hblk.lt
  have hs3 := hb3.size
  have hgw : w.heap.size + 2 ≤ g := by rw [← HS2.out]; exact hg
  have x5 := Blk.new w3 #[.slice (some ⟨g, 0, none⟩) xs.length xs.length] 94
  have hal := (Below.refl w3.heap.size w3).alloc (Nat.le_refl _) (.cells #[.slice (some ⟨g, 0, none⟩) xs.length xs.length] 94)
  have HC0 : Hid (CmpB (.slice A xs.length c) (.slice B m d) xs.length (esK xs 0) w.heap.size (w.heap.size + 1) w3.heap.size g (w3.alloc (.cells #[.slice (some ⟨g, 0, none⟩) xs.length xs.length] 94))) :=
    ⟨(X1.out.keep hb3).alloc _, (X2.out.keep hb3).alloc _, x5, hblk.alloc _⟩
  have HB0 := Lib.hid ((K2.out.trans (hb3.mono K2.out.size)).trans (hal.mono (by have := K2.out.size; omega)))
  have hgs : g < (w3.alloc (.cells #[.slice (some ⟨g, 0, none⟩) xs.length xs.length] 94)).heap.size := by simp; omega
  have h35 : w3.heap.size ≠ g := by omega
  have q1' : (w3.alloc (.cells #[.slice (some ⟨g, 0, none⟩) xs.length xs.length] 94)).cell? ⟨w.heap.size, 0, none⟩ = some (.slice A xs.length c) := HC0.out.x1.cell (j := 0) rfl
  clear x5 hal hblk hb3 q1 K2 X1 X2 HZ
  generalize w3.alloc (.cells #[.slice (some ⟨g, 0, none⟩) xs.length xs.length] 94) = w4 at *
  generalize w3.heap.size = b5 at *
  go_wp2
  go_loopw [6, 14] (fun si ii wr => ∃ k : Nat, k ≤ xs.length ∧ ii = .int .i64 k ∧ si = .int .i64 (sumD (xs.take k)) ∧ Hid (CmpB (.slice A xs.length c) (.slice B m d) xs.length (esK xs k) w.heap.size (w.heap.size + 1) b5 g wr) ∧ Below w.heap.size w wr) (fun _ ii _ => xs.length - (intOf ii).toNat)
  case atStart => exact ⟨0, by omega, rfl, rfl, HC0.out, HB0.out⟩
  case round =>
    clear HC0 HB0 q1'
    obtain ⟨k, hk, rfl, rfl, HC, hbw⟩ := hrel
    have hsz := hbw.size
    by_cases hlt : k < xs.length
    · obtain ⟨x, hx⟩ : ∃ x, xs[k]? = some x := ⟨_, List.getElem?_eq_getElem hlt⟩
      obtain ⟨b1, o1, rfl, c0, c1, c2⟩ := (HA.out.keep (Keeps.of_below hbw)).get hx
      have HST := Lib.hid (sumD_take hx)
      have hst := sumD_take hx
      have hp := HP.out (k + 1)
      have hp0 := sumD_pos (xs.take k)
      have hz0 := szD_pos x
      rw [hst] at hp
      have hal := (Below.refl wr.heap.size wr).alloc (Nat.le_refl _) (.cells #[.int .i64 x.off, .int .i64 x.len, .string (strB x.data)] 28)
      have hbx := Blk.new wr #[.int .i64 x.off, .int .i64 x.len, .string (strB x.data)] 28
      have HC2 := Lib.hid (HC.out.below hal)
      have HB2 := Lib.hid (hbw.trans (hal.mono hsz))
      have CZ := Lib.hid (fun w' => size_any x w')
      have HES := Lib.hid (esK_set xs hlt)
      rw [hst] at HES
      unfold dV at CZ
      generalize szD x = z at *
      generalize hs0 : sumD (xs.take k) = s0 at *
      clear hs0 hst HC hbw hx
      go_upto_region 6 with (fail)
      clear c0 c1 c2
      generalize wr.alloc (.cells #[.int .i64 x.off, .int .i64 x.len, .string (strB x.data)] 28) = w5 at *
      generalize wr.heap.size = gx at *
      have q0 : w5.cell? ⟨gx, 0, none⟩ = some (.int .i64 x.off) := hbx.cell (j := 0) rfl
      have q1 : w5.cell? ⟨gx, 1, none⟩ = some (.int .i64 x.len) := hbx.cell (j := 1) rfl
      have q2 : w5.cell? ⟨gx, 2, none⟩ = some (.string (strB x.data)) := hbx.cell (j := 2) rfl
      go_wp2_with fail
      refine (CZ.out _).mono ?_
      rintro e w6 ⟨rfl, hb6⟩
      have HC3 := HC2.out.below hb6
      have HB3 := Lib.hid (HB2.out.trans (hb6.mono HB2.out.size))
      have q5 : w6.cell? ⟨b5, 0, none⟩ = some (.slice (some ⟨g, 0, none⟩) xs.length xs.length) := HC3.x5.cell (j := 0) rfl
      have fg := HC3.xg.frozen k
      have tg : ∃ v, w6.cell? ⟨g, k, none⟩ = some v := ⟨_, HC3.xg.cell (j := k) (u := .int .i64 ((esK xs k)[k]'(by rw [esK_len]; exact hlt))) (by simp [esA, esK_len, hlt])⟩
      obtain ⟨vg, tg⟩ := tg
      have HC4 := Lib.hid (HC3.put k (s0 + z) (by omega) (by omega) h35)
      have HB4 := Lib.hid (HB3.out.setCell (p := ⟨g, k, none⟩) (by simp only; omega) (.int .i64 (s0 + z)))
      clear q0 q1 q2 hbx hal hb6 HC3 HC2 HB2 HB3 CZ
      go_wp2
      go_roundw
      case rel => exact ⟨k + 1, by omega, by go_num, by rw [HST.out], by rw [← HES.out]; exact HC4.out, HB4.out⟩
      case measure => simp [intOf]; omega
    · have hkn : k = xs.length := by omega
      subst hkn
      have HE : CpnE (.slice A xs.length c) (.slice B m d) xs w (.returned (compV (w.heap.size + 1) b5 w.heap.size)) wr := ⟨_, _, _, _, rfl, HC.out, hbw⟩
      have HE' := Lib.hid HE
      unfold compV at HE'
      clear HE hbw HC
      go_wp2
      go_ret
      exact HE'.out
end Go.Proofs.Ytiioebpmfjipeaa
