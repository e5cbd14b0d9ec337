/- The walk of the law DiskTorn: it returns true for any disk, byte, string and number. -/
import Derived.Test.YtpihapkclnhklaaDkLawDur
namespace Go.Proofs.Ytpihapkclnhklaa
open Go.RowKit

theorem Try.info_int : (Try.prog.info? 3).map (fun i => (i.zero, i.size, i.bytes)) = some (some (.int .i64 0), 1, 8) := by kernel_rfl
theorem Var.pend {w : World} {g : Nat} {A : Option Addr} {c : Nat} {P : Option Addr} {cp : Nat} {d : Dk} (h : Var w g A c P cp d) : Var (w.setCell ⟨g, 2, none⟩ (.slice none 0 0)) g A c none 0 { d with pend := [] } :=
  ⟨h.blk.set 2 _, by have := h.dk.set3 h.blk 2 (.slice none 0 0); exact ⟨this.sec, Sl.nil _ _ _, this.z0, this.z1, this.f0, this.f1⟩⟩
theorem cut_all {d : Dk} (h : Valid d) (l : Int) (hl : -1 ≤ l) : cutD { d with left := l } (List.replicate d.pend.length d.size) = ⟨d.size, cur { d with left := l }, [], lessZ (-1)⟩ := by
  rw [← cutD_ok (chk_zero.2 (h.left hl))]
  have := cutW_all h.s1 d.pend d.secs d.pend.length (Nat.le_refl _) h.ss h.ws
  simp only [this]
  rfl
theorem cut_none {d : Dk} (h : Valid d) : cutD { d with left := -1 } [] = ⟨d.size, d.secs, [], -1⟩ := by
  rw [← cutD_ok (chk_zero.2 (h.left (by omega)))]
  simp only [cutW_nil]
theorem rd_torn {d : Dk} (h : Valid d) {k : Nat} (hk : k < d.secs.length) (hp : d.pend = []) {s : ByteArray} (hs : (s.size : Int) = d.size) {l : Int} (hl : -1 ≤ l) (pk : Int) :
    rdB (cutD { d with pend := d.pend ++ [((k : Int), s)], left := l } [pk]) k = torn (pick pk d.size) s d.secs[k] := by
  have hv := h.write (i := (k : Int)) (by omega) (by omega) hs hl
  have hc := hv.cut [pk]
  have e : cutD { d with pend := d.pend ++ [((k : Int), s)], left := l } [pk] = ⟨d.size, d.secs.set k (torn (pick pk d.size) s d.secs[k]), [], -1⟩ := by
    rw [← cutD_ok (chk_zero.2 hv), hp]
    simp only [List.nil_append, cutW, Int.toNat_natCast, List.headD_cons]
    rw [List.getD_eq_getElem?_getD, List.getElem?_eq_getElem hk]
    rfl
  rw [rd_cur hc (by rw [e]; simpa using hk)]
  simp only [e, cur, List.foldl_nil]
  exact List.getElem_set_self _

theorem DskP.leftN {w : World} {vs vp : Value} {d : Dk} (h : DskP w vs vp d) : DskP w vs vp { d with left := -1 } := ⟨h.sec, h.pen, h.z0, h.z1, by simp, by simp⟩

/-- What the law of torn sectors knows of its disks. -/
structure TornP (d : Dk) (k : Nat) (s : ByteArray) (pk : Int) (d3 d5 d6 : Dk) (old : ByteArray) : Prop where
  se : syE { d with left := -1 } = 0
  sd : syD { d with left := -1 } = d3
  ca : cutD { d with left := -1 } (List.replicate d.pend.length d.size) = d3
  v3 : Valid d3
  z3 : d3.size = d.size
  l3 : d3.secs.length = d.secs.length
  p3 : d3.pend.length = 0
  we : wrE d3 k s = 0
  wd : wrD d3 k s = d5
  p5 : d5.pend.length = 1
  c6 : cutD d5 [pk] = d6
  v6 : Valid d6
  l6 : d6.secs.length = d.secs.length
  p6 : d6.pend.length = 0
  ol : d3.secs[k]? = some old
  oz : (old.size : Int) = d.size
  rd : rdB d6 k = torn (pick pk d.size) s old
theorem torn_pack {d : Dk} (V : Valid d) {k : Nat} (hk : k < d.secs.length) {s : ByteArray} (hs : (s.size : Int) = d.size) (pk : Int) : ∃ d3 d5 d6 old, TornP d k s pk d3 d5 d6 old := by
  have v1 := V.left (l := -1) (by omega)
  have hsy := sy_valid v1 (by simp)
  have hca := cut_all V (-1) (by omega)
  have hv3 := v1.sync (l := lessZ (-1)) (by decide)
  have hlc : (cur { d with left := -1 }).length = d.secs.length := cur_length _
  have hlf : ¬ lessZ (-1) = 0 := by decide
  have hge : -1 ≤ lessZ (lessZ (-1)) := by decide
  generalize hz : lessZ (-1) = z at *
  generalize hL : cur { d with left := -1 } = L at *
  have hkL : k < L.length := by omega
  have hwo := wr_ok (d := ⟨d.size, L, [], z⟩) (i := (k : Int)) (s := s) (chk_zero.2 hv3) (by simp only; omega) hs hlf
  have hvw := hv3.write (i := (k : Int)) (s := s) (l := lessZ z) (by omega) (by simp only; omega) hs hge
  have hrt := rd_torn hv3 (k := k) hkL rfl (s := s) hs (l := lessZ z) hge pk
  have hl6 := cutD_len hvw [pk]
  refine ⟨⟨d.size, L, [], z⟩, _, _, L[k], hsy.1, hsy.2, hca, hv3, rfl, hlc, rfl, hwo.1, hwo.2, by simp, rfl, hvw.cut [pk], hl6.1.trans hlc, hl6.2.1, List.getElem?_eq_getElem hkL, ?_, hrt⟩
  exact hv3.ss _ (List.getElem_mem hkL)

/-- A list of numbers that the call owns. -/
def OwI (w : World) (base : Nat) (v : Value) (l : Nat) (z : Int) : Prop := w.ownsRow base 3 1 v l (List.replicate l (.int .i64 z))
theorem OwI.ints {w : World} {base : Nat} {v : Value} {l : Nat} {z : Int} (h : OwI w base v l z) (h0 : -9223372036854775808 ≤ z) (h1 : z ≤ 9223372036854775807) : Ints w v (List.replicate l z) := by
  have e : ∀ l, Elems 1 IntR (List.replicate l z) (List.replicate l (.int .i64 z)) := by
    intro l
    induction l with
    | zero => rfl
    | succ l ih => exact ⟨[.int .i64 z], _, rfl, rfl, ⟨rfl, h0, h1⟩, ih⟩
  exact Ow.sl (e := 3) (base := base) ⟨_, by rw [List.length_replicate]; exact h, e l⟩

set_option maxRecDepth 100000 in
set_option maxHeartbeats 8000000 in
theorem law_torn (W : World) (v : Value) (d : Dk) (hd : Dsk W v d) (i : Int) (hi0 : 0 ≤ i) (hi1 : i ≤ 255) (s : ByteArray) (hs : s.size ≤ 9223372036854775807) (pk : Int) (hk0 : -9223372036854775808 ≤ pk) (hk1 : pk ≤ 9223372036854775807) :
    Calls Try.prog 9 #[v, .int .u8 i, .string s, .int .i64 pk] W fun e w' => e = .returned (.bool true) ∧ Below W.heap.size W w' := by
  obtain ⟨i0, ji, jz0, jz1, jz2⟩ := info_parts Try.info_int
  obtain ⟨vs, vp, rfl, hD⟩ := hd
  obtain ⟨A, c, P, cp, rfl, rfl, hc, hcp, hm, hmp⟩ := hD.form
  have hv := Var.new hD
  have hD0 := hD
  have hb := (Below.refl W.heap.size W).alloc (Nat.le_refl _) (.cells #[.int .i64 d.size, .slice A d.secs.length c, .slice P d.pend.length cp, .int .i64 d.left] 26)
  have cg := great_any _ _ _ d hv.dk
  clear hD
  go_enter Try.func9, Try.ntmps9
  go_wp2_with fail
  refine cg.mono ?_
  clear cg
  generalize W.alloc (.cells #[.int .i64 d.size, .slice A d.secs.length c, .slice P d.pend.length cp, .int .i64 d.left] 26) = w1 at *
  rintro e w2 ⟨rfl, hb2⟩
  have hv2 := hv.keep hb2
  have hb3 := hb.trans (hb2.mono hb.size)
  clear hv hb hb2
  cases hgr : greatB d
  · have hgb := greatB_false hgr
    have hp12 := hgb.2.1
    have hpl : d.pend.length ≤ 100000 := by omega
    clear hgr hgb
    obtain ⟨q0, q1, q2, q3, _⟩ := hv2.facts
    have c2 := check_any _ _ _ d hv2.dk
    go_wp2_with fail
    refine c2.mono ?_
    clear c2 q0 q1 q2 q3
    rintro e w3 ⟨rfl, hb4⟩
    have hv3 := hv2.keep hb4
    have hb5 := hb3.trans (hb4.mono hb3.size)
    clear hv2 hb3 hb4
    obtain ⟨q0, q1, q2, q3, f0, f1, f2, f3⟩ := hv3.facts
    by_cases hk : chk d = 0
    · have V := Lib.hid (chk_zero.1 hk)
      rw [hk]
      clear hk
      by_cases hsz : (s.size : Int) = d.size
      · have HSZ := Lib.hid hsz
        have hzb : ((s.size : Int) != d.size) = false := by simp [hsz]
        clear hsz
        have hn1 := V.out.n1
        have hn2 := V.out.n2
        have hz1 := V.out.s1
        have hz2 := V.out.s2
        have hn0 : ((d.secs.length : Int) == 0) = false := by rw [beq_eq_false_iff_ne]; omega
        obtain ⟨i', rfl⟩ := Int.eq_ofNat_of_zero_le hi0
        obtain ⟨k, hk⟩ : ∃ k, k = i' % d.secs.length := ⟨_, rfl⟩
        have hkl : k < d.secs.length := by rw [hk]; exact Nat.mod_lt _ (by omega)
        have hkk : (i' : Int) % (d.secs.length : Int) = (k : Int) := by rw [hk]; simp
        clear hk
        go_upto_region 4 with (fail)
        have hv4 := hv3.left (-1) (by omega) (by omega)
        have hb6 := hb5.setCell (p := ⟨W.heap.size, 3, none⟩) (Nat.le_refl _) (.int .i64 (-1))
        obtain ⟨d3, d5, d6, old, TP0⟩ := torn_pack V.out hkl HSZ.out pk
        have TP := Lib.hid TP0
        have HCN := Lib.hid (cut_none V.out)
        clear TP0
        clear hv3 hb5 q0 q1 q2 q3 f0 f1 f2 f3
        generalize w3.setCell ⟨W.heap.size, 3, none⟩ (.int .i64 (-1)) = w4 at *
        obtain ⟨q0, q1, q2, q3, _⟩ := hv4.facts
        go_upto_region 6 with (fail)
        simp only [hkk]
        clear hkk hi0 hi1 q0 q1 q2 q3
        have ho0 := (Blk.new w4 #[] 3).own (base := W.heap.size) (cap := 0) (sz := 1) (n := 0) hb6.size rfl (by unfold maxLen; omega) (by omega)
        have hv5 := hv4.alloc (.cells #[] 3)
        have hb7 := hb6.alloc hb6.size (.cells #[] 3)
        clear hv4 hb6
        generalize w4.alloc (.cells #[] 3) = w5 at *
        generalize w4.heap.size = g4 at *
        have hall : OwI w5 W.heap.size (.slice (some ⟨g4, 0, none⟩) 0 0) 0 d.size := ho0
        clear ho0
        obtain ⟨q0, q1, q2, q3, _⟩ := hv5.facts
        go_wp2
        clear q0 q1 q2 q3
        go_loopw [10, 51] (fun va t wr => ∃ l : Nat, l ≤ d.pend.length ∧ t = .int .i64 l ∧ OwI wr W.heap.size va l d.size ∧ Var wr W.heap.size A c P cp ({ d with left := -1 } : Dk) ∧ Below W.heap.size W wr) (fun _ t _ => d.pend.length - (intOf t).toNat)
        case atStart => exact ⟨0, by omega, rfl, hall, hv5, hb7⟩
        case round =>
          clear hall hv5 hb7
          obtain ⟨l, hl, rfl, hall, hv, hb⟩ := hrel
          obtain ⟨q0, q1, q2, q3, _⟩ := hv.facts
          by_cases hlt : l < d.pend.length
          · have hown : wr.ownsRow W.heap.size 3 1 u10 l (List.replicate l (.int .i64 d.size)) := hall
            have hB := hb.size
            go_wp2_with (at_builtin; go_must (refine wpList_append_any _ rfl (.tmp 53) (.tmp 56) _ rfl W.heap.size 3 i0 _ 1 8 Try.underlying32 ji jz0 jz1 jz2 rfl (by omega) _ l _ rfl (hown.alloc _) _ 1 1 [.int .i64 d.size] rfl rfl (CellsAt.of_new _ _ _ _) (by simp [Value.oneCell']) (by omega) (by omega) (by simp; omega) ?_))
            intro v2 w2 hown2 hgr hat
            have hv6 := (hv.alloc (.cells #[.int .i64 d.size] 3))
            have hne := own_ne_type (hown.alloc (.cells #[.int .i64 d.size] 3)) hv6.blk (by decide)
            have hb8 := (hb.alloc hB (.cells #[.int .i64 d.size] 3)).grown hgr (by simp; omega) (fun g' h => (hown.lt g' h).1)
            have hv7 : Var w2 W.heap.size A c P cp ({ d with left := -1 } : Dk) := ⟨hv6.blk.grown hgr hne.symm, (hD0.keep (Keeps.of_below hb8)).leftN⟩
            have hall2 : OwI w2 W.heap.size v2 (l + 1) d.size := by unfold OwI; rw [List.replicate_succ']; exact hown2
            clear hown2 hgr hat hown hall hv hb hv6 hne q0 q1 q2 q3
            go_wp2
            go_roundw
            case rel => exact ⟨l + 1, by omega, by go_num, hall2, hv7, hb8⟩
            case measure => simp [intOf]; omega
          · obtain rfl : l = d.pend.length := by omega
            have hia := hall.ints (by omega) (by omega)
            obtain ⟨Aa, ca, rfl, _, _⟩ := hia.form
            clear hall hlt q0 q1 q2 q3
            obtain ⟨q13_0, q13_1, q13_2, q13_3, q13_4, q13_5, q13_6, q13_7⟩ := hv.facts
            go_wp2_with fail
            have c12 := sync_any _ _ _ _ hv.dk
            rw [TP.out.se, TP.out.sd] at c12
            refine c12.mono ?_
            clear c12
            clear q13_0 q13_1 q13_2 q13_3 q13_4 q13_5 q13_6 q13_7
            rintro e w12 ⟨vs11, vp11, rfl, hD11, hb12⟩
            have f14 := hv.keep hb12
            have f15 := hia.keep (Keeps.of_below hb12)
            have hB16 := hb.trans (hb12.mono (by first | exact hb.size | (have := hb.size; omega)))
            clear hv hia hb hb12
            obtain ⟨A11, cc11, P11, cp11, rfl, rfl, _, _, _, _⟩ := hD11.form
            have g17le : W.heap.size ≤ w12.heap.size := by first | exact hB16.size | (have := hB16.size; omega)
            have g17lt := f14.blk.lt
            have f18 := f14.alloc (.cells #[.int .i64 d3.size, .slice A11 d3.secs.length cc11, .slice P11 d3.pend.length cp11, .int .i64 d3.left] 26)
            have f19 := f15.keep (Keeps.alloc w12 (.cells #[.int .i64 d3.size, .slice A11 d3.secs.length cc11, .slice P11 d3.pend.length cp11, .int .i64 d3.left] 26))
            have f20 := Var.new hD11
            have hB21 := hB16.alloc (by first | exact hB16.size | (have := hB16.size; omega)) (.cells #[.int .i64 d3.size, .slice A11 d3.secs.length cc11, .slice P11 d3.pend.length cp11, .int .i64 d3.left] 26)
            clear f14 f15 hB16 hD11
            go_upto_region 11 with (fail)
            generalize w12.alloc (.cells #[.int .i64 d3.size, .slice A11 d3.secs.length cc11, .slice P11 d3.pend.length cp11, .int .i64 d3.left] 26) = w17 at *
            generalize w12.heap.size = g17 at *
            have KEY : Hid (∀ w', Below w17.heap.size w17 w' → w'.cell? ⟨W.heap.size, 0, none⟩ = some (.int .i64 d.size) ∧ w'.cell? ⟨W.heap.size, 1, none⟩ = some (.slice A d.secs.length c) ∧ w'.cell? ⟨W.heap.size, 2, none⟩ = some (.slice P d.pend.length cp) ∧ w'.cell? ⟨W.heap.size, 3, none⟩ = some (.int .i64 (-1)) ∧ w'.cell? ⟨g17, 0, none⟩ = some (.int .i64 d3.size) ∧ w'.cell? ⟨g17, 1, none⟩ = some (.slice A11 d3.secs.length cc11) ∧ w'.cell? ⟨g17, 2, none⟩ = some (.slice P11 d3.pend.length cp11) ∧ w'.cell? ⟨g17, 3, none⟩ = some (.int .i64 d3.left)) := fun w' h => by
              obtain ⟨z0, z1, z2, z3, _⟩ := (f18.keep h).facts
              obtain ⟨y0, y1, y2, y3, _⟩ := (f20.keep h).facts
              exact ⟨z0, z1, z2, z3, y0, y1, y2, y3⟩
            have C1 : Hid (∀ w', Below w17.heap.size w17 w' → Calls Try.prog 16 #[.agg #[.int .i64 d.size, .slice A d.secs.length c, .slice P d.pend.length cp, .int .i64 (-1)], .slice Aa d.pend.length ca] w' (CutPost w' d3)) := fun w' h => by
              have := cut_any w' _ _ _ _ (f18.keep h).dk hpl _ (f19.keep (Keeps.of_below h))
              rw [TP.out.ca] at this
              simpa using this
            have HY := Lib.hid (fun (w' : World) (h : Below w17.heap.size w17 w') => (f20.keep h).dk)
            have k0 : Below w17.heap.size w17 w17 := Below.refl _ _
            have k1 : Below w17.heap.size w17 w17.drew := below_drew1 (Below.refl _ _)
            go_wp2
            go_region_held3 (fun w' => w'.cell? ⟨W.heap.size, 0, none⟩ = some (.int .i64 d.size) ∧ w'.cell? ⟨W.heap.size, 1, none⟩ = some (.slice A d.secs.length c) ∧ w'.cell? ⟨W.heap.size, 2, none⟩ = some (.slice P d.pend.length cp) ∧ w'.cell? ⟨W.heap.size, 3, none⟩ = some (.int .i64 (-1)) ∧ w'.cell? ⟨g17, 0, none⟩ = some (.int .i64 d3.size) ∧ w'.cell? ⟨g17, 1, none⟩ = some (.slice A11 d3.secs.length cc11) ∧ w'.cell? ⟨g17, 2, none⟩ = some (.slice P11 d3.pend.length cp11) ∧ w'.cell? ⟨g17, 3, none⟩ = some (.int .i64 d3.left)) (first | exact KEY.out _ (by assumption) | go_keep)
              (first
                | (go_at_call 16; refine (C1.out _ (by assumption)).mono ?_; rintro e x1 ⟨vs1, vp1, rfl, hD1, y1⟩; obtain ⟨A9, c9, P9, cp9, rfl, rfl, _, _, _, _⟩ := hD1.form; have z1 := below_chain (a := w17) (by assumption) y1)
                | (go_at_call 14; refine (same_any _ _ _ _ _ d3 (by first | assumption | exact DskP.keep (by assumption) (Keeps.of_below (by assumption))) (HY.out _ (by assumption))).mono ?_; rintro e x3 ⟨rfl, y3⟩; have z3 := below_chain (a := w17) (by assumption) y3))
            have h5v := f18.keep z3
            have h5y := f20.keep z3
            have h5b := hB21.trans (z3.mono (by first | exact hB21.size | (have := hB21.size; omega)))
            have hgyl := g17le
            clear f18 f19 f20 hB21 KEY C1 HY k0 k1
            obtain ⟨d4, hd4⟩ : ∃ d4 : Dk, d4 = ⟨d.size, d.secs, [], -1⟩ := ⟨_, rfl⟩
            have hcn := HCN.out
            rw [← hd4] at hcn
            have HCN4 := Lib.hid hcn
            have hz4 : 1 ≤ d4.size ∧ d4.size ≤ 512 := by rw [hd4]; exact ⟨hz1, hz2⟩
            have HZ4 := Lib.hid (show d4.size = d.size by rw [hd4])
            have HD4 := Lib.hid hd4
            clear hcn hd4 HCN
            obtain ⟨q24_0, q24_1, q24_2, q24_3, q24_4, q24_5, q24_6, q24_7⟩ := h5v.facts
            obtain ⟨q25_0, q25_1, q25_2, q25_3, q25_4, q25_5, q25_6, q25_7⟩ := h5y.facts
            go_wp2_with fail
            have c23 := cut_any _ _ _ (.slice none 0 0) _ h5v.dk hpl [] (Sl.nil _ _ _)
            rw [HCN4.out] at c23
            refine c23.mono ?_
            clear c23
            clear q24_0 q24_1 q24_2 q24_3 q24_4 q24_5 q24_6 q24_7 q25_0 q25_1 q25_2 q25_3 q25_4 q25_5 q25_6 q25_7
            rintro e w23 ⟨vs22, vp22, rfl, hD22, hb23⟩
            have f26 := h5v.keep hb23
            have f27 := h5y.keep hb23
            have hB28 := h5b.trans (hb23.mono (by first | exact h5b.size | (have := h5b.size; omega)))
            clear h5v h5y h5b hb23
            obtain ⟨A22, cc22, P22, cp22, rfl, rfl, _, _, _, _⟩ := hD22.form
            have g29le : W.heap.size ≤ w23.heap.size := by first | exact hB28.size | (have := hB28.size; omega)
            have g29lt := f26.blk.lt
            have f30 := f26.alloc (.cells #[.int .i64 d4.size, .slice A22 d4.secs.length cc22, .slice P22 d4.pend.length cp22, .int .i64 d4.left] 26)
            have f31 := f27.alloc (.cells #[.int .i64 d4.size, .slice A22 d4.secs.length cc22, .slice P22 d4.pend.length cp22, .int .i64 d4.left] 26)
            have f32 := Var.new hD22
            have hB33 := hB28.alloc (by first | exact hB28.size | (have := hB28.size; omega)) (.cells #[.int .i64 d4.size, .slice A22 d4.secs.length cc22, .slice P22 d4.pend.length cp22, .int .i64 d4.left] 26)
            clear f26 f27 hB28 hD22
            go_upto_region 14 with (fail)
            generalize w23.alloc (.cells #[.int .i64 d4.size, .slice A22 d4.secs.length cc22, .slice P22 d4.pend.length cp22, .int .i64 d4.left] 26) = w29 at *
            generalize w23.heap.size = g29 at *
            obtain ⟨q34_0, q34_1, q34_2, q34_3, q34_4, q34_5, q34_6, q34_7⟩ := f30.facts
            obtain ⟨q35_0, q35_1, q35_2, q35_3, q35_4, q35_5, q35_6, q35_7⟩ := f31.facts
            obtain ⟨q36_0, q36_1, q36_2, q36_3, q36_4, q36_5, q36_6, q36_7⟩ := f32.facts
            go_upto_region 15 with (fail)
            clear q34_0 q34_1 q34_2 q34_3 q34_4 q34_5 q34_6 q34_7 q35_0 q35_1 q35_2 q35_3 q35_4 q35_5 q35_6 q35_7 q36_0 q36_1 q36_2 q36_3 q36_4 q36_5 q36_6 q36_7
            have hneN : g29 ≠ W.heap.size := by omega
            have hneY : g17 ≠ W.heap.size := by omega
            have i1 : Var (w29.setCell ⟨W.heap.size, 2, none⟩ (.slice none 0 0)) W.heap.size A c none 0 d4 := by rw [HD4.out]; exact f30.pend
            have i2 := f31.far3 f30 hneY 2 (.slice none 0 0)
            have i3 := f32.far3 f30 hneN 2 (.slice none 0 0)
            have i4 := hB33.setCell (p := ⟨W.heap.size, 2, none⟩) (Nat.le_refl _) (.slice none 0 0)
            clear f30 f31 f32 hB33
            generalize w29.setCell ⟨W.heap.size, 2, none⟩ (.slice none 0 0) = w6 at *
            have hl4 : d4.secs.length = d.secs.length := by rw [HD4.out]
            have HL4 := Lib.hid hl4
            clear hl4
            obtain ⟨q38_0, q38_1, q38_2, q38_3, q38_4, q38_5, q38_6, q38_7⟩ := i1.facts
            obtain ⟨q39_0, q39_1, q39_2, q39_3, q39_4, q39_5, q39_6, q39_7⟩ := i2.facts
            obtain ⟨q40_0, q40_1, q40_2, q40_3, q40_4, q40_5, q40_6, q40_7⟩ := i3.facts
            go_wp2_with fail
            have c37 := same_any _ _ _ _ _ d4 i3.dk i1.dk
            refine c37.mono ?_
            clear c37
            clear q38_0 q38_1 q38_2 q38_3 q38_4 q38_5 q38_6 q38_7 q39_0 q39_1 q39_2 q39_3 q39_4 q39_5 q39_6 q39_7 q40_0 q40_1 q40_2 q40_3 q40_4 q40_5 q40_6 q40_7
            rintro e w37 ⟨rfl, hb37⟩
            have f41 := i1.keep hb37
            have f42 := i2.keep hb37
            have f43 := i3.keep hb37
            have hB44 := i4.trans (hb37.mono (by first | exact i4.size | (have := i4.size; omega)))
            clear i1 i2 i3 i4 hb37
            have hp3 : d3.pend.length ≤ 100000 := by have := TP.out.p3; omega
            have hp5 : d5.pend.length ≤ 100000 := by have := TP.out.p5; omega
            have hp6 : d6.pend.length ≤ 100000 := by have := TP.out.p6; omega
            have hkl3 : k < d3.secs.length := by have := TP.out.l3; omega
            have hkl6 : k < d6.secs.length := by have := TP.out.l6; omega
            obtain ⟨q47_0, q47_1, q47_2, q47_3, q47_4, q47_5, q47_6, q47_7⟩ := f41.facts
            obtain ⟨q48_0, q48_1, q48_2, q48_3, q48_4, q48_5, q48_6, q48_7⟩ := f42.facts
            obtain ⟨q49_0, q49_1, q49_2, q49_3, q49_4, q49_5, q49_6, q49_7⟩ := f43.facts
            go_wp2_with fail
            have c46 := write_any _ _ _ d3 f42.dk hp3 k (by omega) (by omega) s
            rw [TP.out.we, TP.out.wd] at c46
            refine c46.mono ?_
            clear c46
            clear q47_0 q47_1 q47_2 q47_3 q47_4 q47_5 q47_6 q47_7 q48_0 q48_1 q48_2 q48_3 q48_4 q48_5 q48_6 q48_7 q49_0 q49_1 q49_2 q49_3 q49_4 q49_5 q49_6 q49_7
            rintro e w46 ⟨vs45, vp45, rfl, hD45, hb46⟩
            have f50 := f41.keep hb46
            have f51 := f42.keep hb46
            have f52 := f43.keep hb46
            have hB53 := hB44.trans (hb46.mono (by first | exact hB44.size | (have := hB44.size; omega)))
            clear f41 f42 f43 hB44 hb46
            obtain ⟨A45, cc45, P45, cp45, rfl, rfl, _, _, _, _⟩ := hD45.form
            have g54le : W.heap.size ≤ w46.heap.size := by first | exact hB53.size | (have := hB53.size; omega)
            have g54lt := f50.blk.lt
            have f55 := f50.alloc (.cells #[.int .i64 d5.size, .slice A45 d5.secs.length cc45, .slice P45 d5.pend.length cp45, .int .i64 d5.left] 26)
            have f56 := f51.alloc (.cells #[.int .i64 d5.size, .slice A45 d5.secs.length cc45, .slice P45 d5.pend.length cp45, .int .i64 d5.left] 26)
            have f57 := f52.alloc (.cells #[.int .i64 d5.size, .slice A45 d5.secs.length cc45, .slice P45 d5.pend.length cp45, .int .i64 d5.left] 26)
            have f58 := Var.new hD45
            have hB59 := hB53.alloc (by first | exact hB53.size | (have := hB53.size; omega)) (.cells #[.int .i64 d5.size, .slice A45 d5.secs.length cc45, .slice P45 d5.pend.length cp45, .int .i64 d5.left] 26)
            clear f50 f51 f52 hB53 hD45
            go_upto_region 18 with (fail)
            generalize w46.alloc (.cells #[.int .i64 d5.size, .slice A45 d5.secs.length cc45, .slice P45 d5.pend.length cp45, .int .i64 d5.left] 26) = w54 at *
            generalize w46.heap.size = g54 at *
            obtain ⟨q60_0, q60_1, q60_2, q60_3, q60_4, q60_5, q60_6, q60_7⟩ := f55.facts
            obtain ⟨q61_0, q61_1, q61_2, q61_3, q61_4, q61_5, q61_6, q61_7⟩ := f56.facts
            obtain ⟨q62_0, q62_1, q62_2, q62_3, q62_4, q62_5, q62_6, q62_7⟩ := f57.facts
            obtain ⟨q63_0, q63_1, q63_2, q63_3, q63_4, q63_5, q63_6, q63_7⟩ := f58.facts
            go_wp2_with fail
            clear q60_0 q60_1 q60_2 q60_3 q60_4 q60_5 q60_6 q60_7 q61_0 q61_1 q61_2 q61_3 q61_4 q61_5 q61_6 q61_7 q62_0 q62_1 q62_2 q62_3 q62_4 q62_5 q62_6 q62_7 q63_0 q63_1 q63_2 q63_3 q63_4 q63_5 q63_6 q63_7
            have hi7 := ints_one w54 pk hk0 hk1
            have f64 := f55.alloc (.cells #[.int .i64 pk] 3)
            have f65 := f56.alloc (.cells #[.int .i64 pk] 3)
            have f66 := f57.alloc (.cells #[.int .i64 pk] 3)
            have f67 := f58.alloc (.cells #[.int .i64 pk] 3)
            have hB7 := hB59.alloc (by first | exact hB59.size | (have := hB59.size; omega)) (.cells #[.int .i64 pk] 3)
            clear f55 f56 f57 f58 hB59
            have cc := cut_any _ _ _ _ d5 f67.dk hp5 [pk] hi7
            rw [TP.out.c6] at cc
            refine cc.mono ?_
            clear cc hi7
            rintro e w8 ⟨vs8, vp8, rfl, hD8, hb8⟩
            have f68 := f64.keep hb8
            have f69 := f65.keep hb8
            have f70 := f66.keep hb8
            have f71 := f67.keep hb8
            have hB72 := hB7.trans (hb8.mono (by first | exact hB7.size | (have := hB7.size; omega)))
            clear f64 f65 f66 f67 hB7 hb8
            obtain ⟨A8, c8, P8, cp8, rfl, rfl, _, _, _, _⟩ := hD8.form
            go_wp2_with fail
            have cr := read_in _ _ _ _ hD8 k (chk_zero.2 TP.out.v6) hkl6 hp6
            rw [TP.out.rd] at cr
            refine cr.mono ?_
            clear cr hD8
            rintro e w9 ⟨rfl, hb9⟩
            have f73 := f68.keep hb9
            have f74 := f69.keep hb9
            have f75 := f70.keep hb9
            have f76 := f71.keep hb9
            have hB77 := hB72.trans (hb9.mono (by first | exact hB72.size | (have := hB72.size; omega)))
            clear f68 f69 f70 f71 hB72 hb9
            have hqle := pick_le pk d.size hz1
            have hoz := TP.out.oz
            have hsz2 := HSZ.out
            have hts : (torn (pick pk d.size) s old).size = old.size := torn_size (by omega) (by omega)
            have HTS := Lib.hid hts
            have hq4 : (pick pk d.size : Int) ≤ d4.size := by rw [HZ4.out]; exact hqle
            have hs4 : (s.size : Int) = d4.size := by rw [HZ4.out]; exact hsz2
            have ho4 : (old.size : Int) = d4.size := by rw [HZ4.out]; exact hoz
            clear hoz hsz2 hts hqle
            generalize pick pk d.size = qn at *
            generalize htn : torn qn s old = tn at *
            have HTN := Lib.hid htn
            have bt1 : ((tn.size : Int) != d4.size) = false := by rw [HTS.out, ho4]; simp
            have bo1 : ((old.size : Int) != d4.size) = false := by rw [ho4]; simp
            have bs1 : qn ≤ s.size := by omega
            have bs2 : qn ≤ old.size := by omega
            have hs5 : s.size ≤ 512 := by have := hz4.2; omega
            have ho5 : old.size ≤ 512 := by have := hz4.2; omega
            clear htn hs4 ho4
            obtain ⟨b, off, rfl, a1⟩ := f74.dk.sec.get hkl3
            have hold : d3.secs[k] = old := by have := TP.out.ol; rw [List.getElem?_eq_getElem hkl3] at this; exact Option.some.inj this
            rw [hold] at a1
            clear hold f75 f76
            obtain ⟨hz41, hz42⟩ := hz4
            obtain ⟨q78_0, q78_1, q78_2, q78_3, q78_4, q78_5, q78_6, q78_7⟩ := f73.facts
            obtain ⟨q79_0, q79_1, q79_2, q79_3, q79_4, q79_5, q79_6, q79_7⟩ := f74.facts
            go_wp2
            go_quiet (fail)
            rename Nat => nq
            have e1 := f73.drewN nq
            have e2 := f74.drewN nq
            have e3 := below_drewN' hB77 nq
            have e4 : (w9.drewN nq).cell? ⟨b, off + k, none⟩ = some (.string old) := a1
            clear q78_0 q78_1 q78_2 q78_3 q78_4 q78_5 q78_6 q78_7 q79_0 q79_1 q79_2 q79_3 q79_4 q79_5 q79_6 q79_7
            clear f73 f74 hB77 a1
            generalize w9.drewN nq = wa at *
            obtain ⟨q0, q1, q2, q3, _⟩ := e1.facts
            go_wp2
            clear q0 q1 q2 q3
            go_loopw [131] (fun t wr => ∃ n : Nat, n ≤ qn ∧ t = .int .i64 n ∧ Var wr g17 (some ⟨b, off, none⟩) cc11 P11 cp11 d3 ∧ wr.cell? ⟨b, off + k, none⟩ = some (.string old) ∧ Below W.heap.size W wr) (fun t _ => qn + 1 - (intOf t).toNat)
            case atStart => exact ⟨0, by omega, rfl, e2, e4, e3⟩
            case round =>
              clear e1 e2 e3 e4
              obtain ⟨n, hnq, rfl, hy, a1, hb⟩ := hrel
              obtain ⟨q0, q1, q2, q3, _⟩ := hy.facts
              have hn1 : (n : Int) < d4.size + 1 := by omega
              have hn2 : n ≤ s.size := by omega
              have hn3 : n ≤ old.size := by omega
              by_cases heq : tn = torn n s old
              · have hbq : (tn.toList == (s.extract 0 n ++ old.extract n old.size).toList) = true := str_eq heq
                clear heq
                go_wp2
                go_quiet (fail)
                rename Nat => nq
                have hb2 := below_drewN' hb nq
                have aw := awake_any (wr.drewN nq)
                go_wp2_with fail
                refine aw.mono ?_
                clear aw
                rintro e w12 ⟨rfl, hb12⟩
                have hb13 := hb2.trans (hb12.mono hb2.size)
                go_wp2
                go_ret
                exact ⟨rfl, hb13⟩
              · have hbq : (tn.toList == (s.extract 0 n ++ old.extract n old.size).toList) = false := str_ne heq
                have hnn : n ≠ qn := fun e => heq (by rw [e]; exact HTN.out.symm)
                have hnlt : n < qn := by omega
                clear heq hnn
                go_wp2
                go_quiet (fail)
                go_wp2
                go_roundw
                case rel => exact ⟨n + 1, by omega, by go_num, hy.drewN _, a1, below_drewN' hb _⟩
                case measure => simp [intOf]; omega
      · have hzb : ((s.size : Int) != d.size) = true := by simp [hsz]
        clear hsz
        have aw := awake_any w3
        go_wp2_with fail
        refine aw.mono ?_
        clear aw
        rintro e w9 ⟨rfl, hb9⟩
        have hb10 := hb5.trans (hb9.mono hb5.size)
        go_wp2
        go_ret
        exact ⟨rfl, hb10⟩
    · have hb : (chk d != 0) = true := by simp [hk]
      clear hk
      generalize chk d = full at *
      have aw := awake_any w3
      go_wp2_with fail
      refine aw.mono ?_
      clear aw
      rintro e w9 ⟨rfl, hb9⟩
      have hb10 := hb5.trans (hb9.mono hb5.size)
      go_wp2
      go_ret
      exact ⟨rfl, hb10⟩
  · have hb5 := hb3
    have aw := awake_any w2
    go_wp2_with fail
    refine aw.mono ?_
    clear aw
    rintro e w9 ⟨rfl, hb9⟩
    have hb10 := hb5.trans (hb9.mono hb5.size)
    go_wp2
    go_ret
    exact ⟨rfl, hb10⟩
end Go.Proofs.Ytpihapkclnhklaa
