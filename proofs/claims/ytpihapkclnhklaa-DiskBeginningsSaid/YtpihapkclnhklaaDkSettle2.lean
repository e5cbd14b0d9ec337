/- disk.settled with the closure of Cut. -/
import Derived.Test.YtpihapkclnhklaaDkSettle
import Derived.Test.YtpihapkclnhklaaDkCut1
namespace Go.Proofs.Ytpihapkclnhklaa
open Go.RowKit

/-- What settled answers to Cut: below the counter's box all is as it was. -/
def SettCut (W : World) (bn : Nat) (z l : Int) (L : List ByteArray) (e : Ending) (w' : World) : Prop :=
  ∃ v, e = .returned (.agg #[.int .i64 z, v, .slice none 0 0, .int .i64 l]) ∧ OwS w' (W.heap.size + 2) v L ∧ Below bn W w'

/-- What holds between two rounds of settled for Cut. -/
def ScRel (W : World) (d : Dk) (ps : List Int) (bx : Array Value) (bn g cap k : Nat) (wr : World) : Prop :=
  ∃ L : List ByteArray, L.length = d.secs.length ∧ (∀ s ∈ L, (s.size : Int) = d.size) ∧ cutW d.size d.secs d.pend ps = cutW d.size L (d.pend.drop k) (ps.drop k) ∧
    wr.ownsRow (W.heap.size + 2) 9 1 (.slice (some ⟨g, 0, none⟩) d.secs.length cap) d.secs.length (L.map .string) ∧
    Blk wr W.heap.size 26 bx ∧ Blk wr (W.heap.size + 1) 26 #[.int .i64 0, .slice none 0 0, .slice none 0 0, .int .i64 0] ∧
    Blk wr bn 3 #[.int .i64 ((min k ps.length : Nat) : Int)] ∧ Below bn W wr

theorem Blk.agree {w w' : World} {M : Nat → Prop} {g : Nat} {t : TypeId} {cs : Array Value} (h : Blk w g t cs) (k : Agree M w w') (hM : ¬ M g) : Blk w' g t cs := (k.block g h.lt hM).trans h

set_option maxRecDepth 100000 in
set_option maxHeartbeats 8000000 in
theorem settled_cut (W0 W : World) (vs vp : Value) (d : Dk) (h0 : DskP W0 vs vp d) (hv : Valid d) (hpl : d.pend.length ≤ 100000) (bn bp bd : Nat) (I : Option Addr) (ci : Nat) (ps : List Int) (u1 u2 u3 : Value)
    (hps : Ints W0 (.slice I ps.length ci) ps) (hw0 : Below W0.heap.size W0 W) (hb0 : W0.heap.size ≤ bn)
    (hn : Blk W bn 3 #[.int .i64 0]) (hp : Blk W bp 32 #[.slice I ps.length ci]) (hb : Blk W bd 26 #[.int .i64 d.size, u1, u2, u3]) (hb1 : bp < bn) (hb2 : bd < bn) :
    Calls Try.prog 31 #[.agg #[.int .i64 d.size, vs, vp, .int .i64 d.left], .func (.func 32) #[] #[.pointer (some ⟨bn, 0, none⟩), .pointer (some ⟨bp, 0, none⟩), .pointer (some ⟨bd, 0, none⟩)]] W (SettCut W bn d.size d.left (cutW d.size d.secs d.pend ps)) := by
  have h := h0.keep (Keeps.of_below hw0)
  obtain ⟨A, c, rfl, hc, hm⟩ := h.sec.form
  obtain ⟨P, cp, rfl, hcp, hmp⟩ := h.pen.form
  have V := Lib.hid hv
  have v1 := hv.s1
  have v2 := hv.s2
  have v3 := hv.n1
  have v4 := hv.n2
  clear hv
  have hbnW := hn.lt
  have hbk0 := Blk.new W #[.int .i64 d.size, .slice A d.secs.length c, .slice P d.pend.length cp, .int .i64 d.left] 26
  have hbk := hbk0.alloc (.cells #[.int .i64 0, .slice none 0 0, .slice none 0 0, .int .i64 0] 26)
  have hbr := Blk.new (W.alloc (.cells #[.int .i64 d.size, .slice A d.secs.length c, .slice P d.pend.length cp, .int .i64 d.left] 26)) #[.int .i64 0, .slice none 0 0, .slice none 0 0, .int .i64 0] 26
  rw [World.size_alloc] at hbr
  have hd1 := ((Below.refl W.heap.size W).alloc (Nat.le_refl _) (.cells #[.int .i64 d.size, .slice A d.secs.length c, .slice P d.pend.length cp, .int .i64 d.left] 26)).alloc (by simp) (.cells #[.int .i64 0, .slice none 0 0, .slice none 0 0, .int .i64 0] 26)
  have hD1 := h.keep (Keeps.of_below hd1)
  have cl := clone_any _ A c d.secs hD1.sec v3 (by omega)
  have hs2 : ((W.alloc (.cells #[.int .i64 d.size, .slice A d.secs.length c, .slice P d.pend.length cp, .int .i64 d.left] 26)).alloc (.cells #[.int .i64 0, .slice none 0 0, .slice none 0 0, .int .i64 0] 26)).heap.size = W.heap.size + 2 := by simp
  rw [hs2] at cl
  clear hbk0 hs2
  go_enter Try.func31, Try.ntmps31
  go_upto_region 1 with (fail)
  generalize (W.alloc (.cells #[.int .i64 d.size, .slice A d.secs.length c, .slice P d.pend.length cp, .int .i64 d.left] 26)).alloc (.cells #[.int .i64 0, .slice none 0 0, .slice none 0 0, .int .i64 0] 26) = w1 at *
  obtain ⟨q0, q1, q2, q3⟩ := box4 hbk (Below.refl _ _)
  have CL := Lib.hid cl
  clear cl
  go_wp2_with fail
  refine CL.out.mono ?_
  clear CL q0 q1 q2 q3
  rintro e w2 ⟨vl, rfl, hown, hb2'⟩
  have hd2 := hd1.trans (hb2'.mono (by omega))
  have hbk2 := hbk.below hb2' (by omega)
  have hbr2 := hbr.below hb2' (by omega)
  clear hbk hbr hd1 hb2' hD1
  obtain ⟨g, cap, rfl, hg0, hg1, hg2, hg3⟩ := own_row hown (by omega)
  have hR : ScRel W d ps #[.int .i64 d.size, .slice A d.secs.length c, .slice P d.pend.length cp, .int .i64 d.left] bn g cap 0 w2 :=
    ⟨d.secs, rfl, V.out.ss, rfl, hown, hbk2, hbr2, by simpa using hn.keep hd2, hd2.mono (by omega)⟩
  obtain ⟨q0, q1, q2, q3⟩ := box4 hbk2 (Below.refl _ _)
  clear hown hbk2 hbr2 hd2 hn
  go_wp2
  go_loopw [14] (fun t wr => ∃ k : Nat, k ≤ d.pend.length ∧ t = .int .i64 k ∧ ScRel W d ps #[.int .i64 d.size, .slice A d.secs.length c, .slice P d.pend.length cp, .int .i64 d.left] bn g cap k wr) (fun t _ => d.pend.length - (intOf t).toNat)
  case atStart => exact ⟨0, by omega, rfl, hR⟩
  case round =>
    clear hR hg1 q0 q1 q2 q3
    obtain ⟨k, hk, rfl, L, hL1, hL2, hL3, hown, hbk, hbr, hn, hd⟩ := hrel
    have hw := hw0.trans (hd.mono hb0)
    have hpk := h0.pen.keep (Keeps.of_below hw)
    have hik := hps.keep (Keeps.of_below hw)
    have hpw := hp.below hd hb1
    have hbw' := hb.below hd hb2
    have hbl := hbk.lt
    obtain ⟨q0, q1, q2, q3⟩ := box4 hbk (Below.refl _ _)
    have HL1 := Lib.hid hL1
    have HL2 := Lib.hid hL2
    by_cases hlt : k < d.pend.length
    · obtain ⟨b, off, rfl, a1, a2, a3, a4⟩ := hpk.get hlt
      obtain ⟨e1, e2, e3⟩ := V.out.ws _ (List.getElem_mem hlt)
      obtain ⟨m, hm1⟩ := Int.eq_ofNat_of_zero_le e1
      generalize hs1 : d.pend[k].2 = s at *
      have hml : m < L.length := by omega
      have hms : m < d.secs.length := by omega
      have HS := Lib.hid (hL3.trans (cut_step (ps := ps) hlt hm1 hs1 hml))
      rw [hm1] at a1
      have hold : ((L[m]'hml).size : Int) = d.size := hL2 _ (List.getElem_mem hml)
      have hsz1 : (s.size : Int) = d.size := e3
      have HSZ := Lib.hid hsz1
      clear hL1 hL2 hL3 hm1 hs1 e1 e2 e3 a3 a4 hsz1 hw
      have hbw := Blk.new wr #[.int .i64 (m : Int), .string s] 45
      have hbk3 := hbk.alloc (.cells #[.int .i64 (m : Int), .string s] 45)
      have hbr3 := hbr.alloc (.cells #[.int .i64 (m : Int), .string s] 45)
      have hn3 := hn.alloc (.cells #[.int .i64 (m : Int), .string s] 45)
      have hp3 := hpw.alloc (.cells #[.int .i64 (m : Int), .string s] 45)
      have hb3 := hbw'.alloc (.cells #[.int .i64 (m : Int), .string s] 45)
      have hi3 := hik.keep (Keeps.alloc wr (.cells #[.int .i64 (m : Int), .string s] 45))
      have hown3 := World.ownsRow.alloc hown (.cells #[.int .i64 (m : Int), .string s] 45)
      have hd3 := hd.alloc (by have := hd.size; omega) (.cells #[.int .i64 (m : Int), .string s] 45)
      have hgw : bn < wr.heap.size := hn.lt
      have hgl := (hown.lt g rfl).2
      go_upto_region 5 with (fail)
      generalize wr.alloc (.cells #[.int .i64 (m : Int), .string s] 45) = w3 at *
      generalize wr.heap.size = gw at *
      obtain ⟨o1, o2⟩ := own_at hown3 (i := m) (u := .string (L[m]'hml)) (by simp)
      generalize hold' : (L[m]'hml) = old at *
      have hoL : L[m]? = some old := by rw [List.getElem?_eq_getElem hml, hold']
      clear hold' q0 q1 q2 q3 a1 a2 hown hbk hbr hd hn hpw hbw' hik hpk
      have p0 := hbw.cell (j := 0) rfl
      have p1 := hbw.cell (j := 1) rfl
      have hgn : g ≠ bn := by omega
      have cc := cut1_any w3.drew bn bp bd k I ci ps d.size u1 u2 u3 old s hn3.drew hp3.drew hb3.drew (hi3.keep (Keeps.drew _)) v1 v2 HSZ.out hold (by omega)
      have htn : ((torn (pick (ps.getD k 0) d.size) s old).size : Int) = d.size := by
        have hpk := pick_le (ps.getD k 0) d.size v1
        have hz := HSZ.out
        rw [torn_size (by omega) (by omega)]
        exact hold
      generalize torn (pick (ps.getD k 0) d.size) s old = tn at *
      have CC := Lib.hid cc
      have KEY : Hid (∀ w4, Agree (fun b => b = bn) w3.drew w4 → w4.cell? ⟨gw, 0, none⟩ = some (.int .i64 (m : Int)) ∧ w4.cell? ⟨gw, 1, none⟩ = some (.string s) ∧ w4.cell? ⟨g, m, none⟩ = some (.string old) ∧ w4.frozen? ⟨g, m, none⟩ = false) := by
        intro w4 hA4
        have hW := Blk.agree hbw.drew hA4 (by omega)
        have hO4 := (own_stab (M := fun b => b = bn) (own_drew hown3) (fun b hb e => hgn ((show g = b by injection hb).trans e))) _ hA4
        have ho := own_at hO4 (i := m) (u := .string old) (by rw [List.getElem?_map, hoL]; rfl)
        exact ⟨hW.cell (j := 0) rfl, hW.cell (j := 1) rfl, ho.1, ho.2⟩
      have REL : Hid (∀ w4, Below bn w3.drew w4 → Agree (fun b => b = bn) w3.drew w4 → Blk w4 bn 3 #[.int .i64 ((min (k + 1) ps.length : Nat) : Int)] →
          ScRel W d ps #[.int .i64 d.size, .slice A d.secs.length c, .slice (some ⟨b, off, none⟩) d.pend.length cp, .int .i64 d.left] bn g cap (k + 1) (w4.setCell ⟨g, m, none⟩ (.string tn))) := by
        intro w4 hB4 hA4 hN4
        have hO4 := (own_stab (M := fun b => b = bn) (own_drew hown3) (fun b hb e => hgn ((show g = b by injection hb).trans e))) _ hA4
        refine ⟨L.set m tn, by rw [List.length_set]; exact HL1.out, cut_sizes HL2.out htn, HS.out, ?_, ?_, ?_, ?_, ?_⟩
        · rw [List.map_set]; exact own_set hO4 (.string tn)
        · exact (Blk.agree hbk3.drew hA4 (by omega)).far (p := ⟨g, m, none⟩) (by simp; omega) _
        · exact (Blk.agree hbr3.drew hA4 (by omega)).far (p := ⟨g, m, none⟩) (by simp; omega) _
        · exact hN4.far (p := ⟨g, m, none⟩) (by simp; omega) _
        · exact ((below_drew1 hd3).trans hB4).setCell (p := ⟨g, m, none⟩) (show bn ≤ g by omega) _
      clear cc hown3 hbk3 hbr3 hd3 hn3 hp3 hb3 hi3 hbw HS HL1 HL2 hold htn hoL HSZ
      go_region_law ((go_simp; go_at_call 32; refine CC.out.mono ?_; rintro e w4 ⟨rfl, hB4, hA4, hN4⟩; obtain ⟨p0', p1', o1', o2'⟩ := KEY.out _ hA4))
      all_goals
        have R := REL.out _ hB4 hA4 hN4
        clear hB4 hA4 hN4 p0' p1' o1' o2' p0 p1 o1 o2
        go_wp2
        go_roundw
        case rel => exact ⟨k + 1, by omega, by go_num, R⟩
        case measure => simp [intOf] <;> omega
    · have hF : cutW d.size d.secs d.pend ps = L := hL3.trans (cut_end hlt)
      have HF2 := Lib.hid hF
      have HF := Lib.hid hF
      have hOS : OwS wr (W.heap.size + 2) (.slice (some ⟨g, 0, none⟩) d.secs.length cap) L := by unfold OwS; rw [HL1.out]; exact hown
      clear hF hL1 hL2 hL3
      obtain ⟨t0, t1, t2, t3, r0, r1, r2, r3⟩ := box8 hbr (Below.refl _ _)
      obtain ⟨q0', q1', q2', q3', s0, s1, s2, s3⟩ := box8 hbk (Below.refl _ _)
      have hx := ((hbr.far (p := ⟨W.heap.size, 1, none⟩) (by simp) (.slice (some ⟨g, 0, none⟩) d.secs.length cap)).far (p := ⟨W.heap.size, 2, none⟩) (by simp) (.slice none 0 0)).set4 (.int .i64 d.size) (.slice (some ⟨g, 0, none⟩) d.secs.length cap) (.slice none 0 0) (.int .i64 d.left)
      have hdx := set4_below ((hd.setCell (p := ⟨W.heap.size, 1, none⟩) (show bn ≤ W.heap.size by omega) (.slice (some ⟨g, 0, none⟩) d.secs.length cap)).setCell (p := ⟨W.heap.size, 2, none⟩) (show bn ≤ W.heap.size by omega) (.slice none 0 0)) (show bn ≤ W.heap.size + 1 by omega) (.int .i64 d.size) (.slice (some ⟨g, 0, none⟩) d.secs.length cap) (.slice none 0 0) (.int .i64 d.left)
      have hvx := own_far4 ((hOS.far (p := ⟨W.heap.size, 1, none⟩) (by simp) (.slice (some ⟨g, 0, none⟩) d.secs.length cap)).far (p := ⟨W.heap.size, 2, none⟩) (by simp) (.slice none 0 0)) (show g ≠ W.heap.size + 1 by omega) (.int .i64 d.size) (.slice (some ⟨g, 0, none⟩) d.secs.length cap) (.slice none 0 0) (.int .i64 d.left)
      clear hown hOS HF
      go_wp2
      clear r0 r1 r2 r3 t0 t1 t2 t3 q0 q1 q2 q3 q0' q1' q2' q3' s0 s1 s2 s3
      generalize (((((wr.setCell ⟨W.heap.size, 1, none⟩ (.slice (some ⟨g, 0, none⟩) d.secs.length cap)).setCell ⟨W.heap.size, 2, none⟩ (.slice none 0 0)).setCell ⟨W.heap.size + 1, 0, none⟩ (.int .i64 d.size)).setCell ⟨W.heap.size + 1, 1, none⟩ (.slice (some ⟨g, 0, none⟩) d.secs.length cap)).setCell ⟨W.heap.size + 1, 2, none⟩ (.slice none 0 0)).setCell ⟨W.heap.size + 1, 3, none⟩ (.int .i64 d.left) = wx at *
      obtain ⟨k0, k1, k2, k3⟩ := box4 hx (Below.refl _ _)
      rw [HF2.out]
      exact bodyPost_ret (v := .agg #[.int .i64 d.size, .slice (some ⟨g, 0, none⟩) d.secs.length cap, .slice none 0 0, .int .i64 d.left]) (by simp [results, Try.results31, go_sem, k0, k1, k2, k3]) rfl ⟨_, rfl, hvx, hdx⟩
end Go.Proofs.Ytpihapkclnhklaa
