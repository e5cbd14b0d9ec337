/- Builders under other writes. codec: digits, writeInt, PutInt, PutText. codec: GetInt, GetText, the code's and the reference's; the reference's put. The reference's codec: put, PutInt, PutText, GetInt, GetText. The reference's codec: PutInt, PutText, GetInt, GetText, number. codec: GetTexts, the code's and the reference's. codec: PutTexts, the code's. -/
import Derived.Test.YtockmhhiomdlkaaBld
import Derived.Test.YtockmhhiomdlkaaJnAll
import Derived.Test.YtockmhhiomdlkaaGen
import Derived.Deep.CutBlock
import Derived.RangeFuncCalls
import Derived.Sort.CutIn
import Derived.Laws.IdiomStrings
namespace Go.Proofs.Ytockmhhiomdlkaa
set_option linter.unusedVariables false
set_option linter.unusedSimpArgs false
open Go.RowKit
section
variable {W W' W'' : World} {t : List UInt8}
theorem KeepsOthers.of_below (k : Below W.heap.size W W') : KeepsOthers W W' := ⟨k.size, fun i o hi _ => (k.block i (Array.getElem?_eq_some_iff.1 hi).1).trans hi⟩
/-- A builder is kept where only other blocks are written. -/
theorem Bld.kept {B b : Nat} {l : List UInt8} {row : Option Nat} (hb : Bld B b l W) (hg : W.grownBy W' row) (hr : ∀ g, row = some g → g ≠ b ∧ ∃ cs t fz, W.heap[g]? = some (.cells cs t fz) ∧ t ≠ 5) : Bld B b l W' := by
  have go : ∀ p, Lib.BuilderAtF 105 5 B b p (Lib.byteCells l) W → Lib.BuilderAtF 105 5 B b p (Lib.byteCells l) W' := fun p ⟨h1, v, h2, h3, h4⟩ => by
    refine ⟨h1, v, (hg.block b (Array.getElem?_eq_some_iff.1 h2).1 fun e => (hr b e.symm).1 rfl).trans h2, h3.kept hg ?_, h4⟩
    rcases h3.2 with ⟨rfl, _⟩ | ⟨g, cap, cur, fz, rfl, _, hgg, _⟩
    · exact .inl rfl
    · refine .inr fun e => ?_
      obtain ⟨_, cs, t, fz', hc, ht⟩ := hr g e.symm
      rw [hgg] at hc
      injection hc with hc
      injection hc with _ hc
      exact ht hc.symm
  exact hb.imp (go _) (go _)
theorem grownBy_set (W : World) (b o : Nat) (u : Value) : W.grownBy (W.setCell ⟨b, o, none⟩ u) (some b) := ⟨rfl, rfl, rfl, by simp [World.setCell], fun k _ hk => Below.heap_setCell W ⟨b, o, none⟩ u k fun e => hk (by rw [e])⟩
theorem grownBy_below {W W' : World} (k : Below W.heap.size W W') : W.grownBy W' none := ⟨k.os, k.tape, k.output, k.size, fun i hi _ => k.block i hi⟩
theorem Bld.below {B b : Nat} {l : List UInt8} (hb : Bld B b l W) (k : Below W.heap.size W W') : Bld B b l W' := hb.kept (grownBy_below k) fun g e => (by cases e)
theorem Bld.lt {B b : Nat} {l : List UInt8} (hb : Bld B b l W) : b < W.heap.size := by
  rcases hb with h | h <;> exact h.lt
theorem Bld.blk {B b : Nat} (hb : Bld B b t W) : ∃ cs fz, W.heap[b]? = some (.cells cs 105 fz) := by
  rcases hb with ⟨_, v, hv, _⟩ | ⟨_, v, hv, _⟩ <;> exact ⟨_, _, hv⟩
end
end Go.Proofs.Ytockmhhiomdlkaa

namespace Go.Proofs.Ytockmhhiomdlkaa
set_option linter.unusedVariables false
set_option linter.unusedSimpArgs false
open Go.RowKit
attribute [local go_sem] Oper.semAt_some

def encB (c : UInt8) : Value := .int .u8 c.toNat
def boxNat (w : World) (b : Nat) : Nat := match w.cell? ⟨b, 0, none⟩ with
  | some (.int _ n) => n.toNat
  | _ => 0
theorem boxNat_eq {w : World} {b n : Nat} {k : IntKind} (h : w.cell? ⟨b, 0, none⟩ = some (.int k (n : Int))) : boxNat w b = n := by
  unfold boxNat
  rw [h]
  simp

set_option maxHeartbeats 1000000 in
theorem digits_any (n : Int) (w : World) :
    Calls Try.prog 100 #[.int .i64 n] w fun e w' => e = .returned (.func (.func 113) #[] #[.pointer (some ⟨w.heap.size, 0, none⟩)]) ∧ w' = w.alloc (.cells #[.int .i64 n] 3) := by
  go_enter Try.func100, Try.ntmps100
  go_wp2
  go_ret
  exact ⟨rfl, rfl⟩

set_option maxRecDepth 100000 in
set_option maxHeartbeats 2000000 in
theorem digits1_in (n l Bn : Nat) (hn : 1 ≤ n) (J : List UInt8 → World → Prop) (hJ : ∀ pre W v, J pre W → J pre (W.setCell ⟨Bn, 0, none⟩ v)) (m : Nat) (hm : m ≤ 1099511627776)
    (hY : ∀ pre (x : UInt8) W, J pre W → pre.length < m + 1 → YieldAt Fence.wide (n - 1) Try.prog l #[encB x] W fun e W' => e = .returned (.bool true) ∧ J (pre ++ [x]) W' ∧ W'.heap[Bn]? = W.heap[Bn]?)
    (W : World) (hbox : Blk W Bn 3 #[.int .i64 m]) (h0 : J [] W) :
    CallsIn Fence.wide n Try.prog 113 #[.func (.yield l) #[] #[], .pointer (some ⟨Bn, 0, none⟩)] W fun e W' => (∃ v, e = .returned v) ∧ J (digL m) W' := by
  refine callsIn_of_wp Try.func113 rfl trivial ?_ rfl
  simp only [Try.ntmps113, List.size_toArray, List.length_cons, List.length_nil, Nat.reduceAdd, Nat.reduceSub, Array.replicate_succ, Array.replicate_zero, List.push_toArray, List.append_toArray, List.nil_append, List.cons_append]
  gi_wp2
  gi_loopw [3] (fun _ wr => ∃ (pre : List UInt8) (k : Nat), Hid (digL m = pre ++ digL k) ∧ pre.length + k ≤ m ∧ Blk wr Bn 3 #[.int .i64 k] ∧ J pre wr) (fun _ wr => boxNat wr Bn)
  case atStart => exact ⟨[], m, rfl, by simp, hbox, h0⟩
  case round =>
    obtain ⟨pre, k, HL, hlen, hblk, hj⟩ := hrel
    have hc : wr.cell? ⟨Bn, 0, none⟩ = some (.int .i64 k) := hblk.cell (j := 0) rfl
    have hf := hblk.frozen 0
    by_cases hk : k < 128
    · have hx : ((UInt8.ofNat k).toNat : Int) = (k : Int) := by rw [UInt8.toNat_ofNat_of_lt' (by simp [UInt8.size]; omega)]
      obtain ⟨fn, tmps, assign, body, hy, hR⟩ := hY pre (UInt8.ofNat k) wr hj (by omega)
      unfold encB at hy
      rw [hx] at hy
      have HR := Lib.hid hR
      have hkn : ¬ (128 : Int) ≤ (k : Int) := by omega
      have HE : Hid (digL m = pre ++ [UInt8.ofNat k]) := by show _ = _; rw [HL.out, digL_last hk]
      clear hR hx HL
      gi_wp2_with fail
      refine HR.out.mono ?_
      rintro e W3 ⟨rfl, hJ3, hb3⟩
      rw [← HE.out] at hJ3
      gi_wp2
      go_end0
      exact ⟨⟨_, rfl⟩, hJ3⟩
    · have hm1 : k % 128 + 128 < 256 := by omega
      have hx : ((UInt8.ofNat (k % 128 + 128)).toNat : Int) = (k : Int) % 128 + 128 := by rw [UInt8.toNat_ofNat_of_lt' (by simp [UInt8.size]; omega)]; omega
      obtain ⟨fn, tmps, assign, body, hy, hR⟩ := hY pre (UInt8.ofNat (k % 128 + 128)) wr hj (by omega)
      unfold encB at hy
      rw [hx] at hy
      have HR := Lib.hid hR
      have hkn : (128 : Int) ≤ (k : Int) := by omega
      have HE : Hid (digL m = (pre ++ [UInt8.ofNat (k % 128 + 128)]) ++ digL (k / 128)) := by show _ = _; rw [HL.out, digL_more hk, List.append_assoc]; rfl
      have hkm : (k : Int) ≤ 1099511627776 := by omega
      clear hR hx HL
      gi_wp2_with fail
      refine HR.out.mono ?_
      rintro e W3 ⟨rfl, hJ3, hb3⟩
      have hblk3 : Blk W3 Bn 3 #[.int .i64 k] := hb3.trans hblk
      have hc3 : W3.cell? ⟨Bn, 0, none⟩ = some (.int .i64 k) := hblk3.cell (j := 0) rfl
      have hf3 := hblk3.frozen 0
      have hblk4 := hblk3.set 0 (.int .i64 ((k / 128 : Nat) : Int))
      have hJ4 := hJ _ _ (.int .i64 ((k / 128 : Nat) : Int)) hJ3
      have HB4 := Lib.hid hblk4
      have HJ4 := Lib.hid hJ4
      have HC := Lib.hid hc
      have hm2 : boxNat (W3.setCell ⟨Bn, 0, none⟩ (.int .i64 ((k / 128 : Nat) : Int))) Bn < boxNat wr Bn := by
        rw [boxNat_eq hc, boxNat_eq (hblk4.cell (j := 0) rfl)]; omega
      have HM2 := Lib.hid hm2
      clear hm2
      clear hblk4 hJ4 hJ3 hb3 hblk3 hblk hj hc hf
      gi_wp2
      go_roundw
      case rel => exact ⟨pre ++ [UInt8.ofNat (k % 128 + 128)], k / 128, HE, by simp; omega, HB4.out, HJ4.out⟩
      case measure => exact HM2.out

/-- What writes into a builder leaves. -/
structure BldE (B b : Nat) (l : List UInt8) (w0 w : World) : Prop where
  bld : Bld B b l w
  bel : Below B w0 w
  oth : Lib.OthersKept 5 (some b) w0 w
theorem others_high {e : TypeId} {b : Option Nat} {w0 W W' : World} (h : Lib.OthersKept e b w0 W) (hk : ∀ k, k < w0.heap.size → W'.heap[k]? = W.heap[k]?) : Lib.OthersKept e b w0 W' := fun k o hx hb ho =>
  (hk k (Array.getElem?_eq_some_iff.1 hx).1).trans (h k o hx hb ho)
theorem others_below {e : TypeId} {b : Option Nat} {w0 W W' : World} (h : Lib.OthersKept e b w0 W) (hs : w0.heap.size ≤ W.heap.size) (k : Below W.heap.size W W') : Lib.OthersKept e b w0 W' :=
  others_high h fun i hi => k.block i (by omega)
/-- What the loop of writeInt keeps: Hs, the box of the builder's pointer; Bn, the box of the number. -/
structure WrI (w0 : World) (B b Hs Bn : Nat) (l0 pre : List UInt8) (W : World) : Prop where
  e : BldE B b (l0 ++ pre) w0 W
  p : Blk W Hs 103 #[.pointer (some ⟨b, 0, none⟩)]
  n : ∃ v, Blk W Bn 3 #[v]
  hs : w0.heap.size + 2 ≤ W.heap.size
section
variable {w0 : World} {B b Hs Bn : Nat} {l0 pre : List UInt8} {W : World}
theorem WrI.alloc (h : WrI w0 B b Hs Bn l0 pre W) (hB : B ≤ w0.heap.size) (o : Obj) : WrI w0 B b Hs Bn l0 pre (W.alloc o) := by
  have hs := h.hs
  obtain ⟨v, hv⟩ := h.n
  have k : Below W.heap.size W (W.alloc o) := (Below.refl _ _).alloc (Nat.le_refl _) o
  exact ⟨⟨h.e.bld.below k, h.e.bel.trans (k.mono (by omega)), others_below h.e.oth (by omega) k⟩, h.p.alloc o, ⟨v, hv.alloc o⟩, by simp; omega⟩
theorem WrI.put (h : WrI w0 B b Hs Bn l0 pre W) (hB : B ≤ w0.heap.size) {r : Nat} {o o' : Obj} (hr : w0.heap.size ≤ r) (ho : W.heap[r]? = some o) (hc : o.isCells = false) : WrI w0 B b Hs Bn l0 pre (W.putObj r o') := by
  have blk : ∀ {g : Nat} {t : TypeId} {cs : Array Value}, Blk W g t cs → Blk (W.putObj r o') g t cs := fun {g t cs} hb => (World.putObj_heap_other (by
    rintro rfl
    unfold Blk at hb
    rw [hb] at ho
    cases ho
    cases hc)).trans hb
  obtain ⟨v, hv⟩ := h.n
  have hs := h.hs
  have hg : W.grownBy (W.putObj r o') (some r) := grownBy_putObj' W r o'
  refine ⟨⟨?_, h.e.bel.grown hg (by omega) (fun k e => by cases e; omega), others_high h.e.oth fun k hk => World.putObj_heap_other (by omega)⟩, blk h.p, ⟨v, blk hv⟩, by simp [World.putObj]; omega⟩
  have go : ∀ p, Lib.BuilderAtF 105 5 B b p (Lib.byteCells (l0 ++ pre)) W → Lib.BuilderAtF 105 5 B b p (Lib.byteCells (l0 ++ pre)) (W.putObj r o') := fun p ⟨h1, v, h2, h3, h4⟩ => by
    refine ⟨h1, v, blk (t := 105) h2, h3.kept hg ?_, h4⟩
    rcases h3.2 with ⟨rfl, _⟩ | ⟨g, cap, cur, fz, rfl, _, hgg, _⟩
    · exact .inl rfl
    · refine .inr fun e => ?_
      have e1 : g = r := by simpa [Value.ownBlock] using e
      subst e1
      rw [hgg] at ho
      cases ho
      cases hc
  exact h.e.bld.imp (go _) (go _)
theorem WrI.set (h : WrI w0 B b Hs Bn l0 pre W) (hB : B ≤ w0.heap.size) (hBn : w0.heap.size ≤ Bn) (hbn : b ≠ Bn) (hsn : Hs ≠ Bn) (u : Value) : WrI w0 B b Hs Bn l0 pre (W.setCell ⟨Bn, 0, none⟩ u) := by
  obtain ⟨v, hv⟩ := h.n
  have hs := h.hs
  refine ⟨⟨h.e.bld.kept (grownBy_set W Bn 0 u) fun g e => ?_, h.e.bel.setCell (p := ⟨Bn, 0, none⟩) (by simp only; omega) u, others_high h.e.oth fun k hk => Below.heap_setCell W ⟨Bn, 0, none⟩ u k (by simp only; omega)⟩, h.p.far (p := ⟨Bn, 0, none⟩) hsn u, ⟨u, hv.set 0 u⟩, by simp [World.setCell]; omega⟩
  injection e with e
  subst e
  exact ⟨fun e => hbn e.symm, _, _, _, hv, by decide⟩
end

set_option maxRecDepth 100000 in
set_option maxHeartbeats 2000000 in
theorem writeInt_any (w : World) (B b : Nat) (l : List UInt8) (m : Nat) (hm : m ≤ 1099511627776) (h : Bld B b l w) (hBw : B ≤ w.heap.size) (hl : l.length ≤ 70368744177664) :
    Calls Try.prog 86 #[.pointer (some ⟨b, 0, none⟩), .int .i64 m] w fun e w' => e = .returned (.tuple #[]) ∧ BldE B b (l ++ digL m) w w' := by
  have hbl := h.lt
  refine (callsIn_wide (n := 3)).1 ?_
  refine callsIn_of_wp_marks Try.func86 rfl trivial ?_ rfl
  simp only [Try.ntmps86, List.size_toArray, List.length_cons, List.length_nil, Nat.reduceAdd, Nat.reduceSub, Array.replicate_succ, Array.replicate_zero, List.push_toArray, List.append_toArray, List.nil_append, List.cons_append]
  gi_wp2_with fail
  refine ⟨trivial, ?_⟩
  refine (callsIn_wide.2 (digits_any _ _)).mono ?_
  rintro e w' ⟨rfl, rfl⟩
  gi_wp2_with fail
  have k1 := (Below.refl w.heap.size w).alloc (Nat.le_refl _) (.cells #[.pointer (some ⟨b, 0, none⟩)] 103)
  have k2 := k1.alloc (by simp) (.cells #[.int .i64 m] 3)
  have p1 := (Blk.new w #[.pointer (some ⟨b, 0, none⟩)] 103).alloc (.cells #[.int .i64 m] 3)
  have p2 := Blk.new (w.alloc (.cells #[.pointer (some ⟨b, 0, none⟩)] 103)) #[.int .i64 m] 3
  rw [World.size_alloc] at p2
  have hsz : ((w.alloc (.cells #[.pointer (some ⟨b, 0, none⟩)] 103)).alloc (.cells #[.int .i64 m] 3)).heap.size = w.heap.size + 2 := by simp
  have hz : (w.alloc (.cells #[.pointer (some ⟨b, 0, none⟩)] 103)).heap.size = w.heap.size + 1 := by simp
  try rw [hz]
  have hI0 : WrI w B b w.heap.size (w.heap.size + 1) l [] ((w.alloc (.cells #[.pointer (some ⟨b, 0, none⟩)] 103)).alloc (.cells #[.int .i64 m] 3)) :=
    ⟨⟨by rw [List.append_nil]; exact h.below k2, k2.mono hBw, others_below (Lib.OthersKept.refl _ _ _) (Nat.le_refl _) k2⟩, p1, ⟨_, p2⟩, by omega⟩
  generalize (w.alloc (.cells #[.pointer (some ⟨b, 0, none⟩)] 103)).alloc (.cells #[.int .i64 m] 3) = W0 at *
  clear k1 k2 p1 hz
  refine wp_range_box (α := UInt8) (gf := 113) (lb := #[.pointer (some ⟨w.heap.size + 1, 0, none⟩)]) rfl (enters_of Try.func113 (by kernel_rfl) rfl)
    encB rfl (m + 1) (digL m) (w.heap.size + 1) (WrI w B b w.heap.size (w.heap.size + 1) l) (fun pre W o h => h.alloc hBw o) (fun pre W r o o' hr h h1 h2 => h.put hBw (by omega) h1 h2) (fun pre W v h => h.set hBw (by omega) (by omega) (by omega) v) hI0 ⟨_, _, p2⟩
    (fun lp J hJ hY W hB hJ0 => digits1_in _ lp _ (by omega) J hJ m hm hY W (hB.trans p2) hJ0)
    ?a1 ?assign ?body ?done
  case assign =>
    intro l x W K hK
    unfold encB
    gi_wp2
    exact hK
  case body =>
    rintro lp pre x W hi hlen
    have hp := hi.p.cell (j := 0) rfl
    obtain ⟨v, hv⟩ := hi.n
    have hs := hi.hs
    have CW := Lib.hid (wb_any B b (l ++ pre) x W hi.e.bld (by rw [List.length_append]; omega) (by omega))
    have HI := Lib.hid hi
    have HV := Lib.hid hv
    clear hi hv hI0 p2
    gi_wp2_with fail
    refine ⟨trivial, ?_⟩
    refine ((Wid.round lp).calls CW.out).mono ?_
    rintro e w3 ⟨rfl, hb3, hB3, ko3⟩
    have hne : ∀ {g : Nat} {t : TypeId} {cs : Array Value}, Blk W g t cs → g ≠ b → t ≠ 5 → Blk w3 g t cs := fun hb hg ht => ko3 _ _ hb (fun e => hg (by injection e)) fun cs' fz e => ht (by injection e)
    have hbW := HI.out.e.bld.blk
    have hko : KeepsOthers W w3 := ⟨hB3.size, fun k o hx ho => ko3 k o hx (fun e => by
      injection e with e
      subst e
      obtain ⟨cs, fz, hc⟩ := hbW
      rw [hx] at hc
      cases hc
      cases ho) fun c fz e => by subst e; cases ho⟩
    have hP : ∀ a, boxPost (w.heap.size + 1) (WrI w B b w.heap.size (w.heap.size + 1) l) (pre ++ [x]) W .normal a w3 := fun _ =>
      ⟨hko, (hne HV.out (by omega) (by decide)).trans HV.out.symm, ⟨⟨by rw [← List.append_assoc]; exact hb3, HI.out.e.bel.trans hB3, HI.out.e.oth.trans ko3⟩, hne HI.out.p (by omega) (by decide), ⟨v, hne HV.out (by omega) (by decide)⟩, by have := hB3.size; omega⟩⟩
    have hP' := Lib.hid hP
    clear hP hko hbW hne hb3 hB3 ko3 HI HV CW
    gi_wp2
    exact hP'.out _
  case done =>
    rintro D W hD hi hK
    have HI := Lib.hid hi
    clear hI0 hi p2
    gi_wp2
    refine ⟨by simp, .inl ⟨_, _, rfl, run_takeDeferred hK, ?_⟩⟩
    refine ⟨_, results_none rfl _ _ _, rfl, ?_⟩
    have hp := HI.out.put hBw (o' := .deferred none) (by omega) hK rfl
    exact hp.e

set_option maxHeartbeats 1000000 in
theorem inRange_yes (n : Int) (w : World) (h0 : 0 ≤ n) (h1 : n ≤ 1099511627776) : Calls Try.prog 87 #[.int .i64 n] w fun e w' => e = .returned (.bool true) ∧ w = w' := by
  go_enter Try.func87, Try.ntmps87
  go_wp2
  go_ret
  exact ⟨rfl, rfl⟩
set_option maxHeartbeats 1000000 in
theorem inRange_no (n : Int) (w : World) (h : n < 0 ∨ 1099511627776 < n) : Calls Try.prog 87 #[.int .i64 n] w fun e w' => e = .returned (.bool false) ∧ w = w' := by
  rcases h with h | h
  · have h' : decide (0 ≤ n) = false := by simp; omega
    go_enter Try.func87, Try.ntmps87
    go_wp2
    go_ret
    exact ⟨rfl, rfl⟩
  · have h' : decide (n ≤ 1099511627776) = false := by simp; omega
    have h2 : decide (0 ≤ n) = true := by simp; omega
    go_enter Try.func87, Try.ntmps87
    go_wp2
    go_ret
    exact ⟨rfl, rfl⟩
theorem Bld.new (w : World) {B : Nat} (hB : B ≤ w.heap.size) : Bld B w.heap.size [] (w.alloc (.cells #[.pointer none, .slice none 0 0] 105)) :=
  .inl ⟨hB, .slice none 0 0, heap_alloc_new w _, ⟨rfl, .inl ⟨rfl, rfl⟩⟩, by simp [Value.ownBlock]⟩
set_option maxRecDepth 100000 in
set_option maxHeartbeats 1000000 in
theorem putInt_any (n : Int) (w : World) : Calls Try.prog 63 #[.int .i64 n] w fun e w' => e = .returned (.tuple #[.string (strB (putI n).1), .int .i64 (putI n).2]) ∧ Below w.heap.size w w' := by
  by_cases h : 0 ≤ n ∧ n ≤ 1099511627776
  · have hp : putI n = (digL n.toNat, 0) := if_pos h
    obtain ⟨m, rfl⟩ : ∃ m : Nat, n = m := ⟨n.toNat, by omega⟩
    rw [hp, Int.toNat_natCast]
    have hm : m ≤ 1099511627776 := by omega
    have CR := Lib.hid (inRange_yes (m : Int) w h.1 h.2)
    clear hp h
    go_enter Try.func63, Try.ntmps63
    go_wp2_with fail
    refine CR.out.mono ?_
    rintro e w1 ⟨rfl, rfl⟩
    have CW := Lib.hid (writeInt_any (w.alloc (.cells #[.pointer none, .slice none 0 0] 105)) w.heap.size w.heap.size [] m hm (Bld.new w (Nat.le_refl _)) (by simp) (by simp))
    have K1 := Lib.hid ((Below.refl w.heap.size w).alloc (Nat.le_refl _) (.cells #[.pointer none, .slice none 0 0] 105))
    clear CR
    go_wp2_with fail
    refine CW.out.mono ?_
    rintro e w2 ⟨rfl, hb⟩
    have CS := Lib.hid (str_any w.heap.size w.heap.size ([] ++ digL m) w2 hb.bld (by have := hb.bel.size; simp at this; omega))
    have K2 := Lib.hid (K1.out.trans hb.bel)
    clear hb CW K1
    go_wp2_with fail
    refine CS.out.mono ?_
    rintro e w3 ⟨rfl, _, hb3, _⟩
    have K3 := Lib.hid (K2.out.trans hb3)
    clear hb3 CS K2
    go_wp2
    go_ret2
    exact ⟨rfl, K3.out⟩
  · have hp : putI n = ([], 2) := if_neg h
    rw [hp]
    have CR := Lib.hid (inRange_no n w (by omega))
    clear hp h
    go_enter Try.func63, Try.ntmps63
    go_wp2_with fail
    refine CR.out.mono ?_
    rintro e w1 ⟨rfl, rfl⟩
    go_wp2
    go_ret2
    exact ⟨rfl, Below.refl _ _⟩
end Go.Proofs.Ytockmhhiomdlkaa

namespace Go.Proofs.Ytockmhhiomdlkaa
set_option linter.unusedVariables false
set_option linter.unusedSimpArgs false
open Go.RowKit

theorem extract_app (a : ByteArray) {o l : Nat} (h : o + l ≤ a.size) : a.extract o (o + l) = strB ((a.data.toList.drop o).take l) := by
  apply ByteArray.ext
  rw [ByteArray.data_extract]
  apply Array.toList_inj.1
  simp [strB, Array.toList_extract, List.extract_eq_take_drop]
theorem drop_str (s : ByteArray) (k : Nat) : (s.extract k s.size).data.toList = s.data.toList.drop k := by
  rw [ByteArray.data_extract, Array.toList_extract, List.extract_eq_take_drop]
  apply List.take_of_length_le
  rw [List.length_drop]
  exact Nat.le_refl _
theorem strB_append (a b : List UInt8) : strB a ++ strB b = strB (a ++ b) := by
  apply ByteArray.ext
  simp [strB, ByteArray.data_append]
/-- An answer of GetInt. -/
def gI (r : Nat × Nat × Int) : Ending := .returned (.tuple #[.int .i64 (r.1 : Int), .int .i64 (r.2.1 : Int), .int .i64 r.2.2])
def P128 (i u : Nat) : Prop := u = 128 ^ i
def gT (r : List UInt8 × Nat × Int) : Ending := .returned (.tuple #[.string (strB r.1), .int .i64 (r.2.1 : Int), .int .i64 r.2.2])
theorem getF_at {s : List UInt8} {f i n u : Nat} (h : i < s.length) : getF (f + 1) i n u (s.drop i) = if 128 ≤ s[i].toNat then getF f (i + 1) (n + (s[i].toNat - 128) * u) (u * 128) (s.drop (i + 1)) else if (s[i].toNat = 0 ∧ 0 < i) ∨ 1099511627776 < n + s[i].toNat * u then (0, 0, 13) else (n + s[i].toNat * u, i + 1, 0) := by
  rw [List.drop_eq_getElem_cons h]
  rfl
theorem getF_end {s : List UInt8} {f i n u : Nat} (h : s.length ≤ i) : getF (f + 1) i n u (s.drop i) = (0, 0, 12) := by
  rw [List.drop_eq_nil_of_le h]
  rfl
theorem pow128 {i : Nat} (h : i ≤ 5) : 128 ^ i ≤ 34359738368 := Nat.le_trans (Nat.pow_le_pow_right (by omega) h) (by decide)

set_option maxRecDepth 100000 in
set_option maxHeartbeats 4000000 in
theorem getInt_any (s : ByteArray) (w : World) : Calls Try.prog 98 #[.string s] w fun e w' => e = gI (getI s.data.toList) ∧ w' = w := by
  have HL : Hid (s.data.toList.length = s.size) := rfl
  have HR0 : Hid (getF (6 - 0) 0 0 1 (s.data.toList.drop 0) = getI s.data.toList) := rfl
  have HU0 : Hid (P128 0 1) := rfl
  generalize getI s.data.toList = r at *
  go_enter Try.func98, Try.ntmps98
  go_wp2
  go_loopw [5, 6, 9] (fun ni ui ii wr => ∃ i n u : Nat, i ≤ 6 ∧ ni = .int .i64 n ∧ ui = .int .i64 u ∧ ii = .int .i64 i ∧ n < u ∧ Hid (P128 i u) ∧ Hid (getF (6 - i) i n u (s.data.toList.drop i) = r) ∧ wr = w) (fun _ _ ii _ => 6 - (intOf ii).toNat)
  case atStart => exact ⟨0, 0, 1, by omega, rfl, rfl, rfl, by omega, HU0, HR0, rfl⟩
  case round =>
    clear HR0 HU0
    obtain ⟨i, n, u, hi, rfl, rfl, rfl, hn, HU, HR, rfl⟩ := hrel
    by_cases h6 : i < 6
    · have hu : u ≤ 34359738368 := by rw [show u = 128 ^ i from HU.out]; exact pow128 (by omega)
      by_cases hs : i < s.size
      · have hd := s[i].toNat_lt
        have HR2 : Hid ((if 128 ≤ s[i].toNat then getF (5 - i) (i + 1) (n + (s[i].toNat - 128) * u) (u * 128) (s.data.toList.drop (i + 1)) else if (s[i].toNat = 0 ∧ 0 < i) ∨ 1099511627776 < n + s[i].toNat * u then (0, 0, 13) else (n + s[i].toNat * u, i + 1, 0)) = r) := by
          show _ = _
          rw [← HR.out, show 6 - i = (5 - i) + 1 by omega, getF_at (show i < s.data.toList.length from hs)]
          rfl
        have hge : decide ((s.size : Int) ≤ (i : Int)) = false := by simp; omega
        clear HR
        by_cases h128 : 128 ≤ s[i].toNat
        · have hq : (s[i].toNat - 128) * u ≤ 127 * u := Nat.mul_le_mul_right _ (by omega)
          have HR3 : Hid (getF (6 - (i + 1)) (i + 1) (n + (s[i].toNat - 128) * u) (u * 128) (s.data.toList.drop (i + 1)) = r) := by
            show _ = _
            rw [← HR2.out, if_pos h128, show 6 - (i + 1) = 5 - i by omega]
          have hw1 : IntKind.i64.wrap ((s[i].toNat : Int) - 128) = ((s[i].toNat - 128 : Nat) : Int) := by rw [i64w (by omega) (by omega)]; omega
          have hw2 : IntKind.i64.wrap (((s[i].toNat - 128 : Nat) : Int) * (u : Int)) = (((s[i].toNat - 128) * u : Nat) : Int) := by rw [← Int.natCast_mul, i64w (by omega) (by omega)]
          have hw3 : IntKind.i64.wrap ((n : Int) + (((s[i].toNat - 128) * u : Nat) : Int)) = ((n + (s[i].toNat - 128) * u : Nat) : Int) := by rw [← Int.natCast_add, i64w (by omega) (by omega)]
          have hw4 : IntKind.i64.wrap ((u : Int) * 128) = ((u * 128 : Nat) : Int) := by rw [i64w (by omega) (by omega)]; omega
          have h128' : (128 : Int) ≤ (s[i].toNat : Int) := by omega
          have HU2 : Hid (P128 (i + 1) (u * 128)) := by show _ = _; rw [show u = 128 ^ i from HU.out, Nat.pow_succ]
          have hn2 : n + (s[i].toNat - 128) * u < u * 128 := by omega
          clear HR2 HU
          generalize (s[i].toNat - 128) * u = q at *
          generalize s[i].toNat - 128 = d1 at *
          go_wp2
          go_roundw
          case rel => exact ⟨i + 1, _, u * 128, by omega, rfl, rfl, by go_num, hn2, HU2, HR3, trivial⟩
          case measure => simp [intOf]; omega
        · have hq : s[i].toNat * u ≤ 127 * u := Nat.mul_le_mul_right _ (by omega)
          have hw2 : IntKind.i64.wrap ((s[i].toNat : Int) * (u : Int)) = ((s[i].toNat * u : Nat) : Int) := by rw [← Int.natCast_mul, i64w (by omega) (by omega)]
          have hw3 : IntKind.i64.wrap ((n : Int) + ((s[i].toNat * u : Nat) : Int)) = ((n + s[i].toNat * u : Nat) : Int) := by rw [← Int.natCast_add, i64w (by omega) (by omega)]
          have h128' : ¬ (128 : Int) ≤ (s[i].toNat : Int) := by omega
          have HR3 : Hid ((if (s[i].toNat = 0 ∧ 0 < i) ∨ 1099511627776 < n + s[i].toNat * u then (0, 0, 13) else (n + s[i].toNat * u, i + 1, 0)) = r) := by
            show _ = _
            rw [← HR2.out, if_neg h128]
          have hd0 : s[i].toNat = 0 → s[i].toNat * u = 0 := fun h => by rw [h, Nat.zero_mul]
          clear HR2 HU
          generalize s[i].toNat * u = q at *
          by_cases hz : s[i].toNat = 0 ∧ 0 < i
          · have HR4 : Hid (r = (0, 0, 13)) := by show _ = _; rw [← HR3.out, if_pos (.inl hz)]
            have z1 : ((s[i].toNat : Int) == 0) = true := by simp; exact_mod_cast hz.1
            have z2 : (0 : Int) < (i : Int) := by omega
            clear HR3 hd0 hz
            go_wp2
            go_ret3
            exact ⟨by rw [HR4.out]; rfl, rfl⟩
          · by_cases hb : 1099511627776 < n + q
            · have HR4 : Hid (r = (0, 0, 13)) := by show _ = _; rw [← HR3.out, if_pos (.inr hb)]
              have z3 : (1099511627776 : Int) < ((n + q : Nat) : Int) := by omega
              have z0 : ¬ s[i].toNat = 0 := fun e => by have := hd0 e; omega
              have z1 : ((s[i].toNat : Int) == 0) = false := by simpa using z0
              clear HR3 hd0 hz z0
              go_wp2
              go_ret3
              exact ⟨by rw [HR4.out]; rfl, rfl⟩
            · have HR4 : Hid (r = (n + q, i + 1, 0)) := by show _ = _; rw [← HR3.out, if_neg (by rintro (h | h); exact hz h; exact hb h)]
              have z3 : ¬ (1099511627776 : Int) < ((n + q : Nat) : Int) := by omega
              by_cases z0 : s[i].toNat = 0
              · have hi0 : i = 0 := by
                  rcases Nat.eq_zero_or_pos i with h | h
                  · exact h
                  · exact absurd ⟨z0, h⟩ hz
                have z2 : ¬ (0 : Int) < (i : Int) := by omega
                have z1 : ((s[i].toNat : Int) == 0) = true := by simp; exact_mod_cast z0
                clear hi0
                clear HR3 hd0 hz z0
                go_wp2
                go_ret3
                exact ⟨by rw [HR4.out]; first | rfl | (simp [gI]; done) | (simp [gI]; omega), rfl⟩
              · have z1 : ((s[i].toNat : Int) == 0) = false := by simpa using z0
                clear HR3 hd0 hz z0
                go_wp2
                go_ret3
                exact ⟨by rw [HR4.out]; rfl, rfl⟩
      · have HR2 : Hid (r = (0, 0, 12)) := by
          show _ = _
          rw [← HR.out, show 6 - i = (5 - i) + 1 by omega, getF_end (show s.data.toList.length ≤ i by have := HL.out; omega)]
        have hge : (s.size : Int) ≤ (i : Int) := by omega
        clear HR HU hs
        go_wp2
        go_ret3
        exact ⟨by rw [HR2.out]; rfl, rfl⟩
    · have h6' : i = 6 := by omega
      subst h6'
      have HR2 : Hid (r = (0, 0, 13)) := by show _ = _; rw [← HR.out]; rfl
      clear HR HU
      go_wp2
      go_ret3
      exact ⟨by rw [HR2.out]; rfl, rfl⟩

set_option maxRecDepth 100000 in
set_option maxHeartbeats 4000000 in
theorem getText_any (s : ByteArray) (w : World) (hs : s.size ≤ 9000000000000000000) : Calls Try.prog 112 #[.string s] w fun e w' => e = gT (getT s.data.toList) ∧ w' = w := by
  have CI := Lib.hid (getInt_any s w)
  have HL : s.data.toList.length = s.size := rfl
  obtain ⟨b1, b2⟩ := getI_bd s.data.toList
  have HT : Hid (getT s.data.toList = if (getI s.data.toList).2.2 ≠ 0 then ([], 0, (getI s.data.toList).2.2) else if 65536 < (getI s.data.toList).1 then ([], 0, 13) else if s.data.toList.length - (getI s.data.toList).2.1 < (getI s.data.toList).1 then ([], 0, 12) else ((s.data.toList.drop (getI s.data.toList).2.1).take (getI s.data.toList).1, (getI s.data.toList).2.1 + (getI s.data.toList).1, 0)) := rfl
  rw [HL] at b2
  rw [HL] at HT
  generalize getT s.data.toList = r at *
  generalize getI s.data.toList = q at *
  obtain ⟨n, k, e0⟩ := q
  simp only at HT b1 b2
  unfold gI at CI
  simp only at CI
  clear HL
  by_cases he : e0 = 0
  · subst he
    by_cases hn : 65536 < n
    · have HR : Hid (r = ([], 0, 13)) := by show _ = _; rw [HT.out, if_neg (by simp), if_pos hn]
      clear HT
      go_enter Try.func112, Try.ntmps112
      go_wp2_with fail
      refine CI.out.mono ?_
      rintro e w1 ⟨rfl, rfl⟩
      go_wp2
      go_ret3
      exact ⟨by rw [HR.out]; rfl, rfl⟩
    · have hn1 : ¬ (65536 : Int) < (n : Int) := by omega
      by_cases hk : s.size - k < n
      · have HR : Hid (r = ([], 0, 12)) := by show _ = _; rw [HT.out, if_neg (by simp), if_neg hn, if_pos hk]
        have hk1 : (s.size : Int) - k < n := by omega
        have hw : IntKind.i64.wrap ((s.size : Int) - k) = (s.size : Int) - k := i64w (by omega) (by omega)
        clear HT
        go_enter Try.func112, Try.ntmps112
        go_wp2_with fail
        refine CI.out.mono ?_
        rintro e w1 ⟨rfl, rfl⟩
        go_wp2
        go_ret3
        exact ⟨by rw [HR.out]; rfl, rfl⟩
      · have HR : Hid (r = ((s.data.toList.drop k).take n, k + n, 0)) := by show _ = _; rw [HT.out, if_neg (by simp), if_neg hn, if_neg hk]
        have hk1 : ¬ (s.size : Int) - k < n := by omega
        have hw : IntKind.i64.wrap ((s.size : Int) - k) = (s.size : Int) - k := i64w (by omega) (by omega)
        have hz1 : IntKind.i64.wrap ((k : Int) + n) = ((k + n : Nat) : Int) := by rw [i64w (by omega) (by omega)]; omega
        have HX := Lib.hid (extract_app s (o := k) (l := n) (by omega))
        have hle : k + n ≤ s.size := by omega
        clear HT
        go_enter Try.func112, Try.ntmps112
        go_wp2_with fail
        refine CI.out.mono ?_
        rintro e w1 ⟨rfl, rfl⟩
        go_wp2
        go_ret3
        exact ⟨by rw [HR.out]; unfold gT; rw [← HX.out]; rfl, rfl⟩
  · have HR : Hid (r = ([], 0, e0)) := by show _ = _; rw [HT.out, if_pos he]
    have hne : (e0 != 0) = true := by simpa using he
    clear HT
    go_enter Try.func112, Try.ntmps112
    go_wp2_with fail
    refine CI.out.mono ?_
    rintro e w1 ⟨rfl, rfl⟩
    go_wp2
    go_ret3
    exact ⟨by rw [HR.out]; rfl, rfl⟩
end Go.Proofs.Ytockmhhiomdlkaa

namespace Go.Proofs.Ytockmhhiomdlkaa
set_option linter.unusedVariables false
set_option linter.unusedSimpArgs false
open Go.RowKit

def StrE (l : List UInt8) (w0 : World) (e : Ending) (w : World) : Prop := e = .returned (.string (strB l)) ∧ Below w0.heap.size w0 w
theorem conv_one {P : Program} (W : World) (src e dst : TypeId) (hs : P.underlying src = some (.slice e)) (he : P.underlying e = some (.int .u8)) (hd : P.underlying dst = some .string) (g : Nat) (x : UInt8) (cap : Nat)
    (hc : W.cell? ⟨g, 0, none⟩ = some (.int .u8 (x.toNat : Int))) : (convert src dst (.slice (some ⟨g, 0, none⟩) 1 cap)).run P W = .ok (.string (strB [x])) W :=
  run_convert_bytes_back W src dst e ⟨g, 0, none⟩ cap [x] hs he hd fun j hj => by
    have : j = 0 := by simpa using hj
    subst this
    exact hc

set_option maxRecDepth 100000 in
set_option maxHeartbeats 4000000 in
theorem rput_any : ∀ (m : Nat) (w : World), m ≤ 9000000000000000000 → Calls Try.prog 90 #[.int .i64 m] w (StrE (digL m) w) := by
  intro m
  induction m using Nat.strongRecOn with
  | ind m ih =>
    intro w hm
    by_cases h : m < 128
    · have hx : (UInt8.ofNat m).toNat = m := UInt8.toNat_ofNat_of_lt' (by simp [UInt8.size]; omega)
      have hlt : (m : Int) < 128 := by omega
      have HD : Hid (digL m = [UInt8.ofNat m]) := digL_last h
      have hbl := Blk.new w #[.int .u8 (m : Int)] 5
      have hcv := conv_one (P := Try.prog) (w.alloc (.cells #[.int .u8 (m : Int)] 5)) 100 5 9 Try.underlying100 Try.underlying5 Try.underlying9 w.heap.size (UInt8.ofNat m) 1 (by rw [hx]; exact hbl.cell (j := 0) rfl)
      have HE : Hid (StrE (digL m) w (.returned (.string (strB [UInt8.ofNat m]))) (w.alloc (.cells #[.int .u8 (m : Int)] 5))) := by
        show StrE _ _ _ _
        rw [HD.out]
        exact ⟨rfl, (Below.refl _ _).alloc (Nat.le_refl _) _⟩
      clear ih hbl
      generalize UInt8.ofNat m = d at *
      go_enter Try.func90, Try.ntmps90
      go_wp2
      go_ret
      exact HE.out
    · have HD : Hid (UInt8.ofNat (m % 128 + 128) :: digL (m / 128) = digL m) := (digL_more h).symm
      have hlt : ¬ (m : Int) < 128 := by omega
      have hx : (UInt8.ofNat (m % 128 + 128)).toNat = m % 128 + 128 := UInt8.toNat_ofNat_of_lt' (by simp [UInt8.size]; omega)
      have IH := Lib.hid (fun w => ih (m / 128) (by omega) w (by omega))
      obtain ⟨r, hr⟩ : ∃ r, r = m % 128 := ⟨_, rfl⟩
      obtain ⟨q, hq⟩ : ∃ q, q = m % 128 + 128 := ⟨_, rfl⟩
      have w1 : (m : Int).tmod 128 = (r : Int) := by rw [Int.tmod_eq_emod_of_nonneg (by omega)]; omega
      have w2 : IntKind.i64.wrap (128 + (r : Int)) = (q : Int) := by rw [i64w (by omega) (by omega)]; omega
      have w3 : IntKind.u8.wrap (q : Int) = ((UInt8.ofNat (m % 128 + 128)).toNat : Int) := by
        rw [hx, ← hq]
        exact IntWalk.u8_in _ (by omega)
      have w4 : IntKind.i64.wrap ((m : Int) / 128) = ((m / 128 : Nat) : Int) := by rw [i64w (by omega) (by omega)]; omega
      have hap := strB_append [UInt8.ofNat (m % 128 + 128)] (digL (m / 128))
      have hdl := digL_len (m / 128) 8 (by omega)
      have hz : ¬ 9223372036854775807 < (strB [UInt8.ofNat (m % 128 + 128)]).size + (strB (digL (m / 128))).size := by rw [strB_size, strB_size]; simp only [List.length_singleton]; omega
      clear ih hx hdl hr hq
      generalize UInt8.ofNat (m % 128 + 128) = d at *
      go_enter Try.func90, Try.ntmps90
      go_wp2_with fail
      refine AtS.start (S := fun _ => True) (by kernel_rfl) trivial 9 ?_
      have k0 := (Below.refl w.heap.size w).drew
      generalize w.drew = W at *
      (refine AtS.free (i := 0) (v := ?_) (by simp only [List.getElem?_toArray, List.getElem?_cons_succ, List.getElem?_cons_zero]; rfl) (by kernel_rfl) (by kernel_rfl) (by kernel_rfl) (fun _ _ _ h => h) (by kernel_rfl) (Or.inl ⟨by rfl, fun w _ => ?_⟩) ?_; rotate_left; (go_simp; try with_reducible rfl); simp only [Act.put, List.setIfInBounds_toArray, List.set_cons_zero, List.set_cons_succ])
      (refine AtS.free (i := 1) (v := ?_) (by simp only [List.getElem?_toArray, List.getElem?_cons_succ, List.getElem?_cons_zero]; rfl) (by kernel_rfl) (by kernel_rfl) (by kernel_rfl) (fun _ _ _ h => h) (by kernel_rfl) (Or.inl ⟨by rfl, fun w _ => ?_⟩) ?_; rotate_left; (go_simp; try with_reducible rfl); simp only [Act.put, List.setIfInBounds_toArray, List.set_cons_zero, List.set_cons_succ])
      (refine AtS.free (i := 2) (v := ?_) (by simp only [List.getElem?_toArray, List.getElem?_cons_succ, List.getElem?_cons_zero]; rfl) (by kernel_rfl) (by kernel_rfl) (by kernel_rfl) (fun _ _ _ h => h) (by kernel_rfl) (Or.inl ⟨by rfl, fun w _ => ?_⟩) ?_; rotate_left; (go_simp; try with_reducible rfl); simp only [Act.put, List.setIfInBounds_toArray, List.set_cons_zero, List.set_cons_succ])
      (refine AtS.free (i := 3) (v := ?_) (by simp only [List.getElem?_toArray, List.getElem?_cons_succ, List.getElem?_cons_zero]; rfl) (by kernel_rfl) (by kernel_rfl) (by kernel_rfl) (fun _ _ _ h => h) (by kernel_rfl) (Or.inl ⟨by rfl, fun w _ => ?_⟩) ?_; rotate_left; (go_simp; try with_reducible rfl); simp only [Act.put, List.setIfInBounds_toArray, List.set_cons_zero, List.set_cons_succ])
      (refine AtS.free (i := 6) (v := ?_) (by simp only [List.getElem?_toArray, List.getElem?_cons_succ, List.getElem?_cons_zero]; rfl) (by kernel_rfl) (by kernel_rfl) (by kernel_rfl) (fun _ _ _ h => h) (by kernel_rfl) (Or.inl ⟨by rfl, fun w _ => ?_⟩) ?_; rotate_left; (go_simp; try with_reducible rfl); simp only [Act.put, List.setIfInBounds_toArray, List.set_cons_zero, List.set_cons_succ])
      (refine AtS.free (i := 7) (v := ?_) (by simp only [List.getElem?_toArray, List.getElem?_cons_succ, List.getElem?_cons_zero]; rfl) (by kernel_rfl) (by kernel_rfl) (by kernel_rfl) (fun _ _ _ h => h) (by kernel_rfl) (Or.inl ⟨by rfl, fun w _ => ?_⟩) ?_; rotate_left; (go_simp; try with_reducible rfl); simp only [Act.put, List.setIfInBounds_toArray, List.set_cons_zero, List.set_cons_succ])
      refine AtS.two (i := 4) (j := 8) (by simp only [List.getElem?_toArray, List.getElem?_cons_succ, List.getElem?_cons_zero]; rfl) (by simp only [List.getElem?_toArray, List.getElem?_cons_succ, List.getElem?_cons_zero]; rfl) (by kernel_rfl) (by rfl) (by rfl) ?_ ?_
      · intro K hK
        go_simp
        have k1 := k0.alloc k0.size (.cells #[.int .u8 (d.toNat : Int)] 5)
        have c1 := (Blk.new W #[.int .u8 (d.toNat : Int)] 5)
        refine hK _ _ trivial ?_
        clear hK K
        refine AtS.two (i := 5) (j := 8) (by simp only [List.getElem?_toArray, List.getElem?_cons_succ, List.getElem?_cons_zero]; rfl) (by simp only [List.getElem?_toArray, List.getElem?_cons_succ, List.getElem?_cons_zero]; rfl) (by kernel_rfl) (by rfl) (by rfl) ?_ ?_
        · intro K hK
          have hcv := conv_one (P := Try.prog) (W.alloc (.cells #[.int .u8 (d.toNat : Int)] 5)) 100 5 9 Try.underlying100 Try.underlying5 Try.underlying9 W.heap.size d 1 (c1.cell (j := 0) rfl)
          go_simp
          refine hK _ _ trivial ?_
          clear hK K
          clear hcv c1
          refine AtS.only (i := 8) (by simp only [List.getElem?_toArray, List.getElem?_cons_succ, List.getElem?_cons_zero]; rfl) (by kernel_rfl) (by rfl) ?_
          intro K hK
          go_simp
          refine (IH.out _).mono ?_
          rintro e w2 ⟨rfl, hb⟩
          have k2 := k1.trans (hb.mono k1.size)
          refine hK _ _ trivial ?_
          clear hK K
          clear hb k1
          refine AtS.late (i := 9) (by simp only [List.getElem?_toArray, List.getElem?_cons_succ, List.getElem?_cons_zero]; rfl) (by kernel_rfl) (by rfl) (by rfl) ?_
          intro K hK
          go_simp
          refine hK _ _ ?_
          clear hK K
          refine AtS.late (i := 10) (by simp only [List.getElem?_toArray, List.getElem?_cons_succ, List.getElem?_cons_zero]; rfl) (by kernel_rfl) (by rfl) (by rfl) ?_
          intro K hK
          go_simp
          refine hK _ _ (AtS.done (by kernel_rfl) (NoPanic.normal ?_))
          clear hK K
          have HE := Lib.hid (show StrE (digL m) w (.returned (.string (strB (d :: digL (m / 128))))) _ from ⟨by rw [HD.out], k2⟩)
          clear k2
          go_wp2
          go_ret
          exact HE.out
        · intro K hK
          go_simp
          refine (IH.out _).mono ?_
          rintro e w2 ⟨rfl, hb⟩
          have k2 := k1.trans (hb.mono k1.size)
          have c2 := c1.keep hb
          refine hK _ _ trivial ?_
          clear hK K
          clear hb k1 c1
          refine AtS.only (i := 5) (by simp only [List.getElem?_toArray, List.getElem?_cons_succ, List.getElem?_cons_zero]; rfl) (by kernel_rfl) (by rfl) ?_
          intro K hK
          have hcv := conv_one (P := Try.prog) w2 100 5 9 Try.underlying100 Try.underlying5 Try.underlying9 W.heap.size d 1 (c2.cell (j := 0) rfl)
          go_simp
          refine hK _ _ trivial ?_
          clear hK K
          clear hcv c2
          refine AtS.late (i := 9) (by simp only [List.getElem?_toArray, List.getElem?_cons_succ, List.getElem?_cons_zero]; rfl) (by kernel_rfl) (by rfl) (by rfl) ?_
          intro K hK
          go_simp
          refine hK _ _ ?_
          clear hK K
          refine AtS.late (i := 10) (by simp only [List.getElem?_toArray, List.getElem?_cons_succ, List.getElem?_cons_zero]; rfl) (by kernel_rfl) (by rfl) (by rfl) ?_
          intro K hK
          go_simp
          refine hK _ _ (AtS.done (by kernel_rfl) (NoPanic.normal ?_))
          clear hK K
          have HE := Lib.hid (show StrE (digL m) w (.returned (.string (strB (d :: digL (m / 128))))) _ from ⟨by rw [HD.out], k2⟩)
          clear k2
          go_wp2
          go_ret
          exact HE.out
      · intro K hK
        go_simp
        refine (IH.out _).mono ?_
        rintro e w2 ⟨rfl, hb⟩
        have k1 := k0.trans (hb.mono k0.size)
        refine hK _ _ trivial ?_
        clear hK K
        clear hb k0
        refine AtS.only (i := 4) (by simp only [List.getElem?_toArray, List.getElem?_cons_succ, List.getElem?_cons_zero]; rfl) (by kernel_rfl) (by rfl) ?_
        intro K hK
        go_simp
        have k2 := k1.alloc k1.size (.cells #[.int .u8 (d.toNat : Int)] 5)
        have c1 := (Blk.new w2 #[.int .u8 (d.toNat : Int)] 5)
        refine hK _ _ trivial ?_
        clear hK K
        clear k1
        refine AtS.only (i := 5) (by simp only [List.getElem?_toArray, List.getElem?_cons_succ, List.getElem?_cons_zero]; rfl) (by kernel_rfl) (by rfl) ?_
        intro K hK
        have hcv := conv_one (P := Try.prog) (w2.alloc (.cells #[.int .u8 (d.toNat : Int)] 5)) 100 5 9 Try.underlying100 Try.underlying5 Try.underlying9 w2.heap.size d 1 (c1.cell (j := 0) rfl)
        go_simp
        refine hK _ _ trivial ?_
        clear hK K
        clear hcv c1
        refine AtS.late (i := 9) (by simp only [List.getElem?_toArray, List.getElem?_cons_succ, List.getElem?_cons_zero]; rfl) (by kernel_rfl) (by rfl) (by rfl) ?_
        intro K hK
        go_simp
        refine hK _ _ ?_
        clear hK K
        refine AtS.late (i := 10) (by simp only [List.getElem?_toArray, List.getElem?_cons_succ, List.getElem?_cons_zero]; rfl) (by kernel_rfl) (by rfl) (by rfl) ?_
        intro K hK
        go_simp
        refine hK _ _ (AtS.done (by kernel_rfl) (NoPanic.normal ?_))
        clear hK K
        have HE := Lib.hid (show StrE (digL m) w (.returned (.string (strB (d :: digL (m / 128))))) _ from ⟨by rw [HD.out], k2⟩)
        clear k2
        go_wp2
        go_ret
        exact HE.out

end Go.Proofs.Ytockmhhiomdlkaa

namespace Go.Proofs.Ytockmhhiomdlkaa
set_option linter.unusedVariables false
set_option linter.unusedSimpArgs false
open Go.RowKit

set_option maxRecDepth 100000 in
set_option maxHeartbeats 1000000 in
theorem rputInt_any (n : Int) (w : World) : Calls Try.prog 71 #[.int .i64 n] w fun e w' => e = .returned (.tuple #[.string (strB (putI n).1), .int .i64 (putI n).2]) ∧ Below w.heap.size w w' := by
  by_cases h : 0 ≤ n ∧ n ≤ 1099511627776
  · have hp : putI n = (digL n.toNat, 0) := if_pos h
    obtain ⟨m, rfl⟩ : ∃ m : Nat, n = m := ⟨n.toNat, by omega⟩
    rw [hp, Int.toNat_natCast]
    have h1 : ¬ (m : Int) < 0 := by omega
    have h2 : ¬ (1099511627776 : Int) < (m : Int) := by omega
    have CP := Lib.hid (rput_any m w (by omega))
    clear hp h
    go_enter Try.func71, Try.ntmps71
    go_wp2_with fail
    refine CP.out.mono ?_
    rintro e w1 ⟨rfl, hb⟩
    have HB := Lib.hid hb
    clear CP hb
    go_wp2
    go_ret2
    exact ⟨rfl, HB.out⟩
  · have hp : putI n = ([], 2) := if_neg h
    rw [hp]
    by_cases h0 : n < 0
    · clear hp h
      go_enter Try.func71, Try.ntmps71
      go_wp2
      go_ret2
      exact ⟨rfl, Below.refl _ _⟩
    · have h1 : (1099511627776 : Int) < n := by omega
      clear hp h
      go_enter Try.func71, Try.ntmps71
      go_wp2
      go_ret2
      exact ⟨rfl, Below.refl _ _⟩
set_option maxRecDepth 100000 in
set_option maxHeartbeats 1000000 in
theorem rputText_any (s : List UInt8) (w : World) (hl : s.length ≤ 1000000000000) : Calls Try.prog 91 #[.string (strB s)] w fun e w' => e = .returned (.tuple #[.string (strB (putT s).1), .int .i64 (putT s).2]) ∧ Below w.heap.size w w' := by
  have hz := strB_size s
  by_cases h : s.length ≤ 65536
  · have hp : putT s = (digL s.length ++ s, 0) := if_pos h
    rw [hp]
    have hd : ¬ (65536 : Int) < ((strB s).size : Int) := by rw [hz]; omega
    have CP := rput_any (strB s).size w (by omega)
    have hdl := digL_len s.length 8 (by omega)
    rw [hz] at CP
    have CP' := Lib.hid CP
    have hap := strB_append (digL s.length) s
    have hsz : ¬ 9223372036854775807 < (strB (digL s.length)).size + (strB s).size := by rw [strB_size, strB_size]; omega
    clear hp h hdl CP
    rw [hz] at hd
    go_enter Try.func91, Try.ntmps91
    go_wp2_with fail
    refine CP'.out.mono ?_
    rintro e w1 ⟨rfl, hb⟩
    have HB := Lib.hid hb
    clear CP' hb
    go_wp2
    go_ret2
    exact ⟨rfl, HB.out⟩
  · have hp : putT s = ([], 4) := if_neg h
    rw [hp]
    have hd : (65536 : Int) < ((strB s).size : Int) := by rw [hz]; omega
    clear hp h hz
    go_enter Try.func91, Try.ntmps91
    go_wp2
    go_ret2
    exact ⟨rfl, Below.refl _ _⟩

set_option maxRecDepth 100000 in
set_option maxHeartbeats 4000000 in
theorem rgetInt_any (s : ByteArray) (w : World) : Calls Try.prog 103 #[.string s] w fun e w' => e = gI (getI s.data.toList) ∧ Drawn w w' := by
  have HL : Hid (s.data.toList.length = s.size) := rfl
  have HR0 : Hid (getF (6 - 0) 0 0 1 (s.data.toList.drop 0) = getI s.data.toList) := rfl
  have HU0 : Hid (P128 0 1) := rfl
  generalize getI s.data.toList = r at *
  go_enter Try.func103, Try.ntmps103
  go_wp2
  go_loopw [5, 6, 7] (fun ni ui ii wr => ∃ i n u : Nat, i ≤ 6 ∧ i ≤ s.size ∧ ni = .int .i64 n ∧ ui = .int .i64 u ∧ ii = .int .i64 i ∧ n < u ∧ Hid (P128 i u) ∧ Hid (getF (6 - i) i n u (s.data.toList.drop i) = r) ∧ Drawn w wr) (fun _ _ ii _ => 6 - (intOf ii).toNat)
  case atStart => exact ⟨0, 0, 1, by omega, by omega, rfl, rfl, rfl, by omega, HU0, HR0, Drawn.refl _⟩
  case round =>
    clear HR0 HU0
    obtain ⟨i, n, u, hi, hsi, rfl, rfl, rfl, hn, HU, HR, hd0⟩ := hrel
    have HDr := Lib.hid hd0
    clear hd0
    by_cases h6 : i < 6
    · have hu : u ≤ 34359738368 := by rw [show u = 128 ^ i from HU.out]; exact pow128 (by omega)
      by_cases hs : i < s.size
      · have hd := s[i].toNat_lt
        obtain ⟨r1, hr1⟩ : ∃ r1, r1 = s[i].toNat % 128 := ⟨_, rfl⟩
        have hr2 : r1 < 128 := by omega
        have wm : ((s[i].toNat : Int)).tmod 128 = (r1 : Int) := by rw [Int.tmod_eq_emod_of_nonneg (by omega)]; omega
        obtain ⟨q, hqe⟩ : ∃ q, q = u * r1 := ⟨_, rfl⟩
        have hq : q ≤ 127 * u := by rw [hqe, Nat.mul_comm 127]; exact Nat.mul_le_mul_left _ (by omega)
        have hw2 : IntKind.i64.wrap ((u : Int) * (r1 : Int)) = (q : Int) := by rw [← Int.natCast_mul, ← hqe, i64w (by omega) (by omega)]
        have hw3 : IntKind.i64.wrap ((n : Int) + (q : Int)) = ((n + q : Nat) : Int) := by rw [← Int.natCast_add, i64w (by omega) (by omega)]
        have hw4 : IntKind.i64.wrap ((u : Int) * 128) = ((u * 128 : Nat) : Int) := by rw [i64w (by omega) (by omega)]; omega
        have hne : ((i : Int) == (s.size : Int)) = false := by simp; omega
        by_cases h128 : 128 ≤ s[i].toNat
        · have hqs : (s[i].toNat - 128) * u = q := by rw [hqe, Nat.mul_comm]; congr 1; omega
          have HR3 : Hid (getF (6 - (i + 1)) (i + 1) (n + q) (u * 128) (s.data.toList.drop (i + 1)) = r) := by
            show _ = _
            rw [← HR.out, show 6 - i = (5 - i) + 1 by omega, getF_at (show i < s.data.toList.length from hs)]
            show _ = if 128 ≤ s[i].toNat then getF (5 - i) (i + 1) (n + (s[i].toNat - 128) * u) (u * 128) (s.data.toList.drop (i + 1)) else _
            rw [if_pos h128, hqs, show 6 - (i + 1) = 5 - i by omega]
          have h128' : ¬ (s[i].toNat : Int) < 128 := by omega
          have HU2 : Hid (P128 (i + 1) (u * 128)) := by show _ = _; rw [show u = 128 ^ i from HU.out, Nat.pow_succ]
          have hn2 : n + q < u * 128 := by omega
          clear HR HU hqe hr1 hqs
          go_wp2
          go_roundw
          case rel => exact ⟨i + 1, n + q, u * 128, by omega, by omega, by go_num, by go_num, by go_num, hn2, HU2, HR3, HDr.out⟩
          case measure => simp [intOf]; omega
        · have hqs : s[i].toNat * u = q := by rw [hqe, Nat.mul_comm]; congr 1; omega
          have h128' : (s[i].toNat : Int) < 128 := by omega
          have HR3 : Hid ((if (s[i].toNat = 0 ∧ 0 < i) ∨ 1099511627776 < n + q then (0, 0, 13) else (n + q, i + 1, 0)) = r) := by
            show _ = _
            rw [← HR.out, show 6 - i = (5 - i) + 1 by omega, getF_at (show i < s.data.toList.length from hs)]
            show _ = if 128 ≤ s[i].toNat then _ else if (s[i].toNat = 0 ∧ 0 < i) ∨ 1099511627776 < n + s[i].toNat * u then (0, 0, 13) else (n + s[i].toNat * u, i + 1, 0)
            rw [if_neg h128, hqs]
          have hd0 : s[i].toNat = 0 → q = 0 := fun h => by rw [← hqs, h, Nat.zero_mul]
          clear HR HU hqe hr1 hqs h128
          by_cases hb : 1099511627776 < n + q
          · have HR4 : Hid (r = (0, 0, 13)) := by show _ = _; rw [← HR3.out, if_pos (.inr hb)]
            have z3 : (1099511627776 : Int) < ((n + q : Nat) : Int) := by omega
            clear HR3 hd0
            go_wp2
            go_ret3
            exact ⟨by rw [HR4.out]; rfl, HDr.out⟩
          · have z3 : ¬ (1099511627776 : Int) < ((n + q : Nat) : Int) := by omega
            by_cases hi0 : 0 < i
            · have z2 : (0 : Int) < (i : Int) := by omega
              by_cases hz : s[i].toNat = 0
              · have HR4 : Hid (r = (0, 0, 13)) := by show _ = _; rw [← HR3.out, if_pos (.inl ⟨hz, hi0⟩)]
                have z1 : ((s[i].toNat : Int) == 0) = true := by simp; exact_mod_cast hz
                clear HR3 hd0 hz hb hi0
                go_wp2
                go_ret3
                exact ⟨by rw [HR4.out]; rfl, HDr.out⟩
              · have HR4 : Hid (r = (n + q, i + 1, 0)) := by show _ = _; rw [← HR3.out, if_neg (by rintro (h | h); exact hz h.1; exact hb h)]
                have z1 : ((s[i].toNat : Int) == 0) = false := by simpa using hz
                clear HR3 hd0 hz hb hi0
                go_wp2
                go_ret3
                exact ⟨by rw [HR4.out]; first | rfl | (simp [gI]; done) | (simp [gI]; omega), HDr.out⟩
            · have HR4 : Hid (r = (n + q, i + 1, 0)) := by show _ = _; rw [← HR3.out, if_neg (by rintro (h | h); exact hi0 h.2; exact hb h)]
              have z2 : ¬ (0 : Int) < (i : Int) := by omega
              clear HR3 hd0 hb hi0
              go_wp2
              go_ret3
              exact ⟨by rw [HR4.out]; first | rfl | (simp [gI]; done) | (simp [gI]; omega), HDr.out⟩
      · have hie : i = s.size := by omega
        have HR2 : Hid (r = (0, 0, 12)) := by
          show _ = _
          rw [← HR.out, show 6 - i = (5 - i) + 1 by omega, getF_end (show s.data.toList.length ≤ i by have := HL.out; omega)]
        have hne : ((i : Int) == (s.size : Int)) = true := by simp; omega
        clear HR HU hs hie
        go_wp2
        go_ret3
        exact ⟨by rw [HR2.out]; rfl, HDr.out⟩
    · have h6' : i = 6 := by omega
      subst h6'
      have HR2 : Hid (r = (0, 0, 13)) := by show _ = _; rw [← HR.out]; rfl
      clear HR HU
      go_wp2
      go_ret3
      exact ⟨by rw [HR2.out]; rfl, HDr.out⟩

set_option maxRecDepth 100000 in
set_option maxHeartbeats 4000000 in
theorem rgetText_any (s : ByteArray) (w : World) (hs : s.size ≤ 9000000000000000000) : Calls Try.prog 114 #[.string s] w fun e w' => e = gT (getT s.data.toList) ∧ Drawn w w' := by
  have CI := Lib.hid (rgetInt_any s w)
  have HL : s.data.toList.length = s.size := rfl
  obtain ⟨b1, b2⟩ := getI_bd s.data.toList
  have HT : Hid (getT s.data.toList = if (getI s.data.toList).2.2 ≠ 0 then ([], 0, (getI s.data.toList).2.2) else if 65536 < (getI s.data.toList).1 then ([], 0, 13) else if s.data.toList.length - (getI s.data.toList).2.1 < (getI s.data.toList).1 then ([], 0, 12) else ((s.data.toList.drop (getI s.data.toList).2.1).take (getI s.data.toList).1, (getI s.data.toList).2.1 + (getI s.data.toList).1, 0)) := rfl
  rw [HL] at b2
  rw [HL] at HT
  generalize getT s.data.toList = r at *
  generalize getI s.data.toList = q at *
  obtain ⟨n, k, e0⟩ := q
  simp only at HT b1 b2
  unfold gI at CI
  simp only at CI
  clear HL
  by_cases he : e0 = 0
  · subst he
    by_cases hn : 65536 < n
    · have HR : Hid (r = ([], 0, 13)) := by show _ = _; rw [HT.out, if_neg (by simp), if_pos hn]
      clear HT
      go_enter Try.func114, Try.ntmps114
      go_wp2_with fail
      refine CI.out.mono ?_
      rintro e w1 ⟨rfl, hdr⟩
      have HDr := Lib.hid hdr
      clear hdr CI
      go_wp2
      go_ret3
      exact ⟨by rw [HR.out]; rfl, HDr.out⟩
    · have hn1 : ¬ (65536 : Int) < (n : Int) := by omega
      by_cases hk : s.size - k < n
      · have HR : Hid (r = ([], 0, 12)) := by show _ = _; rw [HT.out, if_neg (by simp), if_neg hn, if_pos hk]
        have hk1 : (s.size : Int) - k < n := by omega
        have hw : IntKind.i64.wrap ((s.size : Int) - k) = (s.size : Int) - k := i64w (by omega) (by omega)
        clear HT
        go_enter Try.func114, Try.ntmps114
        go_wp2_with fail
        refine CI.out.mono ?_
        rintro e w1 ⟨rfl, hdr⟩
        have HDr := Lib.hid hdr
        clear hdr CI
        go_wp2
        go_ret3
        exact ⟨by rw [HR.out]; rfl, HDr.out⟩
      · have HR : Hid (r = ((s.data.toList.drop k).take n, k + n, 0)) := by show _ = _; rw [HT.out, if_neg (by simp), if_neg hn, if_neg hk]
        have hk1 : ¬ (s.size : Int) - k < n := by omega
        have hw : IntKind.i64.wrap ((s.size : Int) - k) = (s.size : Int) - k := i64w (by omega) (by omega)
        have hz1 : IntKind.i64.wrap ((k : Int) + n) = ((k + n : Nat) : Int) := by rw [i64w (by omega) (by omega)]; omega
        have HX := Lib.hid (extract_app s (o := k) (l := n) (by omega))
        have hle : k + n ≤ s.size := by omega
        clear HT
        go_enter Try.func114, Try.ntmps114
        go_wp2_with fail
        refine CI.out.mono ?_
        rintro e w1 ⟨rfl, hdr⟩
        have HDr := Lib.hid hdr
        clear hdr CI
        go_wp2
        go_ret3
        exact ⟨by rw [HR.out]; unfold gT; rw [← HX.out]; rfl, HDr.out⟩
  · have HR : Hid (r = ([], 0, e0)) := by show _ = _; rw [HT.out, if_pos he]
    have hne : (e0 != 0) = true := by simpa using he
    clear HT
    go_enter Try.func114, Try.ntmps114
    go_wp2_with fail
    refine CI.out.mono ?_
    rintro e w1 ⟨rfl, hdr⟩
    have HDr := Lib.hid hdr
    clear hdr CI
    go_wp2
    go_ret3
    exact ⟨by rw [HR.out]; rfl, HDr.out⟩
end Go.Proofs.Ytockmhhiomdlkaa

namespace Go.Proofs.Ytockmhhiomdlkaa
set_option linter.unusedVariables false
set_option linter.unusedSimpArgs false
open Go.RowKit

/-- A slice that reads as a list of texts. -/
def Txs (w : World) (v : Value) (l : List (List UInt8)) : Prop := Strs w v (l.map strB)
theorem Txs.keep {w w' : World} {v : Value} {l : List (List UInt8)} (h : Txs w v l) (k : Keeps w w') : Txs w' v l := Strs.keep h k
theorem Txs.form {w : World} {v : Value} {l : List (List UInt8)} (h : Txs w v l) : ∃ A c, v = .slice A l.length c ∧ l.length ≤ c ∧ c ≤ 9223372036854775807 := by
  have := Strs.form h
  rwa [List.length_map] at this
theorem Txs.nil (w : World) : Txs w (.slice none 0 0) [] := Sl.nil _ _ _
theorem Txs.get {w : World} {l : List (List UInt8)} {A : Option Addr} {c n : Nat} (h : Txs w (.slice A n c) l) {i : Nat} {t : List UInt8} (hi : l[i]? = some t) : ∃ b off, A = some ⟨b, off, none⟩ ∧ w.cell? ⟨b, off + i, none⟩ = some (.string (strB t)) := by
  obtain ⟨hlt, rfl⟩ := List.getElem?_eq_some_iff.1 hi
  obtain ⟨b, off, e, hc⟩ := Strs.get h (i := i) (by rw [List.length_map]; exact hlt)
  rw [List.getElem_map] at hc
  exact ⟨b, off, e, hc⟩
/-- A row of texts that the call owns. -/
def txC (t : List UInt8) : List Value := [.string (strB t)]
theorem elems_tx : ∀ l : List (List UInt8), Elems 1 Str1 (l.map strB) (l.flatMap txC)
  | [] => rfl
  | t :: l => ⟨txC t, l.flatMap txC, by rw [List.flatMap_cons], rfl, rfl, elems_tx l⟩
theorem txs_own {w : World} {B : Nat} {v : Value} {l : List (List UInt8)} (h : w.ownsRow B 9 1 v l.length (l.flatMap txC)) : Txs w v l := by
  have : Ow w B 9 1 Str1 v (l.map strB) := ⟨l.flatMap txC, by rw [List.length_map]; exact h, elems_tx l⟩
  exact this.sl
theorem Try.info_tx : (Try.prog.info? 9).map (fun i => (i.zero, i.size, i.bytes)) = some (some (.string ⟨#[]⟩), 1, 16) := by kernel_rfl
theorem tx_snoc (l : List (List UInt8)) (t : List UInt8) : (l ++ [t]).flatMap txC = l.flatMap txC ++ [.string (strB t)] := by simp [txC]
def fnV (f : FuncId) : Value := .func (.func f) #[] #[]

set_option maxRecDepth 100000 in
set_option maxHeartbeats 1000000 in
theorem nextInt_any (s : ByteArray) (k : Nat) (hk : k ≤ s.size) (hs : s.size ≤ 1000000000000) (w : World) : Calls Try.prog 110 #[.string s, .int .i64 k, fnV 98] w fun e w' =>
    e = gI ((getI (s.data.toList.drop k)).1, k + (getI (s.data.toList.drop k)).2.1, (getI (s.data.toList.drop k)).2.2) ∧ w' = w := by
  have CI := getInt_any (s.extract k s.size) w
  rw [drop_str] at CI
  obtain ⟨b1, b2⟩ := getI_bd (s.data.toList.drop k)
  rw [List.length_drop, show s.data.toList.length = s.size from rfl] at b2
  generalize getI (s.data.toList.drop k) = q at *
  obtain ⟨n, c, e0⟩ := q
  simp only at b1 b2 CI ⊢
  unfold gI at CI ⊢
  simp only at CI ⊢
  have CI' := Lib.hid CI
  have c1 : (0 : Int) ≤ (k : Int) := by omega
  have c2 : (k : Int) ≤ (s.size : Int) := by omega
  have hz : IntKind.i64.wrap ((k : Int) + c) = ((k + c : Nat) : Int) := by rw [i64w (by omega) (by omega)]; omega
  clear CI
  unfold fnV
  go_enter Try.func110, Try.ntmps110
  go_wp2_with fail
  refine CI'.out.mono ?_
  rintro e w1 ⟨rfl, rfl⟩
  go_wp2
  go_ret3
  exact ⟨rfl, rfl⟩
set_option maxRecDepth 100000 in
set_option maxHeartbeats 1000000 in
theorem nextStr_any (s : ByteArray) (k : Nat) (hk : k ≤ s.size) (hs : s.size ≤ 1000000000000) (w : World) : Calls Try.prog 111 #[.string s, .int .i64 k, fnV 112] w fun e w' =>
    e = gT ((getT (s.data.toList.drop k)).1, k + (getT (s.data.toList.drop k)).2.1, (getT (s.data.toList.drop k)).2.2) ∧ w' = w := by
  have CI := getText_any (s.extract k s.size) w (by rw [ByteArray.size_extract]; omega)
  rw [drop_str] at CI
  have b2 : (getT (s.data.toList.drop k)).2.1 ≤ (s.data.toList.drop k).length := by
    rcases getT_err (s.data.toList.drop k) with h | h | h
    · have e : getT (s.data.toList.drop k) = ((getT (s.data.toList.drop k)).1, (getT (s.data.toList.drop k)).2.1, 0) := by rw [← h]
      obtain ⟨_, g2, g3⟩ := getT_dec e
      have := congrArg List.length g3
      rw [List.length_append] at this
      omega
    · rw [h]; simp
    · rw [h]; simp
  rw [List.length_drop, show s.data.toList.length = s.size from rfl] at b2
  generalize getT (s.data.toList.drop k) = q at *
  obtain ⟨n, c, e0⟩ := q
  simp only at b2 CI ⊢
  unfold gT at CI ⊢
  simp only at CI ⊢
  have CI' := Lib.hid CI
  have c1 : (0 : Int) ≤ (k : Int) := by omega
  have c2 : (k : Int) ≤ (s.size : Int) := by omega
  have hz : IntKind.i64.wrap ((k : Int) + c) = ((k + c : Nat) : Int) := by rw [i64w (by omega) (by omega)]; omega
  clear CI
  unfold fnV
  go_enter Try.func111, Try.ntmps111
  go_wp2_with fail
  refine CI'.out.mono ?_
  rintro e w1 ⟨rfl, rfl⟩
  go_wp2
  go_ret3
  exact ⟨rfl, rfl⟩

/-- An answer of GetTexts. -/
def TsE (r : List (List UInt8) × Nat × Int) (w0 : World) (e : Ending) (w : World) : Prop := ∃ v, e = .returned (.tuple #[v, .int .i64 (r.2.1 : Int), .int .i64 r.2.2]) ∧ Txs w v r.1 ∧ Below w0.heap.size w0 w
theorem TsE.nil {k : Int} {w0 w : World} (h : Below w0.heap.size w0 w) : TsE ([], 0, k) w0 (.returned (.tuple #[.slice none 0 0, .int .i64 0, .int .i64 k])) w := ⟨_, rfl, Txs.nil _, h⟩
def TsI (s : List UInt8) (m at_ : Nat) (l : List (List UInt8)) (R : List (List UInt8) × Nat × Int) : Prop := getTsA s m at_ l = R
theorem TsI.step {s : List UInt8} {m at_ : Nat} {l : List (List UInt8)} {R : List (List UInt8) × Nat × Int} (h : TsI s (m + 1) at_ l R) :
    (if (getT (s.drop at_)).2.2 ≠ 0 then ([], 0, (getT (s.drop at_)).2.2) else getTsA s m (at_ + (getT (s.drop at_)).2.1) (l ++ [(getT (s.drop at_)).1])) = R := h
theorem getT_bd (s : List UInt8) : (getT s).1.length ≤ 65536 ∧ (getT s).2.1 ≤ s.length ∧ ((getT s).2.2 = 0 → 1 ≤ (getT s).2.1) := by
  rcases getT_err s with h | h | h
  · have e : getT s = ((getT s).1, (getT s).2.1, 0) := by rw [← h]
    obtain ⟨g1, g2, g3⟩ := getT_dec e
    have := congrArg List.length g3
    rw [List.length_append] at this
    have hp := digL_pos (getT s).1.length
    rw [List.length_append] at g2
    exact ⟨g1, by rw [List.length_append] at this; omega, fun _ => by omega⟩
  · rw [h]; simp
  · rw [h]; simp

set_option maxRecDepth 100000 in
set_option maxHeartbeats 4000000 in
theorem getTexts_any (s : ByteArray) (w : World) (hs : s.size ≤ 100000000) : Calls Try.prog 99 #[.string s] w (TsE (getTs s.data.toList) w) := by
  obtain ⟨i1, hi1, hy0, hy1, hy2⟩ := info_parts Try.info_tx
  have CI := nextInt_any s 0 (by omega) (by omega) w
  rw [List.drop_zero] at CI
  have HL : Hid (s.data.toList.length = s.size) := rfl
  obtain ⟨b1, b2⟩ := getI_bd s.data.toList
  rw [HL.out] at b2
  have HX : Hid (getTs s.data.toList = if (getI s.data.toList).2.2 ≠ 0 then ([], 0, (getI s.data.toList).2.2) else if 1000 < (getI s.data.toList).1 then ([], 0, 13) else getTsA s.data.toList (getI s.data.toList).1 (getI s.data.toList).2.1 []) := rfl
  generalize getTs s.data.toList = r at *
  generalize getI s.data.toList = q at *
  obtain ⟨n, k0, e0⟩ := q
  simp only [Nat.zero_add] at HX b1 b2 CI
  unfold gI at CI
  simp only at CI
  have CI' := Lib.hid CI
  clear CI
  unfold fnV at CI'
  by_cases he : e0 = 0
  · subst he
    by_cases hn : 1000 < n
    · have HR : Hid (TsE r w (.returned (.tuple #[.slice none 0 0, .int .i64 0, .int .i64 13])) w) := by
        show TsE _ _ _ _
        rw [HX.out, if_neg (by simp), if_pos hn]
        exact TsE.nil (Below.refl _ _)
      have hn1 : (1000 : Int) < (n : Int) := by omega
      clear HX
      go_enter Try.func99, Try.ntmps99
      go_wp2_with fail
      refine CI'.out.mono ?_
      rintro e w1 ⟨rfl, rfl⟩
      go_wp2
      go_ret3
      exact HR.out
    · have hn1 : ¬ (1000 : Int) < (n : Int) := by omega
      have HC0 : Hid (TsI s.data.toList (n - 0) k0 [] r) := by
        show TsI _ _ _ _ _
        unfold TsI
        rw [HX.out, if_neg (by simp), if_neg hn]
        rfl
      clear HX
      go_enter Try.func99, Try.ntmps99
      go_wp2_with fail
      refine CI'.out.mono ?_
      rintro e w1 ⟨rfl, rfl⟩
      clear CI'
      go_wp2
      go_loopw [6, 8, 22] (fun ai vl ii wr => ∃ (k at_ : Nat) (l : List (List UInt8)), k ≤ n ∧ at_ ≤ s.size ∧ l.length ≤ k ∧ ii = .int .i64 k ∧ ai = .int .i64 at_ ∧ wr.ownsRow w1.heap.size 9 1 vl l.length (l.flatMap txC) ∧ Hid (TsI s.data.toList (n - k) at_ l r) ∧ Below w1.heap.size w1 wr) (fun _ _ ii _ => n - (intOf ii).toNat)
      case atStart => exact ⟨0, k0, [], by omega, b2, by simp, rfl, rfl, World.ownsRow_nil _ _ _ _, HC0, Below.refl _ _⟩
      case round =>
        clear HC0 b2
        obtain ⟨k, at_, l, hk, hat, hll, rfl, rfl, hown, HC, hbw⟩ := hrel
        have hsz := hbw.size
        by_cases hlt : k < n
        · have CO := nextStr_any s at_ hat (by omega) wr
          have HD := Lib.hid (TsI.step (show TsI s.data.toList ((n - (k + 1)) + 1) at_ l r by rw [show (n - (k + 1)) + 1 = n - k by omega]; exact HC.out))
          obtain ⟨x1, x2, x3⟩ := getT_bd (s.data.toList.drop at_)
          rw [List.length_drop, HL.out] at x2
          generalize getT (s.data.toList.drop at_) = q at *
          obtain ⟨t, c, e1⟩ := q
          simp only at HD x1 x2 x3 CO
          unfold gT at CO
          simp only at CO
          have CO' := Lib.hid CO
          have HO := Lib.hid hown
          have HB := Lib.hid hbw
          unfold fnV at CO'
          clear CO HC hbw hown
          by_cases he1 : e1 = 0
          · subst he1
            have HD2 : Hid (TsI s.data.toList (n - (k + 1)) (at_ + c) (l ++ [t]) r) := by
              show getTsA _ _ _ _ = _
              rw [← HD.out, if_neg (by simp)]
            have hac : at_ + c ≤ s.size := by omega
            clear HD x3
            go_wp2_with fail
            refine CO'.out.mono ?_
            rintro e w2 ⟨rfl, rfl⟩
            simp only
            clear CO'
            go_wp2_with (at_builtin; go_must (refine wpList_append_any _ rfl (.tmp 34) (.tmp 36) _ rfl w1.heap.size 9 i1 _ 1 16 Try.underlying22 hi1 hy0 hy1 hy2 rfl (by omega) u8 l.length _ rfl (HO.out.alloc _) _ 1 1 [.string (strB t)] rfl rfl (CellsAt.of_new _ _ _ _) (by simp [Value.oneCell']) (by omega) (by omega) (by simp; omega) ?_; intro v4 w4 hown4 hgr4 hat4))
            have HO4 : Hid (w4.ownsRow w1.heap.size 9 1 v4 (l ++ [t]).length ((l ++ [t]).flatMap txC)) := by
              show World.ownsRow _ _ _ _ _ _ _
              rw [tx_snoc, List.length_append, List.length_singleton]
              exact hown4
            have HB4 := Lib.hid ((HB.out.alloc hsz (.cells #[.string (strB t)] 9)).grown hgr4 (by simp; omega) (fun g h => (HO.out.lt g h).1))
            clear hown4 hgr4 hat4 HO HB
            go_wp2
            go_roundw
            case rel => exact ⟨k + 1, at_ + c, l ++ [t], by omega, hac, by rw [List.length_append, List.length_singleton]; omega, by go_num, by go_num, HO4.out, HD2, HB4.out⟩
            case measure => simp [intOf]; omega
          · have HE : Hid (TsE r w1 (.returned (.tuple #[.slice none 0 0, .int .i64 0, .int .i64 e1])) wr) := by
              show TsE _ _ _ _
              rw [← HD.out, if_pos he1]
              exact TsE.nil HB.out
            have hne : (e1 != 0) = true := by simpa using he1
            clear HD HO HB x3 he1
            go_wp2_with fail
            refine CO'.out.mono ?_
            rintro e w2 ⟨rfl, rfl⟩
            simp only
            clear CO'
            go_wp2
            go_ret3
            exact HE.out
        · have hkn : k = n := by omega
          subst hkn
          rw [Nat.sub_self] at HC
          have HE : Hid (TsE r w1 (.returned (.tuple #[u8, .int .i64 at_, .int .i64 0])) wr) := by
            show TsE _ _ _ _
            rw [← show (l, at_, (0 : Int)) = r from HC.out]
            exact ⟨_, rfl, txs_own hown, hbw⟩
          clear HC hbw hown
          go_wp2
          go_ret3
          exact HE.out
  · have HR : Hid (TsE r w (.returned (.tuple #[.slice none 0 0, .int .i64 0, .int .i64 e0])) w) := by
      show TsE _ _ _ _
      rw [HX.out, if_pos he]
      exact TsE.nil (Below.refl _ _)
    have hne : (e0 != 0) = true := by simpa using he
    clear HX
    go_enter Try.func99, Try.ntmps99
    go_wp2_with fail
    refine CI'.out.mono ?_
    rintro e w1 ⟨rfl, rfl⟩
    go_wp2
    go_ret3
    exact HR.out
end Go.Proofs.Ytockmhhiomdlkaa

namespace Go.Proofs.Ytockmhhiomdlkaa
set_option linter.unusedVariables false
set_option linter.unusedSimpArgs false
open Go.RowKit

theorem encs_len : ∀ m : List Txt, (∀ x ∈ m, x.length ≤ 65536) → (m.flatMap encT).length ≤ m.length * 65542
  | [], _ => by simp
  | x :: m, hm => by
    have h1 := encs_len m fun y hy => hm y (by simp [hy])
    have h2 := hm x (by simp)
    have h3 := digL_len x.length 5 (by omega)
    rw [List.flatMap_cons, List.length_append, List.length_cons]
    have h4 : (encT x).length = (digL x.length).length + x.length := by unfold encT; rw [List.length_append]
    omega
/-- What has been written of a list. -/
def putd (l : List Txt) (k : Nat) : Txt := digL l.length ++ (l.take k).flatMap encT
theorem putd_len {l : List Txt} (h : OkL l) (k : Nat) : (putd l k).length ≤ 100000000 := by
  have h1 := encs_len (l.take k) fun x hx => h.2 x (List.mem_of_mem_take hx)
  have h2 := digL_len l.length 5 (by have := h.1; omega)
  have h3 : (l.take k).length ≤ 1000 := by rw [List.length_take]; have := h.1; omega
  unfold putd
  rw [List.length_append]
  have : (l.take k).length * 65542 ≤ 1000 * 65542 := Nat.mul_le_mul_right _ h3
  omega
theorem putd_snoc {l : List Txt} {k : Nat} (hk : k < l.length) : putd l (k + 1) = (putd l k ++ digL l[k].length) ++ l[k] := by
  unfold putd
  rw [List.take_succ_eq_append_getElem hk, List.flatMap_append]
  simp [encT, List.append_assoc]
theorem putd_all (l : List Txt) : putd l l.length = putTsB l := by
  unfold putd putTsB
  rw [List.take_length]

set_option maxRecDepth 100000 in
set_option maxHeartbeats 4000000 in
theorem putTexts_any (w : World) (A : Option Addr) (c : Nat) (l : List Txt) (h : Txs w (.slice A l.length c) l) :
    Calls Try.prog 62 #[.slice A l.length c] w fun e w' => e = .returned (.tuple #[.string (strB (putTs l).1), .int .i64 (putTs l).2]) ∧ Below w.heap.size w w' := by
  obtain ⟨A', c', e0, hc, hm⟩ := h.form
  cases e0
  by_cases h0 : 1000 < l.length
  · have hp : putTs l = ([], 4) := if_pos (.inl h0)
    rw [hp]
    have h1 : (1000 : Int) < (l.length : Int) := by omega
    clear hp
    go_enter Try.func62, Try.ntmps62
    go_wp2
    go_ret2
    exact ⟨rfl, Below.refl _ _⟩
  · have h1 : ¬ (1000 : Int) < (l.length : Int) := by omega
    have HP : Hid (putTs l = if 1000 < l.length ∨ ¬ ∀ t ∈ l, t.length ≤ 65536 then ([], 4) else (putTsB l, 0)) := rfl
    generalize putTs l = R at *
    go_enter Try.func62, Try.ntmps62
    go_wp2
    go_loop [14] (fun t => ∃ k : Nat, k ≤ l.length ∧ t = .int .i64 k ∧ Hid (∀ x ∈ l.take k, x.length ≤ 65536)) (fun t => l.length - (intOf t).toNat)
    case atStart => exact ⟨0, by omega, rfl, fun x hx => by simp at hx⟩
    case round =>
      obtain ⟨k, hk, rfl, HK⟩ := hrel
      by_cases hlt : k < l.length
      · obtain ⟨b, off, rfl, a1⟩ := h.get (List.getElem?_eq_getElem hlt)
        have hz := strB_size l[k]
        by_cases hb : l[k].length ≤ 65536
        · have HK2 : Hid (∀ x ∈ l.take (k + 1), x.length ≤ 65536) := by
            show ∀ x ∈ _, _
            rw [List.take_succ_eq_append_getElem hlt]
            intro x hx
            rcases List.mem_append.1 hx with hx | hx
            · exact HK.out x hx
            · rw [List.mem_singleton.1 hx]; exact hb
          generalize l[k] = t at *
          have hb2 : ¬ (65536 : Int) < ((strB t).size : Int) := by rw [hz]; omega
          generalize strB t = s at *
          clear HK hz
          go_wp2
          go_round
          case rel => exact ⟨k + 1, by omega, by go_num, HK2⟩
          case measure => simp [intOf]; omega
        · have HR : Hid (R = ([], 4)) := by
            show _ = _
            rw [HP.out, if_pos (.inr fun hh => hb (hh _ (List.getElem_mem hlt)))]
          generalize l[k] = t at *
          have hb2 : (65536 : Int) < ((strB t).size : Int) := by rw [hz]; omega
          generalize strB t = s at *
          clear HK HP hz
          go_wp2
          go_ret2
          exact ⟨by rw [HR.out]; rfl, Below.refl _ _⟩
      · have hkn : k = l.length := by omega
        subst hkn
        have HOk : Hid (OkL l) := ⟨by omega, by have := HK.out; rwa [List.take_length] at this⟩
        have HR : Hid (R = (putTsB l, 0)) := by
          show _ = _
          rw [HP.out, if_neg (by rintro (hh | hh); exact h0 hh; exact hh HOk.out.2)]
        clear HK HP
        have CW := Lib.hid (writeInt_any (w.alloc (.cells #[.pointer none, .slice none 0 0] 105)) w.heap.size w.heap.size [] l.length (by omega) (Bld.new w (Nat.le_refl _)) (by simp) (by simp))
        have K1 := Lib.hid ((Below.refl w.heap.size w).alloc (Nat.le_refl _) (.cells #[.pointer none, .slice none 0 0] 105))
        go_wp2_with fail
        refine CW.out.mono ?_
        rintro e w2 ⟨rfl, hbl⟩
        have K2 := Lib.hid (K1.out.trans hbl.bel)
        have HB2 : Hid (Bld w.heap.size w.heap.size (putd l 0) w2) := by
          have := hbl.bld
          show Bld _ _ _ _
          have e1 : putd l 0 = [] ++ digL l.length := by simp [putd]
          rw [e1]; exact this
        clear hbl CW K1
        go_wp2
        go_loopw [27] (fun t wr => ∃ k : Nat, k ≤ l.length ∧ t = .int .i64 k ∧ Hid (Bld w.heap.size w.heap.size (putd l k) wr) ∧ Below w.heap.size w wr) (fun t _ => l.length - (intOf t).toNat)
        case atStart => exact ⟨0, by omega, rfl, HB2, K2.out⟩
        case round =>
          clear HB2 K2
          obtain ⟨k, hk, rfl, HB, hbw⟩ := hrel
          have HW := Lib.hid hbw
          have hsz := hbw.size
          have hpl := putd_len HOk.out k
          by_cases hlt : k < l.length
          · have hr := h.keep (Keeps.of_below hbw)
            obtain ⟨b, off, rfl, a1⟩ := hr.get (List.getElem?_eq_getElem hlt)
            have hz := strB_size l[k]
            have ht := HOk.out.2 _ (List.getElem_mem hlt)
            have HS := Lib.hid (putd_snoc hlt)
            have hdl := digL_len l[k].length 5 (by omega)
            generalize l[k] = t at *
            have CW := Lib.hid (writeInt_any wr w.heap.size w.heap.size (putd l k) t.length (by omega) HB.out hsz (by omega))
            have HZ := Lib.hid hz
            have hz' : ((strB t).size : Int) = (t.length : Int) := by rw [hz]
            clear hbw HB hr hz
            go_wp2_with fail
            refine CW.out.mono ?_
            rintro e w3 ⟨rfl, hb3⟩
            have CS := Lib.hid (ws_any w.heap.size w.heap.size (putd l k ++ digL t.length) (strB t) w3 hb3.bld (by rw [List.length_append, HZ.out]; omega) (by have := hb3.bel.size; omega))
            have K3 := Lib.hid (HW.out.trans hb3.bel)
            clear CW hb3 HW
            go_wp2_with fail
            refine CS.out.mono ?_
            rintro e w4 ⟨rfl, hb4, hB4, _⟩
            have K4 := Lib.hid (K3.out.trans hB4)
            have HB4 : Hid (Bld w.heap.size w.heap.size (putd l (k + 1)) w4) := by
              show Bld _ _ _ _
              rw [HS.out]
              rwa [strB_data] at hb4
            clear CS K3 hb4 hB4 HS
            go_wp2
            go_roundw
            case rel => exact ⟨k + 1, by omega, by go_num, HB4, K4.out⟩
            case measure => simp [intOf]; omega
          · have hkn : k = l.length := by omega
            subst hkn
            have CT := Lib.hid (str_any w.heap.size w.heap.size _ wr HB.out hsz)
            clear hbw HB
            go_wp2_with fail
            refine CT.out.mono ?_
            rintro e w4 ⟨rfl, _, hb4, _⟩
            have K4 := Lib.hid (HW.out.trans hb4)
            have HS := Lib.hid (putd_all l)
            clear CT hb4 HW
            go_wp2
            go_ret2
            exact ⟨by rw [HR.out, HS.out]; rfl, K4.out⟩
end Go.Proofs.Ytockmhhiomdlkaa
