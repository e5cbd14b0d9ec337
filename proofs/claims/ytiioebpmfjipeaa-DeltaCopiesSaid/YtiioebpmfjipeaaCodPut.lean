/- codec: digits, writeInt, PutInt, PutText. -/
import Derived.Test.YtiioebpmfjipeaaBld
import Derived.Test.YtiioebpmfjipeaaRangeBox
import Derived.RangeFuncCalls
import Derived.Sort.CutIn
import Derived.Test.YtiioebpmfjipeaaFence
import Derived.Test.YtiioebpmfjipeaaDeJoinM
import Derived.Test.YtiioebpmfjipeaaDeOps
namespace Go.Proofs.Ytiioebpmfjipeaa
set_option linter.unusedVariables false
set_option linter.unusedSimpArgs false
open Go.RowKit
attribute [local go_sem] Oper.semAt_some

/-- The encoding of a number. -/
def digL (n : Nat) : List UInt8 := if n < 128 then [UInt8.ofNat n] else UInt8.ofNat (n % 128 + 128) :: digL (n / 128)
termination_by n
decreasing_by omega
theorem digL_last {n : Nat} (h : n < 128) : digL n = [UInt8.ofNat n] := by rw [digL, if_pos h]
theorem digL_more {n : Nat} (h : ¬ n < 128) : digL n = UInt8.ofNat (n % 128 + 128) :: digL (n / 128) := by rw [digL, if_neg h]
theorem digL_len : ∀ (n f : Nat), n < 128 ^ (f + 1) → (digL n).length ≤ f + 1
  | n, 0, h => by rw [digL_last (by simpa using h)]; simp
  | n, f + 1, h => by
    by_cases hn : n < 128
    · rw [digL_last hn]; simp
    · rw [digL_more hn, List.length_cons]
      have : n / 128 < 128 ^ (f + 1) := by
        rw [Nat.div_lt_iff_lt_mul (by omega)]
        rw [Nat.pow_succ] at h
        exact h
      have := digL_len (n / 128) f this
      omega
theorem digL_pos (n : Nat) : 0 < (digL n).length := by
  by_cases hn : n < 128
  · rw [digL_last hn]; simp
  · rw [digL_more hn]; simp
def encB (c : UInt8) : Value := .int .u8 c.toNat
def boxNat (w : World) (b : Nat) : Nat := match w.cell? ⟨b, 0, none⟩ with
  | some (.int _ n) => n.toNat
  | _ => 0
theorem boxNat_eq {w : World} {b n : Nat} {k : IntKind} (h : w.cell? ⟨b, 0, none⟩ = some (.int k (n : Int))) : boxNat w b = n := by
  unfold boxNat
  rw [h]
  simp

set_option maxHeartbeats 1000000 in
theorem digits_any (n : Int) (w : World) :
    Calls Try.prog 72 #[.int .i64 n] w fun e w' => e = .returned (.func (.func 78) #[] #[.pointer (some ⟨w.heap.size, 0, none⟩)]) ∧ w' = w.alloc (.cells #[.int .i64 n] 3) := by
  go_enter Try.func72, Try.ntmps72
  go_wp2
  go_ret
  exact ⟨rfl, rfl⟩

set_option maxRecDepth 100000 in
set_option maxHeartbeats 2000000 in
theorem digits1_in (n l Bn : Nat) (hn : 1 ≤ n) (J : List UInt8 → World → Prop) (hJ : ∀ pre W v, J pre W → J pre (W.setCell ⟨Bn, 0, none⟩ v)) (m : Nat) (hm : m ≤ 1099511627776)
    (hY : ∀ pre (x : UInt8) W, J pre W → pre.length < m + 1 → YieldAt Fence.wide (n - 1) Try.prog l #[encB x] W fun e W' => e = .returned (.bool true) ∧ J (pre ++ [x]) W' ∧ W'.heap[Bn]? = W.heap[Bn]?)
    (W : World) (hbox : Blk W Bn 3 #[.int .i64 m]) (h0 : J [] W) :
    CallsIn Fence.wide n Try.prog 78 #[.func (.yield l) #[] #[], .pointer (some ⟨Bn, 0, none⟩)] W fun e W' => (∃ v, e = .returned v) ∧ J (digL m) W' := by
  refine callsIn_of_wp Try.func78 rfl trivial ?_ rfl
  simp only [Try.ntmps78, List.size_toArray, List.length_cons, List.length_nil, Nat.reduceAdd, Nat.reduceSub, Array.replicate_succ, Array.replicate_zero, List.push_toArray, List.append_toArray, List.nil_append, List.cons_append]
  gi_wp2
  gi_loopw [3] (fun _ wr => ∃ (pre : List UInt8) (k : Nat), Hid (digL m = pre ++ digL k) ∧ pre.length + k ≤ m ∧ Blk wr Bn 3 #[.int .i64 k] ∧ J pre wr) (fun _ wr => boxNat wr Bn)
  case atStart => exact ⟨[], m, rfl, by simp, hbox, h0⟩
  case round =>
    obtain ⟨pre, k, HL, hlen, hblk, hj⟩ := hrel
    have hc : wr.cell? ⟨Bn, 0, none⟩ = some (.int .i64 k) := hblk.cell (j := 0) rfl
    have hf := hblk.frozen 0
    by_cases hk : k < 128
    · have hx : ((UInt8.ofNat k).toNat : Int) = (k : Int) := by rw [UInt8.toNat_ofNat_of_lt' (by simp [UInt8.size]; omega)]
      obtain ⟨fn, tmps, assign, body, hy, hR⟩ := hY pre (UInt8.ofNat k) wr hj (by omega)
      unfold encB at hy
      rw [hx] at hy
      have HR := Lib.hid hR
      have hkn : ¬ (128 : Int) ≤ (k : Int) := by omega
      have HE : Hid (digL m = pre ++ [UInt8.ofNat k]) := by show _ = _; rw [HL.out, digL_last hk]
      clear hR hx HL
      gi_wp2_with fail
      refine HR.out.mono ?_
      rintro e W3 ⟨rfl, hJ3, hb3⟩
      rw [← HE.out] at hJ3
      gi_wp2
      go_end0
      exact ⟨⟨_, rfl⟩, hJ3⟩
    · have hm1 : k % 128 + 128 < 256 := by omega
      have hx : ((UInt8.ofNat (k % 128 + 128)).toNat : Int) = (k : Int) % 128 + 128 := by rw [UInt8.toNat_ofNat_of_lt' (by simp [UInt8.size]; omega)]; omega
      obtain ⟨fn, tmps, assign, body, hy, hR⟩ := hY pre (UInt8.ofNat (k % 128 + 128)) wr hj (by omega)
      unfold encB at hy
      rw [hx] at hy
      have HR := Lib.hid hR
      have hkn : (128 : Int) ≤ (k : Int) := by omega
      have HE : Hid (digL m = (pre ++ [UInt8.ofNat (k % 128 + 128)]) ++ digL (k / 128)) := by show _ = _; rw [HL.out, digL_more hk, List.append_assoc]; rfl
      have hkm : (k : Int) ≤ 1099511627776 := by omega
      clear hR hx HL
      gi_wp2_with fail
      refine HR.out.mono ?_
      rintro e W3 ⟨rfl, hJ3, hb3⟩
      have hblk3 : Blk W3 Bn 3 #[.int .i64 k] := hb3.trans hblk
      have hc3 : W3.cell? ⟨Bn, 0, none⟩ = some (.int .i64 k) := hblk3.cell (j := 0) rfl
      have hf3 := hblk3.frozen 0
      have hblk4 := hblk3.set 0 (.int .i64 ((k / 128 : Nat) : Int))
      have hJ4 := hJ _ _ (.int .i64 ((k / 128 : Nat) : Int)) hJ3
      have HB4 := Lib.hid hblk4
      have HJ4 := Lib.hid hJ4
      have HC := Lib.hid hc
      have hm2 : boxNat (W3.setCell ⟨Bn, 0, none⟩ (.int .i64 ((k / 128 : Nat) : Int))) Bn < boxNat wr Bn := by
        rw [boxNat_eq hc, boxNat_eq (hblk4.cell (j := 0) rfl)]; omega
      have HM2 := Lib.hid hm2
      clear hm2
      clear hblk4 hJ4 hJ3 hb3 hblk3 hblk hj hc hf
      gi_wp2
      go_roundw
      case rel => exact ⟨pre ++ [UInt8.ofNat (k % 128 + 128)], k / 128, HE, by simp; omega, HB4.out, HJ4.out⟩
      case measure => exact HM2.out

/-- What writes into a builder leaves. -/
structure BldE (B b : Nat) (l : List UInt8) (w0 w : World) : Prop where
  bld : Bld B b l w
  bel : Below B w0 w
  oth : Lib.OthersKept 5 (some b) w0 w
theorem others_high {e : TypeId} {b : Option Nat} {w0 W W' : World} (h : Lib.OthersKept e b w0 W) (hk : ∀ k, k < w0.heap.size → W'.heap[k]? = W.heap[k]?) : Lib.OthersKept e b w0 W' := fun k o hx hb ho =>
  (hk k (Array.getElem?_eq_some_iff.1 hx).1).trans (h k o hx hb ho)
theorem others_below {e : TypeId} {b : Option Nat} {w0 W W' : World} (h : Lib.OthersKept e b w0 W) (hs : w0.heap.size ≤ W.heap.size) (k : Below W.heap.size W W') : Lib.OthersKept e b w0 W' :=
  others_high h fun i hi => k.block i (by omega)
/-- What the loop of writeInt keeps: Hs, the box of the builder's pointer; Bn, the box of the number. -/
structure WrI (w0 : World) (B b Hs Bn : Nat) (l0 pre : List UInt8) (W : World) : Prop where
  e : BldE B b (l0 ++ pre) w0 W
  p : Blk W Hs 54 #[.pointer (some ⟨b, 0, none⟩)]
  n : ∃ v, Blk W Bn 3 #[v]
  hs : w0.heap.size + 2 ≤ W.heap.size
section
variable {w0 : World} {B b Hs Bn : Nat} {l0 pre : List UInt8} {W : World}
theorem WrI.alloc (h : WrI w0 B b Hs Bn l0 pre W) (hB : B ≤ w0.heap.size) (o : Obj) : WrI w0 B b Hs Bn l0 pre (W.alloc o) := by
  have hs := h.hs
  obtain ⟨v, hv⟩ := h.n
  have k : Below W.heap.size W (W.alloc o) := (Below.refl _ _).alloc (Nat.le_refl _) o
  exact ⟨⟨h.e.bld.below k, h.e.bel.trans (k.mono (by omega)), others_below h.e.oth (by omega) k⟩, h.p.alloc o, ⟨v, hv.alloc o⟩, by simp; omega⟩
theorem WrI.put (h : WrI w0 B b Hs Bn l0 pre W) (hB : B ≤ w0.heap.size) {r : Nat} {o o' : Obj} (hr : w0.heap.size ≤ r) (ho : W.heap[r]? = some o) (hc : o.isCells = false) : WrI w0 B b Hs Bn l0 pre (W.putObj r o') := by
  have blk : ∀ {g : Nat} {t : TypeId} {cs : Array Value}, Blk W g t cs → Blk (W.putObj r o') g t cs := fun {g t cs} hb => (World.putObj_heap_other (by
    rintro rfl
    unfold Blk at hb
    rw [hb] at ho
    cases ho
    cases hc)).trans hb
  obtain ⟨v, hv⟩ := h.n
  have hs := h.hs
  have hg : W.grownBy (W.putObj r o') (some r) := grownBy_putObj' W r o'
  refine ⟨⟨?_, h.e.bel.grown hg (by omega) (fun k e => by cases e; omega), others_high h.e.oth fun k hk => World.putObj_heap_other (by omega)⟩, blk h.p, ⟨v, blk hv⟩, by simp [World.putObj]; omega⟩
  have go : ∀ p, Lib.BuilderAtF 57 5 B b p (Lib.byteCells (l0 ++ pre)) W → Lib.BuilderAtF 57 5 B b p (Lib.byteCells (l0 ++ pre)) (W.putObj r o') := fun p ⟨h1, v, h2, h3, h4⟩ => by
    refine ⟨h1, v, blk (t := 57) h2, h3.kept hg ?_, h4⟩
    rcases h3.2 with ⟨rfl, _⟩ | ⟨g, cap, cur, fz, rfl, _, hgg, _⟩
    · exact .inl rfl
    · refine .inr fun e => ?_
      have e1 : g = r := by simpa [Value.ownBlock] using e
      subst e1
      rw [hgg] at ho
      cases ho
      cases hc
  exact h.e.bld.imp (go _) (go _)
theorem WrI.set (h : WrI w0 B b Hs Bn l0 pre W) (hB : B ≤ w0.heap.size) (hBn : w0.heap.size ≤ Bn) (hbn : b ≠ Bn) (hsn : Hs ≠ Bn) (u : Value) : WrI w0 B b Hs Bn l0 pre (W.setCell ⟨Bn, 0, none⟩ u) := by
  obtain ⟨v, hv⟩ := h.n
  have hs := h.hs
  refine ⟨⟨h.e.bld.kept (grownBy_set W Bn 0 u) fun g e => ?_, h.e.bel.setCell (p := ⟨Bn, 0, none⟩) (by simp only; omega) u, others_high h.e.oth fun k hk => Below.heap_setCell W ⟨Bn, 0, none⟩ u k (by simp only; omega)⟩, h.p.far (p := ⟨Bn, 0, none⟩) hsn u, ⟨u, hv.set 0 u⟩, by simp [World.setCell]; omega⟩
  injection e with e
  subst e
  exact ⟨fun e => hbn e.symm, _, _, _, hv, by decide⟩
end

set_option maxRecDepth 100000 in
set_option maxHeartbeats 2000000 in
theorem writeInt_any (w : World) (B b : Nat) (l : List UInt8) (m : Nat) (hm : m ≤ 1099511627776) (h : Bld B b l w) (hBw : B ≤ w.heap.size) (hl : l.length ≤ 70368744177664) :
    Calls Try.prog 59 #[.pointer (some ⟨b, 0, none⟩), .int .i64 m] w fun e w' => e = .returned (.tuple #[]) ∧ BldE B b (l ++ digL m) w w' := by
  have hbl := h.lt
  refine (callsIn_wide (n := 3)).1 ?_
  refine callsIn_of_wp_marks Try.func59 rfl trivial ?_ rfl
  simp only [Try.ntmps59, List.size_toArray, List.length_cons, List.length_nil, Nat.reduceAdd, Nat.reduceSub, Array.replicate_succ, Array.replicate_zero, List.push_toArray, List.append_toArray, List.nil_append, List.cons_append]
  gi_wp2_with fail
  refine ⟨trivial, ?_⟩
  refine (callsIn_wide.2 (digits_any _ _)).mono ?_
  rintro e w' ⟨rfl, rfl⟩
  gi_wp2_with fail
  have k1 := (Below.refl w.heap.size w).alloc (Nat.le_refl _) (.cells #[.pointer (some ⟨b, 0, none⟩)] 54)
  have k2 := k1.alloc (by simp) (.cells #[.int .i64 m] 3)
  have p1 := (Blk.new w #[.pointer (some ⟨b, 0, none⟩)] 54).alloc (.cells #[.int .i64 m] 3)
  have p2 := Blk.new (w.alloc (.cells #[.pointer (some ⟨b, 0, none⟩)] 54)) #[.int .i64 m] 3
  rw [World.size_alloc] at p2
  have hsz : ((w.alloc (.cells #[.pointer (some ⟨b, 0, none⟩)] 54)).alloc (.cells #[.int .i64 m] 3)).heap.size = w.heap.size + 2 := by simp
  have hz : (w.alloc (.cells #[.pointer (some ⟨b, 0, none⟩)] 54)).heap.size = w.heap.size + 1 := by simp
  try rw [hz]
  have hI0 : WrI w B b w.heap.size (w.heap.size + 1) l [] ((w.alloc (.cells #[.pointer (some ⟨b, 0, none⟩)] 54)).alloc (.cells #[.int .i64 m] 3)) :=
    ⟨⟨by rw [List.append_nil]; exact h.below k2, k2.mono hBw, others_below (Lib.OthersKept.refl _ _ _) (Nat.le_refl _) k2⟩, p1, ⟨_, p2⟩, by omega⟩
  generalize (w.alloc (.cells #[.pointer (some ⟨b, 0, none⟩)] 54)).alloc (.cells #[.int .i64 m] 3) = W0 at *
  clear k1 k2 p1 hz
  refine wp_range_box (α := UInt8) (gf := 78) (lb := #[.pointer (some ⟨w.heap.size + 1, 0, none⟩)]) rfl (enters_of Try.func78 (by kernel_rfl) rfl)
    encB rfl (m + 1) (digL m) (w.heap.size + 1) (WrI w B b w.heap.size (w.heap.size + 1) l) (fun pre W o h => h.alloc hBw o) (fun pre W r o o' hr h h1 h2 => h.put hBw (by omega) h1 h2) (fun pre W v h => h.set hBw (by omega) (by omega) (by omega) v) hI0 ⟨_, _, p2⟩
    (fun lp J hJ hY W hB hJ0 => digits1_in _ lp _ (by omega) J hJ m hm hY W (hB.trans p2) hJ0)
    ?a1 ?assign ?body ?done
  case assign =>
    intro l x W K hK
    unfold encB
    gi_wp2
    exact hK
  case body =>
    rintro lp pre x W hi hlen
    have hp := hi.p.cell (j := 0) rfl
    obtain ⟨v, hv⟩ := hi.n
    have hs := hi.hs
    have CW := Lib.hid (wb_any B b (l ++ pre) x W hi.e.bld (by rw [List.length_append]; omega) (by omega))
    have HI := Lib.hid hi
    have HV := Lib.hid hv
    clear hi hv hI0 p2
    gi_wp2_with fail
    refine ⟨trivial, ?_⟩
    refine ((Wid.round lp).calls CW.out).mono ?_
    rintro e w3 ⟨rfl, hb3, hB3, ko3⟩
    have hne : ∀ {g : Nat} {t : TypeId} {cs : Array Value}, Blk W g t cs → g ≠ b → t ≠ 5 → Blk w3 g t cs := fun hb hg ht => ko3 _ _ hb (fun e => hg (by injection e)) fun cs' fz e => ht (by injection e)
    have hbW := HI.out.e.bld.blk
    have hko : KeepsOthers W w3 := ⟨hB3.size, fun k o hx ho => ko3 k o hx (fun e => by
      injection e with e
      subst e
      obtain ⟨cs, fz, hc⟩ := hbW
      rw [hx] at hc
      cases hc
      cases ho) fun c fz e => by subst e; cases ho⟩
    have hP : ∀ a, boxPost (w.heap.size + 1) (WrI w B b w.heap.size (w.heap.size + 1) l) (pre ++ [x]) W .normal a w3 := fun _ =>
      ⟨hko, (hne HV.out (by omega) (by decide)).trans HV.out.symm, ⟨⟨by rw [← List.append_assoc]; exact hb3, HI.out.e.bel.trans hB3, HI.out.e.oth.trans ko3⟩, hne HI.out.p (by omega) (by decide), ⟨v, hne HV.out (by omega) (by decide)⟩, by have := hB3.size; omega⟩⟩
    have hP' := Lib.hid hP
    clear hP hko hbW hne hb3 hB3 ko3 HI HV CW
    gi_wp2
    exact hP'.out _
  case done =>
    rintro D W hD hi hK
    have HI := Lib.hid hi
    clear hI0 hi p2
    gi_wp2
    refine ⟨by simp, .inl ⟨_, _, rfl, run_takeDeferred hK, ?_⟩⟩
    refine ⟨_, results_none rfl _ _ _, rfl, ?_⟩
    have hp := HI.out.put hBw (o' := .deferred none) (by omega) hK rfl
    exact hp.e

set_option maxHeartbeats 1000000 in
theorem inRange_yes (n : Int) (w : World) (h0 : 0 ≤ n) (h1 : n ≤ 1099511627776) : Calls Try.prog 58 #[.int .i64 n] w fun e w' => e = .returned (.bool true) ∧ w = w' := by
  go_enter Try.func58, Try.ntmps58
  go_wp2
  go_ret
  exact ⟨rfl, rfl⟩
set_option maxHeartbeats 1000000 in
theorem inRange_no (n : Int) (w : World) (h : n < 0 ∨ 1099511627776 < n) : Calls Try.prog 58 #[.int .i64 n] w fun e w' => e = .returned (.bool false) ∧ w = w' := by
  rcases h with h | h
  · have h' : decide (0 ≤ n) = false := by simp; omega
    go_enter Try.func58, Try.ntmps58
    go_wp2
    go_ret
    exact ⟨rfl, rfl⟩
  · have h' : decide (n ≤ 1099511627776) = false := by simp; omega
    have h2 : decide (0 ≤ n) = true := by simp; omega
    go_enter Try.func58, Try.ntmps58
    go_wp2
    go_ret
    exact ⟨rfl, rfl⟩
theorem Bld.new (w : World) {B : Nat} (hB : B ≤ w.heap.size) : Bld B w.heap.size [] (w.alloc (.cells #[.pointer none, .slice none 0 0] 57)) :=
  .inl ⟨hB, .slice none 0 0, heap_alloc_new w _, ⟨rfl, .inl ⟨rfl, rfl⟩⟩, by simp [Value.ownBlock]⟩
/-- What PutInt answers. -/
def putI (n : Int) : List UInt8 × Int := if 0 ≤ n ∧ n ≤ 1099511627776 then (digL n.toNat, 0) else ([], 2)
set_option maxRecDepth 100000 in
set_option maxHeartbeats 1000000 in
theorem putInt_any (n : Int) (w : World) : Calls Try.prog 42 #[.int .i64 n] w fun e w' => e = .returned (.tuple #[.string (strB (putI n).1), .int .i64 (putI n).2]) ∧ Below w.heap.size w w' := by
  by_cases h : 0 ≤ n ∧ n ≤ 1099511627776
  · have hp : putI n = (digL n.toNat, 0) := if_pos h
    obtain ⟨m, rfl⟩ : ∃ m : Nat, n = m := ⟨n.toNat, by omega⟩
    rw [hp, Int.toNat_natCast]
    have hm : m ≤ 1099511627776 := by omega
    have CR := Lib.hid (inRange_yes (m : Int) w h.1 h.2)
    clear hp h
    go_enter Try.func42, Try.ntmps42
    go_wp2_with fail
    refine CR.out.mono ?_
    rintro e w1 ⟨rfl, rfl⟩
    have CW := Lib.hid (writeInt_any (w.alloc (.cells #[.pointer none, .slice none 0 0] 57)) w.heap.size w.heap.size [] m hm (Bld.new w (Nat.le_refl _)) (by simp) (by simp))
    have K1 := Lib.hid ((Below.refl w.heap.size w).alloc (Nat.le_refl _) (.cells #[.pointer none, .slice none 0 0] 57))
    clear CR
    go_wp2_with fail
    refine CW.out.mono ?_
    rintro e w2 ⟨rfl, hb⟩
    have CS := Lib.hid (str_any w.heap.size w.heap.size ([] ++ digL m) w2 hb.bld (by have := hb.bel.size; simp at this; omega))
    have K2 := Lib.hid (K1.out.trans hb.bel)
    clear hb CW K1
    go_wp2_with fail
    refine CS.out.mono ?_
    rintro e w3 ⟨rfl, _, hb3, _⟩
    have K3 := Lib.hid (K2.out.trans hb3)
    clear hb3 CS K2
    go_wp2
    go_ret2
    exact ⟨rfl, K3.out⟩
  · have hp : putI n = ([], 2) := if_neg h
    rw [hp]
    have CR := Lib.hid (inRange_no n w (by omega))
    clear hp h
    go_enter Try.func42, Try.ntmps42
    go_wp2_with fail
    refine CR.out.mono ?_
    rintro e w1 ⟨rfl, rfl⟩
    go_wp2
    go_ret2
    exact ⟨rfl, Below.refl _ _⟩
/-- What PutText answers. -/
def putT (s : List UInt8) : List UInt8 × Int := if s.length ≤ 65536 then (digL s.length ++ s, 0) else ([], 4)
set_option maxRecDepth 100000 in
set_option maxHeartbeats 1000000 in
theorem putText_any (s : List UInt8) (w : World) : Calls Try.prog 43 #[.string (strB s)] w fun e w' => e = .returned (.tuple #[.string (strB (putT s).1), .int .i64 (putT s).2]) ∧ Below w.heap.size w w' := by
  have hz := strB_size s
  by_cases h : s.length ≤ 65536
  · have hp : putT s = (digL s.length ++ s, 0) := if_pos h
    rw [hp]
    have hd : ¬ (65536 : Int) < ((strB s).size : Int) := by rw [hz]; omega
    have hd2 : ((strB s).size : Int) ≤ 65536 := by rw [hz]; omega
    have CW := Lib.hid (writeInt_any (w.alloc (.cells #[.pointer none, .slice none 0 0] 57)) w.heap.size w.heap.size [] (strB s).size (by omega) (Bld.new w (Nat.le_refl _)) (by simp) (by simp))
    have K1 := Lib.hid ((Below.refl w.heap.size w).alloc (Nat.le_refl _) (.cells #[.pointer none, .slice none 0 0] 57))
    have hdl := digL_len (strB s).size 5 (by omega)
    have HZ := Lib.hid hz
    have HL := Lib.hid h
    clear hp h hz
    go_enter Try.func43, Try.ntmps43
    go_wp2_with fail
    refine CW.out.mono ?_
    rintro e w2 ⟨rfl, hb⟩
    have CS := Lib.hid (ws_any w.heap.size w.heap.size ([] ++ digL (strB s).size) (strB s) w2 hb.bld (by rw [List.nil_append]; omega) (by have := hb.bel.size; simp at this; omega))
    have K2 := Lib.hid (K1.out.trans hb.bel)
    clear hb CW K1
    go_wp2_with fail
    refine CS.out.mono ?_
    rintro e w3 ⟨rfl, hb3, hB3, _⟩
    have CT := Lib.hid (str_any w.heap.size w.heap.size _ w3 hb3 (by have := K2.out.size; have := hB3.size; omega))
    have K3 := Lib.hid (K2.out.trans hB3)
    clear hb3 hB3 CS K2
    go_wp2_with fail
    refine CT.out.mono ?_
    rintro e w4 ⟨rfl, _, hb4, _⟩
    have K4 := Lib.hid (K3.out.trans hb4)
    have HS : Hid (digL (strB s).size ++ (strB s).data.toList = digL s.length ++ s) := by show _ = _; rw [HZ.out, strB_data]
    clear hb4 CT K3
    go_wp2
    go_ret2
    exact ⟨by rw [HS.out]; rfl, K4.out⟩
  · have hp : putT s = ([], 4) := if_neg h
    rw [hp]
    have hd : (65536 : Int) < ((strB s).size : Int) := by rw [hz]; omega
    clear hp h hz
    go_enter Try.func43, Try.ntmps43
    go_wp2
    go_ret2
    exact ⟨rfl, Below.refl _ _⟩
end Go.Proofs.Ytiioebpmfjipeaa
