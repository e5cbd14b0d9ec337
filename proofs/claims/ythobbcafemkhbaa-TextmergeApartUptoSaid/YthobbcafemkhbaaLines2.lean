/- linediff.Lines. -/
import Derived.Test.YthobbcafemkhbaaLines
import Derived.Test.YthobbcafemkhbaaRangeBox
import Derived.Deep.DeepMust
namespace Go.Proofs.Ythobbcafemkhbaa
open Go.RowKit
attribute [local go_sem] Oper.semAt_some

theorem Try.info_str' : (Try.prog.info? 9).map (fun i => (i.zero, i.size, i.bytes)) = some (some (.string ByteArray.empty), 1, 16) := by kernel_rfl

/-- 'append(s, xs...)' onto a row of the call's own, in a fence; where the new row lies is told. -/
theorem wpListIn_append_at {F : Fence} {n : Nat} {P : Program} (w : World) {ops : Array Oper} {rest : List Oper} {o : Oper} {a : Act} {Q : Exit → Act → World → Prop}
    (hg : o.guard = none) (s x : Operand) (t : TypeId) (hop : o.op = Op.call { callee := Callee.builtin Builtin.append, args := #[s, x], argTypes := #[t, t] })
    (base : Nat) (e : TypeId) (i : TypeInfo) (z : Value) (size bytes : Nat) (h1 : P.underlying t = some (.slice e)) (h2 : P.info? e = some i) (h3 : i.zero = some z) (h4 : i.size = size) (h5 : i.bytes = bytes) (h6 : z.cells.size = size) (h7 : 0 < size)
    (v : Value) (k : Nat) (xs : List Value) (hs : a.eval s = v) (hown : w.ownsRow base e size v k xs) (ad : Addr) (m c : Nat) (news : List Value) (hx : a.eval x = .slice (some ad) m c) (hn : news.length = m * size)
    (hc : CellsAt w (some ad) news) (h1c : ∀ u ∈ news, u.oneCell' = true) (b1 : k + m ≤ 9223372036854775807) (b2 : (k + m) * bytes ≤ 140737488355328) (b3 : base ≤ w.heap.size)
    (hK : ∀ v' w', w'.ownsRow base e size v' (k + m) (xs ++ news) → w.grownBy w' v.ownBlock → (v'.ownBlock = v.ownBlock ∨ v'.ownBlock = some w.heap.size) → wpListIn F n P ops Q rest (a.put o.dst v') w') :
    wpListIn F n P ops Q (o :: rest) a w := by
  refine wpListIn_plain hg fun K hK' => ?_
  obtain ⟨v', w', hrun, r1, r2, _, r3⟩ := run_append_own_at (P := P) w base t o.type e i z size bytes h1 h2 h3 h4 h5 h6 h7 v k xs hown ad m c news hn hc.kit h1c (by unfold maxLen; omega) b2 b3
  unfold Oper.wpIn
  refine ⟨?_, ?_⟩
  · simp [Oper.about, hop, resolve, Target.leads, Sem.run_pure]
  · rw [Oper.semAt_plain F _ _ (by rw [hop]; intro c hc'; cases hc')]
    simp [execOp, hop, resolve, invoke, builtin, hs, hx, hrun, Result.andThen]
    exact hK' _ _ (hK v' w' r1 r2 r3)

set_option maxHeartbeats 1000000 in
theorem each_any (s : ByteArray) (w : World) :
    Calls Try.prog 57 #[.string s] w fun e w' => e = .returned (.func (.func 70) #[] #[.pointer (some ⟨w.heap.size, 0, none⟩)]) ∧ w' = w.alloc (.cells #[.string s] 9) := by
  go_enter Try.func57, Try.ntmps57
  go_wp2
  go_ret
  exact ⟨rfl, rfl⟩

/-- What the loop has collected. -/
def LI (w : World) (Bl Bn : Nat) (pre : List (List UInt8)) (W : World) : Prop :=
  ∃ vl, Blk W Bl 36 #[vl] ∧ W.ownsRow w.heap.size 9 1 vl pre.length (pre.map fun x => .string ⟨x.toArray⟩) ∧ vl.ownBlock ≠ some Bn ∧ Below w.heap.size w W ∧ Bl < W.heap.size ∧ Bn < W.heap.size

theorem LI.alloc {w : World} {Bl Bn : Nat} (pre : List (List UInt8)) (W : World) (o : Obj) (h : LI w Bl Bn pre W) : LI w Bl Bn pre (W.alloc o) := by
  obtain ⟨vl, c1, c2, c3, c4, c5, c6⟩ := h
  exact ⟨vl, c1.alloc o, c2.alloc o, c3, c4.alloc c4.size o, by simp; omega, by simp; omega⟩
theorem LI.set {w : World} (pre : List (List UInt8)) (W : World) (v : Value) (h : LI w w.heap.size (w.heap.size + 1) pre W) : LI w w.heap.size (w.heap.size + 1) pre (W.setCell ⟨w.heap.size + 1, 0, none⟩ v) := by
  obtain ⟨vl, c1, c2, c3, c4, c5, c6⟩ := h
  exact ⟨vl, c1.far (p := ⟨w.heap.size + 1, 0, none⟩) (by simp) v, own_stab c2 (M := fun b => b = w.heap.size + 1) (fun g hg e => c3 (e ▸ hg)) _ (Agree.set1 W _ 0 v), c3, c4.setCell (p := ⟨w.heap.size + 1, 0, none⟩) (by simp) v, by simpa [World.setCell] using c5, by simpa [World.setCell] using c6⟩
theorem LI.put {w : World} {Bl Bn : Nat} (pre : List (List UInt8)) (W : World) (r : Nat) (o o' : Obj) (hlt : w.heap.size ≤ r) (h : LI w Bl Bn pre W) (hr : W.heap[r]? = some o) (ho : o.isCells = false) : LI w Bl Bn pre (W.putObj r o') := by
  obtain ⟨vl, c1, c2, c3, c4, c5, c6⟩ := h
  have hne : ∀ g t cs, Blk W g t cs → g ≠ r := by
    rintro g t cs hb rfl
    unfold Blk at hb
    rw [hb] at hr
    cases hr
    simp [Obj.isCells] at ho
  refine ⟨vl, (World.putObj_heap_other (hne _ _ _ c1)).trans c1, ?_, c3, c4.grown (grownBy_putObj' W r o') c4.size (fun k e => by cases e; omega), by simpa using c5, by simpa using c6⟩
  refine ⟨c2.1, ?_⟩
  rcases c2.2 with h1 | ⟨g, cap, cur, e, h1, h2, h3⟩
  · exact .inl h1
  · exact .inr ⟨g, cap, cur, e, h1, (World.putObj_heap_other (hne g _ _ h2)).trans h2, h3⟩

set_option maxRecDepth 100000 in
set_option maxHeartbeats 1000000 in
theorem lines_any (s : ByteArray) (hs : s.size ≤ 1000000000) (w : World) :
    Calls Try.prog 35 #[.string s] w fun e w' => ∃ v, e = .returned v ∧ w'.ownsRow w.heap.size 9 1 v (lines s.data.toList).length ((lines s.data.toList).map fun x => .string ⟨x.toArray⟩) ∧ Below w.heap.size w w' := by
  obtain ⟨i0, hi, hz0, hz1, hz2⟩ := info_parts Try.info_str'
  refine (callsIn_wide (n := 3)).1 ?_
  refine callsIn_of_wp_marks Try.func35 rfl trivial ?_ rfl
  simp only [Try.ntmps35, List.size_toArray, List.length_cons, List.length_nil, Nat.reduceAdd, Nat.reduceSub, Array.replicate_succ, Array.replicate_zero, List.push_toArray, List.append_toArray, List.nil_append, List.cons_append]
  gi_wp2_with (refine ⟨trivial, ?_⟩; gi_at_call 57; refine (callsIn_wide.2 (each_any _ _)).mono ?_; rintro e w' ⟨rfl, rfl⟩)
  have b1 : Blk ((w.alloc (.cells #[.slice none 0 0] 36)).alloc (.cells #[.string s] 9)) w.heap.size 36 #[.slice none 0 0] := (Blk.new w _ _).alloc _
  have b2 : Blk ((w.alloc (.cells #[.slice none 0 0] 36)).alloc (.cells #[.string s] 9)) (w.heap.size + 1) 9 #[.string s] := by
    have := Blk.new (w.alloc (.cells #[.slice none 0 0] 36)) #[.string s] 9
    rwa [World.size_alloc] at this
  have b3 : Below w.heap.size w ((w.alloc (.cells #[.slice none 0 0] 36)).alloc (.cells #[.string s] 9)) := ((Below.refl _ _).alloc (Nat.le_refl _) _).alloc (by simp) _
  have hsz : ((w.alloc (.cells #[.slice none 0 0] 36)).alloc (.cells #[.string s] 9)).heap.size = w.heap.size + 2 := by simp
  generalize (w.alloc (.cells #[.slice none 0 0] 36)).alloc (.cells #[.string s] 9) = W0 at *
  refine wp_range_box (α := List UInt8) (gf := 70) (lb := #[.pointer (some ⟨w.heap.size + 1, 0, none⟩)]) rfl (enters_of Try.func70 (by kernel_rfl) rfl)
    (fun x => .string ⟨x.toArray⟩) rfl s.size (lines s.data.toList) (w.heap.size + 1) (LI w w.heap.size (w.heap.size + 1)) LI.alloc (fun pre W r o o' hr h => LI.put pre W r o o' (by omega) h) LI.set ⟨_, b1, World.ownsRow_nil _ _ _ _, by simp [Value.ownBlock], b3, by omega, by omega⟩ ⟨_, _, b2⟩
    (fun l J hJ hY W hB hJ0 => each1_in _ l _ (by omega) J hJ s (by omega) hY W (hB.trans b2) hJ0)
    (fun x => { tmps := #[.string s, undef, .slice none 0 0, .pointer (some ⟨w.heap.size, 0, none⟩), .string ⟨x.toArray⟩, .string s, .func (.func 70) #[] #[.pointer (some ⟨w.heap.size + 1, 0, none⟩)], .string ⟨x.toArray⟩, undef, undef, undef, undef, undef], defers := [] })
    ?assign ?body ?done
  case assign =>
    intro l x W K hK
    gi_wp2
    exact hK
  case body =>
    rintro l pre x W ⟨vl, c1, c2, c3, c4, c5, c6⟩ hlen
    have hc := c1.cell (j := 0) rfl
    have hf := c1.frozen 0
    have hbs := c4.size
    gi_wp2_with (gi_at_builtin; go_must (refine wpListIn_append_at _ rfl _ _ _ rfl w.heap.size 9 i0 _ 1 16 Try.underlying36 hi hz0 hz1 hz2 rfl (by omega) vl pre.length _ rfl (c2.alloc _) ⟨W.heap.size, 0, none⟩ 1 1 [.string ⟨x.toArray⟩] rfl rfl (CellsAt.of_new _ _ _ _) (by simp [Value.oneCell']) (by omega) (by omega) (by simp; omega) ?_)
                 intro v' w1 hown hgr hat
                 obtain ⟨A', c', rfl⟩ := own_form hown
                 have hb1 := (c1.alloc (.cells #[.string ⟨x.toArray⟩] 9)).grown hgr (fun e => own_ne_type c2 c1 (by decide) e.symm)
                 have hc1 := hb1.cell (j := 0) rfl
                 have hf1 := hb1.frozen 0)
    have hco : ∀ (j : Nat) (o : Obj), vl.ownBlock = some j → (W.alloc (.cells #[.string ⟨x.toArray⟩] 9)).heap[j]? = some o → o.isCells = true := by
      intro j o hj ho
      rcases (c2.alloc (.cells #[.string ⟨x.toArray⟩] 9)).2 with ⟨rfl, _⟩ | ⟨g, cap, cur, rfl, _, hg, _⟩
      · simp [Value.ownBlock] at hj
      · simp [Value.ownBlock] at hj
        subst hj
        rw [hg] at ho
        cases ho
        rfl
    refine ⟨((KeepsOthers.alloc W _).trans (KeepsOthers.of_grownBy hgr hco)).trans (KeepsOthers.setCell _ _ _), ?_, ?_⟩
    · refine (Below.heap_setCell w1 ⟨w.heap.size, 0, none⟩ _ _ (by simp)).trans ((hgr.block _ (by simp; omega) (fun e => c3 e.symm)).trans (Below.heap_alloc W _ _ c6))
    · refine ⟨_, hb1.set 0 _, ?_, ?_, ?_, ?_, ?_⟩
      · have := own_stab hown (M := fun b => b = w.heap.size) (fun g hg e => own_ne_type hown hb1 (by decide) (e ▸ hg)) _ (Agree.set1 w1 w.heap.size 0 (.slice A' (pre.length + 1) c'))
        simpa using this
      · intro e
        rcases hat with h | h
        · exact c3 (h ▸ e)
        · rw [h] at e
          simp at e
          omega
      · exact ((c4.alloc c4.size _).grown hgr (by simp; omega) (fun k hk => (c2.lt k hk).1)).setCell (p := ⟨w.heap.size, 0, none⟩) (Nat.le_refl _) _
      · have := hgr.size; simp [World.setCell] at this ⊢; omega
      · have := hgr.size; simp [World.setCell] at this ⊢; omega
  case done =>
    rintro D W hD ⟨vl, c1, c2, c3, c4, c5, c6⟩ hK
    have hc := c1.cell (j := 0) rfl
    gi_wp2
    refine ⟨by simp, .inl ⟨_, _, rfl, run_takeDeferred hK, ?_⟩⟩
    exact ⟨_, results_tmp rfl _ _ _, vl, rfl, ownsRow_putObj c2 _ hK rfl, c4.grown (grownBy_putObj' W D _) c4.size (fun k e => by cases e; omega)⟩
end Go.Proofs.Ythobbcafemkhbaa
