/- Words for memory that the call makes and writes: whole blocks, rows that grow, what stays as it was. Over any program. -/
import Derived.Test.YtockmhhiomdlkaaBase
import Derived.Maps.AppendAt
namespace Go.Proofs.Ytockmhhiomdlkaa
set_option linter.unusedSimpArgs false
set_option linter.unusedVariables false
open Go.RowKit

/-! ### a block known whole -/

def Blk (w : World) (g : Nat) (t : TypeId) (cs : Array Value) : Prop := w.heap[g]? = some (.cells cs t (0, 0))

section
variable {w w' : World} {g : Nat} {t : TypeId} {cs : Array Value}
theorem Blk.lt (h : Blk w g t cs) : g < w.heap.size := (Array.getElem?_eq_some_iff.1 h).1
theorem Blk.cell (h : Blk w g t cs) {j : Nat} {u : Value} (hj : cs[j]? = some u) : w.cell? ⟨g, j, none⟩ = some u := by
  rw [cell_of_row w g j cs t (0, 0) h]; exact hj
theorem Blk.frozen (h : Blk w g t cs) (j : Nat) : w.frozen? ⟨g, j, none⟩ = false := by
  unfold Blk at h
  simp [World.frozen?, h]
theorem Blk.new (w : World) (cs : Array Value) (t : TypeId) : Blk (w.alloc (.cells cs t)) w.heap.size t cs := heap_alloc_new w _
theorem Blk.drewN (h : Blk w g t cs) (n : Nat) : Blk (w.drewN n) g t cs := h
theorem Blk.drew (h : Blk w g t cs) : Blk w.drew g t cs := h
theorem Blk.alloc (h : Blk w g t cs) (o : Obj) : Blk (w.alloc o) g t cs := (Below.heap_alloc w o g h.lt).trans h
theorem Blk.set (h : Blk w g t cs) (i : Nat) (u : Value) : Blk (w.setCell ⟨g, i, none⟩ u) g t (cs.setIfInBounds i u) := by
  unfold Blk at h ⊢
  simp [World.setCell, Array.getElem?_modify, h]
theorem Blk.far (h : Blk w g t cs) {p : Addr} (hp : g ≠ p.block) (u : Value) : Blk (w.setCell p u) g t cs := (Below.heap_setCell w p u g hp).trans h
theorem Blk.below {B : Nat} (h : Blk w g t cs) (hb : Below B w w') (hg : g < B) : Blk w' g t cs := (hb.block g hg).trans h
theorem Blk.keep (h : Blk w g t cs) (hb : Below w.heap.size w w') : Blk w' g t cs := (hb.block g h.lt).trans h
theorem Blk.grown {row : Option Nat} (h : Blk w g t cs) (hb : w.grownBy w' row) (hg : some g ≠ row) : Blk w' g t cs := (hb.block g h.lt hg).trans h
theorem Blk.cellsAt (h : Blk w g t cs) : CellsAt w (some ⟨g, 0, none⟩) cs.toList := by
  intro k u hu
  exact ⟨_, _, rfl, by rw [Nat.zero_add]; exact h.cell (by simpa using hu)⟩
theorem Blk.own (h : Blk w g t cs) {base : Nat} (hb : base ≤ g) {cap sz n : Nat} (hc : cs.size = cap * sz) (hm : cap ≤ maxLen) (hn : n ≤ cap) :
    w.ownsRow base t sz (.slice (some ⟨g, 0, none⟩) n cap) n (cs.toList.take (n * sz)) := by
  refine ⟨?_, .inr ⟨g, cap, cs, rfl, hb, h, hn, hm, hc, rfl⟩⟩
  rw [List.length_take, Array.length_toList, hc]
  exact Nat.min_eq_left (Nat.mul_le_mul_right _ hn)
end

theorem madeCells_one {z : Value} (hz : z.cells = #[z]) (n : Nat) : madeCells z.cells n = Array.replicate n z := by
  rw [hz]
  apply Array.ext
  · simp [madeCells]
  · intro i h1 h2
    simp [madeCells, Nat.mod_one]

section
variable {P : Program} (w : World)
/-- 'make([]T, n)' of one-cell elements: a whole block. -/
theorem wpList_make_blk {ops : Array Oper} {rest : List Oper} {o : Oper} {a : Act} {Q : Exit → Act → World → Prop}
    (hgd : o.guard = none) (l c : Operand) (t : TypeId) (hop : o.op = Op.makeSlice t l c)
    (e : TypeId) (i : TypeInfo) (z : Value) (h1 : P.underlying t = some (.slice e)) (h2 : P.info? e = some i) (h3 : i.zero = some z) (h4 : i.size = 1) (hz : z.cells = #[z])
    (kl kc : IntKind) (L C : Int) (n : Nat) (hl : a.eval l = .int kl L) (hc : a.eval c = .int kc C) (hL : L = (n : Int)) (hC : C = (n : Int)) (b2 : i.bytes * n ≤ 281474976710656) (b3 : n ≤ 9223372036854775807)
    (hK : ∀ g w', w.heap.size ≤ g → Blk w' g e (Array.replicate n z) → Below w.heap.size w w' → wpList P ops Q rest (a.put o.dst (.slice (some ⟨g, 0, none⟩) n n)) w') :
    wpList P ops Q (o :: rest) a w := by
  refine wpList_plain hgd fun K hK' => ?_
  subst hL
  subst hC
  have hb : (i.bytes : Int) * (n : Int) ≤ 281474976710656 := by
    have h : ((i.bytes * n : Nat) : Int) ≤ 281474976710656 := by omega
    rwa [Int.natCast_mul] at h
  have hrun := run_make (P := P) w t e i z h1 h2 h3 kl kc n n (by omega) (by omega) hb (by omega)
  simp only [Int.toNat_natCast, h4, Nat.mul_one] at hrun
  rw [madeCells_one hz] at hrun
  unfold Oper.wp
  simp [execOp, hop, hl, hc, hrun, Result.andThen]
  exact hK' _ _ (hK _ _ (Nat.le_refl _) (Blk.new _ _ _) ((Below.refl _ _).alloc (Nat.le_refl _) _))

/-- 'append(s, xs...)' onto a row of the call's own; the source is any slice that reads as cells. -/
theorem wpList_append_any {ops : Array Oper} {rest : List Oper} {o : Oper} {a : Act} {Q : Exit → Act → World → Prop} (hgd : o.guard = none) (s x : Operand) (t : TypeId)
    (ho : o.op = .call { callee := .builtin .append, args := #[s, x], argTypes := #[t, t] })
    (base : Nat) (e : TypeId) (i : TypeInfo) (z : Value) (size bytes : Nat) (ht : P.underlying t = some (.slice e)) (hi : P.info? e = some i) (hz : i.zero = some z)
    (hsize : i.size = size) (hby : i.bytes = bytes) (hzs : z.cells.size = size) (hsz : 0 < size)
    (v : Value) (n : Nat) (xs : List Value) (hs : a.eval s = v) (hown : w.ownsRow base e size v n xs)
    (A : Option Addr) (m c : Nat) (news : List Value) (hx : a.eval x = .slice A m c) (hl : news.length = m * size) (hr : CellsAt w A news) (h1 : ∀ u ∈ news, u.oneCell' = true)
    (h63 : n + m ≤ 9223372036854775807) (hbytes : (n + m) * bytes ≤ 140737488355328) (hbase : base ≤ w.heap.size)
    (h : ∀ v' w', w'.ownsRow base e size v' (n + m) (xs ++ news) → w.grownBy w' v.ownBlock → (v'.ownBlock = v.ownBlock ∨ v'.ownBlock = some w.heap.size) → wpList P ops Q rest (a.put o.dst v') w') :
    wpList P ops Q (o :: rest) a w := by
  refine wpList_plain hgd fun K hK => ?_
  have h63' : n + m ≤ maxLen := by unfold maxLen; omega
  rcases A with _ | ad
  · have hn : news = [] := by
      cases news with
      | nil => rfl
      | cons u us =>
        obtain ⟨_, _, e, _⟩ := hr 0 u rfl
        cases e
    subst hn
    have hm : m = 0 := by
      have h2 : m * size = 0 := hl.symm
      rcases Nat.mul_eq_zero.1 h2 with h | h
      · exact h
      · omega
    subst hm
    have hrun : (Builtin.append_ #[t, t] o.type #[v, .slice none 0 c]).run P w = .ok v w := by
      rcases hown.2 with ⟨rfl, rfl⟩ | ⟨g, cap, cur, rfl, _, _, hnc, _⟩
      · simp [Builtin.append_, run_underlying ht, sizeOf, typeInfo, hi, Builtin.lenOf, Builtin.firstCells]
      · simp [Builtin.append_, run_underlying ht, sizeOf, typeInfo, hi, Builtin.lenOf, Builtin.firstCells, hnc, storeCells]
    unfold Oper.wp execOp
    simp only [ho, resolve, invoke, builtin, Sem.run_bind, Sem.run_pure, Result.andThen_ok, List.map_toArray, List.map_cons, List.map_nil, hs, hx, hrun]
    exact hK _ _ (h v w (by simpa using hown) (World.grownBy.refl w _) (.inl rfl))
  · obtain ⟨v', w', hrun, h2, h3, _, h5⟩ := run_append_own_at (P := P) w base t o.type e i z size bytes ht hi hz hsize hby hzs hsz v n xs hown ad m c news hl hr.kit h1 h63' hbytes hbase
    unfold Oper.wp execOp
    simp only [ho, resolve, invoke, builtin, Sem.run_bind, Sem.run_pure, Result.andThen_ok, List.map_toArray, List.map_cons, List.map_nil, hs, hx, hrun]
    exact hK _ _ (h v' w' h2 h3 h5)
end

/-- The same as one step of a region that draws its order. -/
theorem step_append_any {P : Program} (w : World) {ops : Array Oper} {o : Oper} {a : Act} {K : Act → World → Prop} {Q : Exit → Act → World → Prop} {E : Prop} (hgd : o.guard = none) (s x : Operand) (t : TypeId)
    (ho : o.op = .call { callee := .builtin .append, args := #[s, x], argTypes := #[t, t] })
    (base : Nat) (e : TypeId) (i : TypeInfo) (z : Value) (size bytes : Nat) (ht : P.underlying t = some (.slice e)) (hi : P.info? e = some i) (hz : i.zero = some z)
    (hsize : i.size = size) (hby : i.bytes = bytes) (hzs : z.cells.size = size) (hsz : 0 < size)
    (v : Value) (n : Nat) (xs : List Value) (hs : a.eval s = v) (hown : w.ownsRow base e size v n xs)
    (A : Option Addr) (m c : Nat) (news : List Value) (hx : a.eval x = .slice A m c) (hl : news.length = m * size) (hr : CellsAt w A news) (h1 : ∀ u ∈ news, u.oneCell' = true)
    (h63 : n + m ≤ 9223372036854775807) (hbytes : (n + m) * bytes ≤ 140737488355328) (hbase : base ≤ w.heap.size)
    (h : ∀ v' w', w'.ownsRow base e size v' (n + m) (xs ++ news) → w.grownBy w' v.ownBlock → (v'.ownBlock = v.ownBlock ∨ v'.ownBlock = some w.heap.size) → K (a.put o.dst v') w') :
    if Region.wanted o (yielded ops a.tmps) = true then Oper.wp P o a w K Q else E := by
  have hw : Region.wanted o (yielded ops a.tmps) = true := by simp [Region.wanted, hgd]
  rw [if_pos hw]
  have h63' : n + m ≤ maxLen := by unfold maxLen; omega
  rcases A with _ | ad
  · have hn : news = [] := by
      cases news with
      | nil => rfl
      | cons u us =>
        obtain ⟨_, _, e, _⟩ := hr 0 u rfl
        cases e
    subst hn
    have hm : m = 0 := by
      have h2 : m * size = 0 := hl.symm
      rcases Nat.mul_eq_zero.1 h2 with h | h
      · exact h
      · omega
    subst hm
    have hrun : (Builtin.append_ #[t, t] o.type #[v, .slice none 0 c]).run P w = .ok v w := by
      rcases hown.2 with ⟨rfl, rfl⟩ | ⟨g, cap, cur, rfl, _, _, hnc, _⟩
      · simp [Builtin.append_, run_underlying ht, sizeOf, typeInfo, hi, Builtin.lenOf, Builtin.firstCells]
      · simp [Builtin.append_, run_underlying ht, sizeOf, typeInfo, hi, Builtin.lenOf, Builtin.firstCells, hnc, storeCells]
    unfold Oper.wp execOp
    simp only [ho, resolve, invoke, builtin, Sem.run_bind, Sem.run_pure, Result.andThen_ok, List.map_toArray, List.map_cons, List.map_nil, hs, hx, hrun]
    exact h v w (by simpa using hown) (World.grownBy.refl w _) (.inl rfl)
  · obtain ⟨v', w', hrun, h2, h3, _, h5⟩ := run_append_own_at (P := P) w base t o.type e i z size bytes ht hi hz hsize hby hzs hsz v n xs hown ad m c news hl hr.kit h1 h63' hbytes hbase
    unfold Oper.wp execOp
    simp only [ho, resolve, invoke, builtin, Sem.run_bind, Sem.run_pure, Result.andThen_ok, List.map_toArray, List.map_cons, List.map_nil, hs, hx, hrun]
    exact h v' w' h2 h3 h5

/-! ### reslicing, the value under one name -/
section
variable {P : Program} {α : Type} {sz : Nat} {R : List Value → α → Prop}
theorem run_at_both (t e : TypeId) (ti : TypeInfo) (ht : P.underlying t = some (.slice e)) (hti : P.info? e = some ti) (hsz : ti.size = sz) (w : World) {A : Option Addr} {n c : Nat} {xs : List α} (hx : Sl w sz R (.slice A n c) xs)
    (k1 k2 : IntKind) (i j : Nat) (hij : i ≤ j) (hj : j ≤ n) : ∃ A' c', (∀ w', (Instr.sliceAt t (.slice A n c) (some (.int k1 (i : Int))) (some (.int k2 (j : Int))) none).run P w' = .ok (.slice A' (j - i) c') w') ∧ Sl w sz R (.slice A' (j - i) c') ((xs.drop i).take (j - i)) := by
  have hel : P.elem t = e := by simp [Program.elem, ht]
  obtain ⟨A0, c0, vs, e0, g1, g2, _⟩ := id hx
  cases e0
  refine ⟨_, _, fun w' => ?_, hx.sliced hij hj⟩
  subst hsz
  have hr := run_slice_lh (P := P) w' t A xs.length c (by rw [hel]; exact ht) k1 k2 i j (by omega) (by omega) (by omega)
  have hs : (sizeOf (P.elem t)).run P w' = .ok ti.size w' := by rw [hel]; simp [sizeOf, typeInfo, hti]
  rw [hs] at hr
  rw [run_sliceAt_slice w' t _ _ _ _ (by rw [hel]; exact ht), hr]
  simp [Result.andThen, Go.sliced]
theorem run_at_from (t e : TypeId) (ti : TypeInfo) (ht : P.underlying t = some (.slice e)) (hti : P.info? e = some ti) (hsz : ti.size = sz) (w : World) {A : Option Addr} {n c : Nat} {xs : List α} (hx : Sl w sz R (.slice A n c) xs)
    (k1 : IntKind) (i : Nat) (hi : i ≤ n) : ∃ A' c', (∀ w', (Instr.sliceAt t (.slice A n c) (some (.int k1 (i : Int))) none none).run P w' = .ok (.slice A' (n - i) c') w') ∧ Sl w sz R (.slice A' (n - i) c') (xs.drop i) := by
  have hel : P.elem t = e := by simp [Program.elem, ht]
  obtain ⟨A0, c0, vs, e0, g1, g2, _⟩ := id hx
  cases e0
  have hsl := hx.sliced (i := i) (j := xs.length) hi (Nat.le_refl _)
  rw [List.take_of_length_le (by simp)] at hsl
  refine ⟨_, _, fun w' => ?_, hsl⟩
  subst hsz
  have hr := run_slice_l (P := P) w' t A xs.length c (by rw [hel]; exact ht) k1 i (by omega) (by omega)
  have hs : (sizeOf (P.elem t)).run P w' = .ok ti.size w' := by rw [hel]; simp [sizeOf, typeInfo, hti]
  rw [hs] at hr
  rw [run_sliceAt_slice w' t _ _ _ _ (by rw [hel]; exact ht), hr]
  simp [Result.andThen, Go.sliced]
theorem run_at_to (t e : TypeId) (ti : TypeInfo) (ht : P.underlying t = some (.slice e)) (hti : P.info? e = some ti) (hsz : ti.size = sz) (w : World) {A : Option Addr} {n c : Nat} {xs : List α} (hx : Sl w sz R (.slice A n c) xs)
    (k2 : IntKind) (j : Nat) (hj : j ≤ n) : ∃ A' c', (∀ w', (Instr.sliceAt t (.slice A n c) none (some (.int k2 (j : Int))) none).run P w' = .ok (.slice A' j c') w') ∧ Sl w sz R (.slice A' j c') (xs.take j) := by
  have hel : P.elem t = e := by simp [Program.elem, ht]
  obtain ⟨A0, c0, vs, e0, g1, g2, _⟩ := id hx
  cases e0
  have hsl := hx.sliced (i := 0) (j := j) (by omega) hj
  simp only [Nat.sub_zero, List.drop_zero] at hsl
  have hv : sliced A 0 j c sz = .slice (if c = 0 then A else A.map (·.add (0 * sz))) j c := by simp [sliced]
  rw [hv] at hsl
  refine ⟨_, _, fun w' => ?_, hsl⟩
  subst hsz
  have hr := run_slice_h (P := P) w' t A xs.length c (by rw [hel]; exact ht) k2 j (by omega) (by omega)
  have hs : (sizeOf (P.elem t)).run P w' = .ok ti.size w' := by rw [hel]; simp [sizeOf, typeInfo, hti]
  rw [hs] at hr
  rw [run_sliceAt_slice w' t _ _ _ _ (by rw [hel]; exact ht), hr]
  simp [Result.andThen, Go.sliced]
theorem run_at_both' (t e : TypeId) (ti : TypeInfo) (ht : P.underlying t = some (.slice e)) (hti : P.info? e = some ti) (hsz : ti.size = sz) {A : Option Addr} {n c : Nat} (hc : n ≤ c)
    (k1 k2 : IntKind) (i j : Nat) (hij : i ≤ j) (hj : j ≤ n) : ∃ A' c', (∀ w', (Instr.sliceAt t (.slice A n c) (some (.int k1 (i : Int))) (some (.int k2 (j : Int))) none).run P w' = .ok (.slice A' (j - i) c') w') ∧
      ∀ (w : World) (xs : List α), Sl w sz R (.slice A n c) xs → Sl w sz R (.slice A' (j - i) c') ((xs.drop i).take (j - i)) := by
  have hel : P.elem t = e := by simp [Program.elem, ht]
  refine ⟨_, _, fun w' => ?_, fun w xs hx => hx.sliced hij hj⟩
  subst hsz
  have hr := run_slice_lh (P := P) w' t A n c (by rw [hel]; exact ht) k1 k2 i j (by omega) (by omega) (by omega)
  have hs : (sizeOf (P.elem t)).run P w' = .ok ti.size w' := by rw [hel]; simp [sizeOf, typeInfo, hti]
  rw [hs] at hr
  rw [run_sliceAt_slice w' t _ _ _ _ (by rw [hel]; exact ht), hr]
  simp [Result.andThen, Go.sliced]
end

/-! ### what stays as it was, but for some blocks -/

structure Agree (M : Nat → Prop) (w w' : World) : Prop where
  size : w.heap.size ≤ w'.heap.size
  block : ∀ b, b < w.heap.size → ¬ M b → w'.heap[b]? = w.heap[b]?

theorem Agree.refl (M : Nat → Prop) (w : World) : Agree M w w := ⟨Nat.le_refl _, fun _ _ _ => rfl⟩
theorem Agree.trans {M : Nat → Prop} {a b c : World} (h : Agree M a b) (k : Agree M b c) : Agree M a c :=
  ⟨Nat.le_trans h.size k.size, fun i hi hn => (k.block i (Nat.lt_of_lt_of_le hi h.size) hn).trans (h.block i hi hn)⟩
theorem Agree.mono {M M' : Nat → Prop} {a b : World} (h : Agree M a b) (hm : ∀ i, i < a.heap.size → M i → M' i) : Agree M' a b :=
  ⟨h.size, fun i hi hn => h.block i hi fun hM => hn (hm i hi hM)⟩
theorem Agree.of_below {a b : World} (h : Below a.heap.size a b) (M : Nat → Prop) : Agree M a b := ⟨h.size, fun i hi _ => h.block i hi⟩
theorem Agree.of_grown {a b : World} {row : Option Nat} (h : a.grownBy b row) {M : Nat → Prop} (hm : ∀ g, row = some g → M g) : Agree M a b :=
  ⟨h.size, fun i hi hn => h.block i hi fun e => hn (hm i e.symm)⟩
theorem Agree.alloc {M : Nat → Prop} (w : World) (o : Obj) : Agree M w (w.alloc o) := ⟨by simp, fun i hi _ => Below.heap_alloc w o i hi⟩
theorem Agree.setCell {M : Nat → Prop} (w : World) {p : Addr} (hp : M p.block) (u : Value) : Agree M w (w.setCell p u) :=
  ⟨by simp [World.setCell], fun i _ hn => Below.heap_setCell w p u i (fun e => hn (e ▸ hp))⟩
theorem Agree.set1 (w : World) (b o : Nat) (u : Value) : Agree (fun g => g = b) w (w.setCell ⟨b, o, none⟩ u) := Agree.setCell (M := fun g => g = b) w (p := ⟨b, o, none⟩) rfl u
theorem Agree.drewN {M : Nat → Prop} (w : World) (n : Nat) : Agree M w (w.drewN n) := ⟨Nat.le_refl _, fun _ _ _ => rfl⟩

/-- φ holds, and goes on holding while only blocks in M, and new ones, are written. -/
def Stab (w : World) (M : Nat → Prop) (φ : World → Prop) : Prop := ∀ w', Agree M w w' → φ w'
theorem Stab.now {w : World} {M : Nat → Prop} {φ : World → Prop} (h : Stab w M φ) : φ w := h w (Agree.refl _ _)
theorem Stab.go {w w' : World} {M : Nat → Prop} {φ : World → Prop} (h : Stab w M φ) (k : Agree M w w') : Stab w' M φ := fun _ h' => h _ (k.trans h')
theorem Stab.mono {w : World} {M M' : Nat → Prop} {φ : World → Prop} (h : Stab w M φ) (hm : ∀ i, i < w.heap.size → M' i → M i) : Stab w M' φ := fun _ k => h _ (k.mono hm)
theorem Stab.shift {w w' : World} {M M' : Nat → Prop} {φ : World → Prop} (h : Stab w M φ) (k : Agree M w w') (hm : ∀ b, b < w.heap.size → M' b → M b) : Stab w' M' φ := fun w2 k2 =>
  h w2 ⟨Nat.le_trans k.size k2.size, fun b hb hn => (k2.block b (Nat.lt_of_lt_of_le hb k.size) (fun h' => hn (hm b hb h'))).trans (k.block b hb hn)⟩
theorem Stab.imp {w : World} {M : Nat → Prop} {φ ψ : World → Prop} (h : Stab w M φ) (hi : ∀ w, φ w → ψ w) : Stab w M ψ := fun _ k => hi _ (h _ k)
theorem Stab.both {w : World} {M : Nat → Prop} {φ ψ : World → Prop} (h : Stab w M φ) (k : Stab w M ψ) : Stab w M fun w => φ w ∧ ψ w := fun w' a => ⟨h w' a, k w' a⟩

theorem own_form {w : World} {base : Nat} {e : TypeId} {sz n : Nat} {v : Value} {xs : List Value} (h : w.ownsRow base e sz v n xs) : ∃ A c, v = .slice A n c := by
  rcases h.2 with ⟨rfl, rfl⟩ | ⟨g, cap, cur, rfl, _⟩
  · exact ⟨_, _, rfl⟩
  · exact ⟨_, _, rfl⟩
section
variable {w : World}
theorem Blk.ne_type {g g' : Nat} {t t' : TypeId} {cs cs' : Array Value} (h : Blk w g t cs) (h' : Blk w g' t' cs') (hne : t ≠ t') : g ≠ g' := by
  rintro rfl
  unfold Blk at h h'
  rw [h] at h'
  injection h' with h'
  injection h' with _ ht
  exact hne ht
theorem own_ne_type {base : Nat} {e : TypeId} {size n : Nat} {v : Value} {xs : List Value} (h : w.ownsRow base e size v n xs) {g : Nat} {t : TypeId} {cs : Array Value} (hg : Blk w g t cs) (hne : e ≠ t) : v.ownBlock ≠ some g := by
  rcases h.2 with ⟨rfl, _⟩ | ⟨g', cap, cur, rfl, _, hh, _⟩
  · simp [Value.ownBlock]
  · intro he
    have e1 : g' = g := by simpa [Value.ownBlock] using he
    exact Blk.ne_type (t := e) hh hg hne e1

end
theorem own_stab {w : World} {M : Nat → Prop} {base : Nat} {e : TypeId} {sz n : Nat} {v : Value} {xs : List Value} (h : w.ownsRow base e sz v n xs) (hM : ∀ g, v.ownBlock = some g → ¬ M g) :
    Stab w M fun w' => w'.ownsRow base e sz v n xs := by
  intro w' k
  refine ⟨h.1, ?_⟩
  rcases h.2 with hn | ⟨g, cap, cur, rfl, hb, hg, rest⟩
  · exact .inl hn
  · exact .inr ⟨g, cap, cur, rfl, hb, (k.block g (Array.getElem?_eq_some_iff.1 hg).1 (hM g rfl)).trans hg, rest⟩
theorem Ow.stab {α : Type} {w : World} {M : Nat → Prop} {base : Nat} {e : TypeId} {sz : Nat} {R : List Value → α → Prop} {v : Value} {xs : List α} (h : Ow w base e sz R v xs) (hM : ∀ g, v.ownBlock = some g → ¬ M g) :
    Stab w M fun w' => Ow w' base e sz R v xs := by
  obtain ⟨vs, ho, he⟩ := h
  exact (own_stab ho hM).imp fun _ h => ⟨vs, h, he⟩
theorem blk_stab {w : World} {M : Nat → Prop} {g : Nat} {t : TypeId} {cs : Array Value} (h : Blk w g t cs) (hM : ¬ M g) : Stab w M fun w' => Blk w' g t cs :=
  fun _ k => (k.block g h.lt hM).trans h
end Go.Proofs.Ytockmhhiomdlkaa
