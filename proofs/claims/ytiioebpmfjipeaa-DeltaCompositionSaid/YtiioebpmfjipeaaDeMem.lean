/- The index in memory: one box with the two rows that it owns. -/
import Derived.Test.YtiioebpmfjipeaaProg
import Derived.Test.YtiioebpmfjipeaaMem
import Derived.Test.YtiioebpmfjipeaaSam
namespace Go.Proofs.Ytiioebpmfjipeaa
open Go.RowKit

/-! ### rows of records, flat -/
section
variable {α : Type} {f : α → List Value} {sz : Nat}
theorem flat_len (hf : ∀ x, (f x).length = sz) : ∀ l : List α, (l.flatMap f).length = l.length * sz
  | [] => by simp
  | x :: l => by rw [List.flatMap_cons, List.length_append, hf, flat_len hf l, List.length_cons, Nat.add_mul]; omega
theorem flat_get (hf : ∀ x, (f x).length = sz) : ∀ (l : List α) (i k : Nat) (x : α), l[i]? = some x → k < sz → (l.flatMap f)[i * sz + k]? = (f x)[k]?
  | [], i, k, x, h, hk => by simp at h
  | y :: l, 0, k, x, h, hk => by
    simp only [List.getElem?_cons_zero, Option.some.injEq] at h
    subst h
    rw [List.flatMap_cons, Nat.zero_mul, Nat.zero_add, List.getElem?_append_left (by rw [hf]; exact hk)]
  | y :: l, i + 1, k, x, h, hk => by
    rw [List.getElem?_cons_succ] at h
    have e : (i + 1) * sz + k = (f y).length + (i * sz + k) := by rw [hf, Nat.add_mul]; omega
    rw [List.flatMap_cons, e, List.getElem?_append_right (by omega), Nat.add_sub_cancel_left]
    exact flat_get hf l i k x h hk
theorem flat_set (hf : ∀ x, (f x).length = sz) : ∀ (l : List α) (i k : Nat) (x x' : α) (u : Value), l[i]? = some x → k < sz → f x' = (f x).set k u → (l.flatMap f).set (i * sz + k) u = (l.set i x').flatMap f
  | [], i, k, x, x', u, h, hk, e => by simp at h
  | y :: l, 0, k, x, x', u, h, hk, e => by
    simp only [List.getElem?_cons_zero, Option.some.injEq] at h
    subst h
    rw [List.flatMap_cons, Nat.zero_mul, Nat.zero_add, List.set_append_left _ _ (by rw [hf]; exact hk), List.set_cons_zero, List.flatMap_cons, e]
  | y :: l, i + 1, k, x, x', u, h, hk, e => by
    rw [List.getElem?_cons_succ] at h
    have e1 : (i + 1) * sz + k = (f y).length + (i * sz + k) := by rw [hf, Nat.add_mul]; omega
    rw [List.flatMap_cons, e1, List.set_append_right _ _ (by omega), Nat.add_sub_cancel_left, List.set_cons_succ, List.flatMap_cons, flat_set hf l i k x x' u h hk e]
end

def optI : Option Nat → Int
  | none => -1
  | some n => n
theorem optI_none : optI none = -1 := rfl
theorem optI_some (n : Nat) : optI (some n) = n := rfl
def ndC (x : Nd) : List Value := [.int .i64 x.len, .int .i64 (optI x.link), .int .i64 x.fin, .int .i64 (optI x.edge)]
def edC (x : Ed) : List Value := [.int .u8 x.letter.toNat, .int .i64 x.to, .int .i64 (optI x.next)]
theorem ndC_len (x : Nd) : (ndC x).length = 4 := rfl
theorem edC_len (x : Ed) : (edC x).length = 3 := rfl

def OwnB (v : Value) : Nat → Prop := fun b => v.ownBlock = some b

/-- The index: its box, the nodes, the edges. -/
structure IdxV (w : World) (B g : Nat) (vn ve : Value) (ns : List Nd) (es : List Ed) : Prop where
  box : Blk w g 86 #[vn, ve]
  base : B ≤ g
  nodes : w.ownsRow B 82 4 vn ns.length (ns.flatMap ndC)
  edges : w.ownsRow B 98 3 ve es.length (es.flatMap edC)
def IdxM (w : World) (B g : Nat) (ns : List Nd) (es : List Ed) : Prop := ∃ vn ve, IdxV w B g vn ve ns es

theorem own_at {w : World} {B : Nat} {e : TypeId} {sz n : Nat} {v : Value} {xs : List Value} (h : w.ownsRow B e sz v n xs) (hn : 0 < n) : ∃ g c, v = .slice (some ⟨g, 0, none⟩) n c ∧ n ≤ c ∧ c ≤ maxLen ∧ B ≤ g ∧ g < w.heap.size := by
  rcases h.2 with ⟨_, hx⟩ | ⟨g, cap, cur, rfl, hb, hg, hnc, hcm, hcs, htake⟩
  · omega
  · exact ⟨g, cap, rfl, hnc, hcm, hb, (Array.getElem?_eq_some_iff.1 hg).1⟩
section
variable {w w' : World} {B g : Nat} {vn ve : Value} {ns : List Nd} {es : List Ed}
theorem IdxV.keep (h : IdxV w B g vn ve ns es) (k : Below w.heap.size w w') : IdxV w' B g vn ve ns es :=
  ⟨h.box.keep k, h.base, own_stab (M := fun _ => False) h.nodes (fun _ _ h => h) _ (Agree.of_below k _), own_stab (M := fun _ => False) h.edges (fun _ _ h => h) _ (Agree.of_below k _)⟩
theorem IdxV.node_at (h : IdxV w B g vn ve ns es) {v : Nat} {x : Nd} (hx : ns[v]? = some x) : ∃ gn cn, vn = .slice (some ⟨gn, 0, none⟩) ns.length cn ∧ v < ns.length ∧ ns.length ≤ cn ∧ cn ≤ maxLen ∧
    w.cell? ⟨gn, v * 4, none⟩ = some (.int .i64 x.len) ∧ w.cell? ⟨gn, v * 4 + 1, none⟩ = some (.int .i64 (optI x.link)) ∧ w.cell? ⟨gn, v * 4 + 2, none⟩ = some (.int .i64 x.fin) ∧ w.cell? ⟨gn, v * 4 + 3, none⟩ = some (.int .i64 (optI x.edge)) := by
  have hv := (List.getElem?_eq_some_iff.1 hx).1
  have ho := h.nodes
  obtain ⟨gn, cn, rfl, h1, h2, _, _⟩ := own_at ho (by omega)
  refine ⟨gn, cn, rfl, hv, h1, h2, ?_, ?_, ?_, ?_⟩
  · have := ho.cellAt (v * 4) (by omega)
    rw [this, show v * 4 = v * 4 + 0 by omega, flat_get ndC_len ns v 0 x hx (by omega)]; rfl
  · rw [ho.cellAt (v * 4 + 1) (by omega), flat_get ndC_len ns v 1 x hx (by omega)]; rfl
  · rw [ho.cellAt (v * 4 + 2) (by omega), flat_get ndC_len ns v 2 x hx (by omega)]; rfl
  · rw [ho.cellAt (v * 4 + 3) (by omega), flat_get ndC_len ns v 3 x hx (by omega)]; rfl
theorem IdxV.edge_at (h : IdxV w B g vn ve ns es) {v : Nat} {x : Ed} (hx : es[v]? = some x) : ∃ gn cn, ve = .slice (some ⟨gn, 0, none⟩) es.length cn ∧ v < es.length ∧ es.length ≤ cn ∧ cn ≤ maxLen ∧
    w.cell? ⟨gn, v * 3, none⟩ = some (.int .u8 x.letter.toNat) ∧ w.cell? ⟨gn, v * 3 + 1, none⟩ = some (.int .i64 x.to) ∧ w.cell? ⟨gn, v * 3 + 2, none⟩ = some (.int .i64 (optI x.next)) := by
  have hv := (List.getElem?_eq_some_iff.1 hx).1
  have ho := h.edges
  obtain ⟨gn, cn, rfl, h1, h2, _, _⟩ := own_at ho (by omega)
  refine ⟨gn, cn, rfl, hv, h1, h2, ?_, ?_, ?_⟩
  · have := ho.cellAt (v * 3) (by omega)
    rw [this, show v * 3 = v * 3 + 0 by omega, flat_get edC_len es v 0 x hx (by omega)]; rfl
  · rw [ho.cellAt (v * 3 + 1) (by omega), flat_get edC_len es v 1 x hx (by omega)]; rfl
  · rw [ho.cellAt (v * 3 + 2) (by omega), flat_get edC_len es v 2 x hx (by omega)]; rfl
theorem rows_apart {e e' : TypeId} {sz sz' n n' : Nat} {v v' : Value} {xs xs' : List Value} (h : w.ownsRow B e sz v n xs) (h' : w.ownsRow B e' sz' v' n' xs') (hne : e ≠ e') : ∀ b, v.ownBlock = some b → v'.ownBlock ≠ some b := by
  intro b hb
  rcases h.2 with ⟨rfl, _⟩ | ⟨g1, cap, cur, rfl, _, hg, _⟩
  · simp [Value.ownBlock] at hb
  · have e1 : g1 = b := by simpa [Value.ownBlock] using hb
    subst e1
    exact own_ne_type h' (t := e) (cs := cur) hg (fun e => hne e.symm)
/-- A cell of a node is written. -/
theorem IdxV.put_node (h : IdxV w B g vn ve ns es) {v k : Nat} {x x' : Nd} {u : Value} (hx : ns[v]? = some x) (hk : k < 4) (hu : ndC x' = (ndC x).set k u) : ∃ gn cn, vn = .slice (some ⟨gn, 0, none⟩) ns.length cn ∧ B ≤ gn ∧ gn < w.heap.size ∧
    w.frozen? ⟨gn, v * 4 + k, none⟩ = false ∧ IdxV (w.setCell ⟨gn, v * 4 + k, none⟩ u) B g vn ve (ns.set v x') es := by
  have hv := (List.getElem?_eq_some_iff.1 hx).1
  have ho := h.nodes
  obtain ⟨gn, cn, rfl, h1, h2, h3, h4⟩ := own_at ho (by omega)
  obtain ⟨s1, s2⟩ := ho.stored (v * 4 + k) u
  rw [flat_set ndC_len ns v k x x' u hx hk hu] at s1
  have hgn : g ≠ gn := fun e => own_ne_type ho h.box (by decide) (by rw [e]; rfl)
  refine ⟨gn, cn, rfl, h3, h4, ho.frozenAt _, h.box.far (p := ⟨gn, v * 4 + k, none⟩) hgn u, h.base, by rw [List.length_set]; exact s1, ?_⟩
  exact own_stab (M := fun b => b = gn) h.edges (fun b hb e => rows_apart h.edges ho (by decide) b hb (by rw [e]; rfl)) _ (Agree.set1 w gn _ u)
theorem IdxV.put_edge (h : IdxV w B g vn ve ns es) {v k : Nat} {x x' : Ed} {u : Value} (hx : es[v]? = some x) (hk : k < 3) (hu : edC x' = (edC x).set k u) : ∃ gn cn, ve = .slice (some ⟨gn, 0, none⟩) es.length cn ∧ B ≤ gn ∧ gn < w.heap.size ∧
    w.frozen? ⟨gn, v * 3 + k, none⟩ = false ∧ IdxV (w.setCell ⟨gn, v * 3 + k, none⟩ u) B g vn ve ns (es.set v x') := by
  have hv := (List.getElem?_eq_some_iff.1 hx).1
  have ho := h.edges
  obtain ⟨gn, cn, rfl, h1, h2, h3, h4⟩ := own_at ho (by omega)
  obtain ⟨s1, s2⟩ := ho.stored (v * 3 + k) u
  rw [flat_set edC_len es v k x x' u hx hk hu] at s1
  have hgn : g ≠ gn := fun e => own_ne_type ho h.box (by decide) (by rw [e]; rfl)
  refine ⟨gn, cn, rfl, h3, h4, ho.frozenAt _, h.box.far (p := ⟨gn, v * 3 + k, none⟩) hgn u, h.base, ?_, by rw [List.length_set]; exact s1⟩
  exact own_stab (M := fun b => b = gn) h.nodes (fun b hb e => rows_apart h.nodes ho (by decide) b hb (by rw [e]; rfl)) _ (Agree.set1 w gn _ u)
/-- The rows grow: the new row's value goes into the box. -/
theorem IdxV.grow_nodes (h : IdxV w B g vn ve ns es) {vn' : Value} {x : Nd} (ho : w'.ownsRow B 82 4 vn' (ns.length + 1) (ns.flatMap ndC ++ ndC x)) (hg : w.grownBy w' vn.ownBlock) (hgn : vn.ownBlock ≠ some g) :
    IdxV (w'.setCell ⟨g, 0, none⟩ vn') B g vn' ve (ns ++ [x]) es := by
  have hA : Agree (OwnB vn) w w' := Agree.of_grown hg fun b hb => hb
  have hbox : Blk w' g 86 #[vn, ve] := blk_stab h.box (M := OwnB vn) (fun e => hgn e) _ hA
  have he : w'.ownsRow B 98 3 ve es.length (es.flatMap edC) := own_stab (M := OwnB vn) h.edges (fun b hb e => rows_apart h.edges h.nodes (by decide) b hb e) _ hA
  refine ⟨hbox.set 0 vn', h.base, ?_, ?_⟩
  · have := own_stab (M := fun b => b = g) ho (fun b hb e => own_ne_type ho hbox (by decide) (by rw [← e]; exact hb)) _ (Agree.set1 w' g 0 vn')
    simpa using this
  · exact own_stab (M := fun b => b = g) he (fun b hb e => own_ne_type he hbox (by decide) (by rw [← e]; exact hb)) _ (Agree.set1 w' g 0 vn')
theorem IdxV.grow_edges (h : IdxV w B g vn ve ns es) {ve' : Value} {x : Ed} (ho : w'.ownsRow B 98 3 ve' (es.length + 1) (es.flatMap edC ++ edC x)) (hg : w.grownBy w' ve.ownBlock) (hgn : ve.ownBlock ≠ some g) :
    IdxV (w'.setCell ⟨g, 1, none⟩ ve') B g vn ve' ns (es ++ [x]) := by
  have hA : Agree (OwnB ve) w w' := Agree.of_grown hg fun b hb => hb
  have hbox : Blk w' g 86 #[vn, ve] := blk_stab h.box (M := OwnB ve) (fun e => hgn e) _ hA
  have hn : w'.ownsRow B 82 4 vn ns.length (ns.flatMap ndC) := own_stab (M := OwnB ve) h.nodes (fun b hb e => rows_apart h.nodes h.edges (by decide) b hb e) _ hA
  refine ⟨hbox.set 1 ve', h.base, ?_, ?_⟩
  · exact own_stab (M := fun b => b = g) hn (fun b hb e => own_ne_type hn hbox (by decide) (by rw [← e]; exact hb)) _ (Agree.set1 w' g 1 ve')
  · have := own_stab (M := fun b => b = g) ho (fun b hb e => own_ne_type ho hbox (by decide) (by rw [← e]; exact hb)) _ (Agree.set1 w' g 1 ve')
    simpa using this
end
end Go.Proofs.Ytiioebpmfjipeaa
