/- The law of promises with one operation that looks at no world and may come up late. -/
import Derived.Test.YtockmhhiomdlkaaProm2
namespace Go.Proofs.Ytockmhhiomdlkaa
set_option linter.unusedVariables false
set_option linter.unusedSimpArgs false
open Go.RowKit
section
variable {P : Program} {ops : Array Oper} {Q : Exit → Act → World → Prop} {md : Region.Mode}
/-- The checks: x is the one that may come late; sx may come up behind x. -/
def promB3 (md : Region.Mode) (ops : Array Oper) (m x : Nat) (sx : List Nat) (sz : Nat) : Bool :=
  decide (m ≤ ops.size) && decide (0 < x) && decide (x < m) && Region.noSelect ops && leadB md ops x sx && sx.all (fun j => decide (j < x)) &&
  (match ops[x]? with
   | none => false
   | some ox => ox.after.all (fun e => !(Region.binds md e) || decide (e.on < x)) && (List.range ops.size).all fun j => (decide (j ≤ x) && !sx.contains j) || (match ops[j]? with
     | none => false
     | some oj => (oj.after.any fun e => Region.binds md e && e.on == x) || ox.apart ops oj)) &&
  (List.range ops.size).all fun i => match ops[i]? with
    | none => false
    | some o => o.guard.isNone && o.after.all (fun e => !(Region.binds md e) || decide (e.on < i)) && (decide (i < m) || leadB md ops i (x :: List.range' m (i - m))) &&
      (decide (m ≤ i) || (match o.dst with | none => true | some d => decide (d < sz) && (List.range m).all fun j => decide (j = i) || decide (dstOf ops j ≠ some d)))
theorem Prm.put {m i : Nat} {φ : Nat → Value → World → Prop} {a0 a : Act} {w0 w w' : World} {listed : Array Bool} {oi : Oper} {v : Value} (hp : Prm ops m φ a0 w0 listed a w)
    (hφ : ∀ i v w w', φ i v w → Below w.heap.size w w' → φ i v w') (him : i < m) (hil : i < listed.size) (hoi : ops[i]? = some oi)
    (c4 : ∀ d, oi.dst = some d → d < a0.tmps.size ∧ ∀ j, j < m → j ≠ i → dstOf ops j ≠ some d) (hv : φ i v w') (hb : Below w.heap.size w w') : Prm ops m φ a0 w0 (listed.setIfInBounds i true) (a.put oi.dst v) w' := by
  have hdi : dstOf ops i = oi.dst := by unfold dstOf; rw [hoi]; rfl
  have hset : ∀ j, j ≠ i → (listed.setIfInBounds i true).getD j false = listed.getD j false := fun j hj => getD_set_ne false (Ne.symm hj)
  have hsi : (listed.setIfInBounds i true).getD i false = true := by
    simp [Array.getD_eq_getD_getElem?, Array.getElem?_setIfInBounds, hil]
  have hput : ∀ t, oi.dst ≠ some t → (a.put oi.dst v).tmps[t]? = a.tmps[t]? := by
    intro t ht
    cases hdo : oi.dst with
    | none => rfl
    | some d =>
      rw [hdo] at ht
      show (a.tmps.setIfInBounds d v)[t]? = _
      rw [Array.getElem?_setIfInBounds, if_neg (fun e => ht (by rw [e]))]
  refine ⟨?_, ?_, ?_, ?_, ?_, hp.bel.trans (hb.mono hp.bel.size)⟩
  · cases oi.dst <;> exact hp.df
  · cases oi.dst with
    | none => exact hp.len
    | some d => show (a.tmps.setIfInBounds d v).size = _; rw [Array.size_setIfInBounds]; exact hp.len
  · intro t ht
    rw [hput t (by rw [← hdi]; exact ht i him hsi)]
    refine hp.old t fun j hj hlj => ?_
    by_cases hji : j = i
    · subst hji; exact ht j hj hsi
    · exact ht j hj (by rw [hset j hji]; exact hlj)
  · intro j d hj hlj hdj
    by_cases hji : j = i
    · subst hji
      rw [hdi] at hdj
      have hds := (c4 d hdj).1
      have : (a.put oi.dst v).tmps.getD d undef = v := by
        rw [hdj]
        show (a.tmps.setIfInBounds d v).getD d undef = v
        have hlt : d < a.tmps.size := by rw [hp.len]; exact hds
        simp [Array.getD_eq_getD_getElem?, Array.getElem?_setIfInBounds, hlt]
      rw [this]; exact hv
    · have hne : oi.dst ≠ some d := fun e => (c4 d e).2 j hj hji hdj
      have e1 : (a.put oi.dst v).tmps.getD d undef = a.tmps.getD d undef := by
        simp only [Array.getD_eq_getD_getElem?, hput d hne]
      rw [e1]
      exact hφ j _ w w' (hp.new j d hj (by rw [← hset j hji]; exact hlj) hdj) hb
  · intro j hj hjs
    rw [getD_set_ne true (by omega)]
    exact hp.late j hj hjs
theorem prom_phase3 {m x g : Nat} {sx : List Nat} {φ : Nat → Value → World → Prop} {a0 : Act} {w0 : World} (hB : promB3 md ops m x sx a0.tmps.size = true)
    (hφ : ∀ i v w w', φ i v w → Below w.heap.size w w' → φ i v w')
    (hstep : ∀ i o, i < m → i ≠ x → ops[i]? = some o → ∀ a w, a.defers = a0.defers → a.tmps.size = a0.tmps.size → (∀ t, (∀ j, j < m → dstOf ops j ≠ some t) → a.tmps[t]? = a0.tmps[t]?) → Below w0.heap.size w0 w →
      (∀ j d, j < m → (o.after.any fun e => Region.binds md e && decide (e.on = j)) = true → dstOf ops j = some d → φ j (a.tmps.getD d undef) w) →
      ∀ K : Act → World → Prop, (∀ v w', φ i v w' → Below w.heap.size w w' → K (a.put o.dst v) w') → o.wp P a w K (NoPanic Q))
    (hx : ∀ o, ops[x]? = some o → ∀ (a : Act) (w : World), a.tmps.size = a0.tmps.size → (∀ t, (∀ j, j < m → dstOf ops j ≠ some t) → a.tmps[t]? = a0.tmps[t]?) → Below w0.heap.size w0 w →
      (∀ j d, j < m → (o.after.any fun e => Region.binds md e && decide (e.on = j)) = true → dstOf ops j = some d → φ j (a.tmps.getD d undef) w) →
      ∃ v, φ x v w ∧ ∀ w', (execOp a.eval o).run P w' = .ok (.value v) w')
    (hfin : ∀ listed a w, listed.size = ops.size → Prm ops m φ a0 w0 listed a w → (∀ i, i < m → listed.getD i false = true) → Closd md ops listed → wpS P md ops (NoPanic Q) (fun _ => True) 0 g listed a w) :
    ∀ (c : Nat) (L : List Nat) (listed : Array Bool) (a : Act) (w : World), L.length = c → L.Nodup → (∀ i, i ∈ L ↔ (i < m ∧ listed.getD i true = false)) → listed.size = ops.size → Prm ops m φ a0 w0 listed a w → Closd md ops listed →
      wpS P md ops (NoPanic Q) (fun _ => True) 0 (c + g) listed a w := by
  simp only [promB3, Bool.and_eq_true, Bool.or_eq_true, decide_eq_true_eq] at hB
  obtain ⟨⟨⟨⟨⟨⟨⟨hm2, hx0⟩, hxm⟩, hsel⟩, hlx⟩, hsx⟩, hxx⟩, hall⟩ := hB
  obtain ⟨ox, hox⟩ : ∃ o, ops[x]? = some o := ⟨_, Array.getElem?_eq_getElem (by omega)⟩
  rw [hox] at hxx
  simp only [Bool.and_eq_true] at hxx
  obtain ⟨hxa, hxx⟩ := hxx
  have chk : ∀ i o, ops[i]? = some o → o.guard = none ∧ (∀ e ∈ o.after, Region.binds md e = true → e.on < i) ∧ (i < m ∨ leadB md ops i (x :: List.range' m (i - m)) = true) ∧ (i < m → ∀ d, o.dst = some d → d < a0.tmps.size ∧ ∀ j, j < m → j ≠ i → dstOf ops j ≠ some d) := by
    intro i o ho
    have hi := (Array.getElem?_eq_some_iff.1 ho).1
    have h := List.all_eq_true.1 hall i (List.mem_range.2 hi)
    rw [ho] at h
    simp only [Bool.and_eq_true, Bool.or_eq_true, decide_eq_true_eq, List.any_eq_true, Array.any_eq_true', Array.all_eq_true', Option.isNone_iff_eq_none] at h
    obtain ⟨⟨⟨h1, h2⟩, h3⟩, h4⟩ := h
    refine ⟨h1, ?_, h3, ?_⟩
    · intro e he hbi
      rcases h2 e he with h5 | h5
      · rw [hbi] at h5; cases h5
      · exact h5
    · intro him d hd
      rcases h4 with h4 | h4
      · omega
      · rw [hd] at h4
        simp only [Bool.and_eq_true, decide_eq_true_eq, List.all_eq_true, List.mem_range, Bool.or_eq_true] at h4
        exact ⟨h4.1, fun j hj hne => (h4.2 j hj).resolve_left hne⟩
  have both : ∀ (listed : Array Bool) (i : Nat), listed.size = ops.size → i < ops.size → listed.getD i false = false → listed.getD i true = false := fun listed i h1 h2 h3 => by
    simp only [Array.getD_eq_getD_getElem?, Array.getElem?_eq_getElem (show i < listed.size by omega), Option.getD_some] at h3 ⊢
    exact h3
  -- the next list
  have next : ∀ (listed : Array Bool) (L : List Nat) (i : Nat), i < listed.size → L.Nodup → (∀ j, j ∈ L ↔ (j < m ∧ listed.getD j true = false)) → ∀ j, j ∈ L.erase i ↔ (j < m ∧ (listed.setIfInBounds i true).getD j true = false) := by
    intro listed L i hil hnd hL j
    rw [hnd.mem_erase_iff, hL j]
    by_cases hji : j = i
    · subst hji
      simp [Array.getD_eq_getD_getElem?, Array.getElem?_setIfInBounds, hil]
    · rw [getD_set_ne true (Ne.symm hji)]
      exact ⟨fun h => h.2, fun h => ⟨hji, h⟩⟩
  intro c
  induction c with
  | zero =>
    intro L listed a w hL hnd hun hls hp hcl
    have hnil : L = [] := List.length_eq_zero_iff.1 hL
    subst hnil
    rw [Nat.zero_add]
    refine hfin listed a w hls hp (fun i hi => ?_) hcl
    cases hx' : listed.getD i false with
    | true => rfl
    | false => exact absurd ((hun i).2 ⟨hi, both listed i hls (by omega) hx'⟩) (by simp)
  | succ c ih =>
    intro L listed a w hL hnd hun hls hp hcl
    rw [show c + 1 + g = (c + g) + 1 by omega]
    by_cases hxr : x ∈ Region.ready md ops listed
    · -- x is taken first
      obtain ⟨hxun, ox', hox', hdep⟩ := mem_ready.1 hxr
      obtain rfl := Option.some.inj (hox'.symm.trans hox)
      obtain ⟨c1, c2, c3, c4⟩ := chk x ox' hox
      have hxl : x < listed.size := by omega
      obtain ⟨v, hv, hrun⟩ := hx ox' hox a w hp.len (fun t ht => hp.old t fun j hj _ => ht j hj) hp.bel (fun j d hj hd hdj => by
        simp only [Array.any_eq_true', Bool.and_eq_true, decide_eq_true_eq] at hd
        obtain ⟨e, he, hbi, hon⟩ := hd
        have h1 := hdep e he hbi
        rw [hon] at h1
        exact hp.new j d hj h1 hdj)
      have hw : Region.wanted ox' (yielded ops a.tmps) = true := by simp [Region.wanted, c1]
      refine wpS_first (T := fun _ => True) (skip := []) hox (Region.noSelect_spec hsel) (fun _ _ _ h => h) (by omega) (.inl fun _ => trivial) (c + g) listed a w ?_ hcl hxr (.inl ⟨hw, fun w' _ => hrun w'⟩) (.inr trivial)
        (ih (L.erase x) _ _ _ ?_ (hnd.erase _) (next listed L x hxl hnd hun) ?_ (hp.put hφ hxm hxl hox (c4 hxm) hv (Below.refl _ _)) (hcl.set hxr))
      · intro j oj hoj hjx hjun hno
        have hjl := (Array.getElem?_eq_some_iff.1 hoj).1
        have h1 := List.all_eq_true.1 hxx j (List.mem_range.2 hjl)
        rw [hoj] at h1
        simp only [Bool.or_eq_true, Bool.and_eq_true, decide_eq_true_eq, Bool.not_eq_true'] at h1
        rcases h1 with ⟨h1, h2⟩ | h1
        · exfalso
          have h3 := hcl.all (skip := sx) hlx (fun oz hoz e' he' hb' => by
            obtain rfl := Option.some.inj (hoz.symm.trans hox)
            exact hdep e' he' hb') (x - j) j rfl (by omega) h2
          rw [getD_both hjun] at h3; cases h3
        · rcases h1 with h1 | h1
          · simp only [Array.any_eq_true', Bool.and_eq_true, beq_iff_eq] at h1
            obtain ⟨e, he, hb, hon⟩ := h1
            exact absurd hon (hno e he hb)
          · exact h1
      · rw [List.length_erase_of_mem ((hun x).2 ⟨hxm, hxun⟩), hL]; rfl
      · rw [Array.size_setIfInBounds]; exact hls
    · obtain ⟨i0, hi0L⟩ : ∃ i0, i0 ∈ L := List.exists_mem_of_length_pos (by omega)
      obtain ⟨hi0, hu0⟩ := (hun i0).1 hi0L
      refine ⟨fun hr => ?_, fun i hi => ?_⟩
      · exfalso
        have key : ∀ i, i < m → listed.getD i true = true := by
          intro i
          induction i using Nat.strongRecOn with
          | _ i ihh =>
            intro him
            cases hx' : listed.getD i true with
            | true => rfl
            | false =>
              obtain ⟨o, ho⟩ : ∃ o, ops[i]? = some o := ⟨_, Array.getElem?_eq_getElem (by omega)⟩
              have : i ∈ Region.ready md ops listed := mem_ready.2 ⟨hx', o, ho, fun e he hbi => by
                have hlt := (chk i o ho).2.1 e he hbi
                have h1 := ihh e.on hlt (by omega)
                cases hy : listed.getD e.on false with
                | true => rfl
                | false => rw [both listed e.on hls (by omega) hy] at h1; cases h1⟩
              rw [hr] at this
              cases this
        rw [key i0 hi0] at hu0
        cases hu0
      · obtain ⟨hiun, oi, hoi, hdep⟩ := mem_ready.1 hi
        obtain ⟨c1, c2, c3, c4⟩ := chk i oi hoi
        have hil := (Array.getElem?_eq_some_iff.1 hoi).1
        have hix : i ≠ x := fun e => hxr (e ▸ hi)
        have him : i < m := by
          rcases c3 with h3 | h3
          · exact h3
          · rcases Nat.lt_or_ge i m with h5 | h5
            · exact h5
            · exfalso
              have h6 : ∀ j, j < m → j ≠ x → listed.getD j false = true := fun j hj hjx =>
                hcl.all (skip := x :: List.range' m (i - m)) h3 (fun oz hoz e' he' hb' => by
                  obtain rfl := Option.some.inj (hoz.symm.trans hoi)
                  exact hdep e' he' hb') (i - j) j rfl (by omega) (by
                  have hc : ¬ (j ∈ x :: List.range' m (i - m)) := fun hmem => by
                    rcases List.mem_cons.1 hmem with h | h
                    · exact hjx h
                    · have := (List.mem_range'_1.1 h).1; omega
                  simpa using hc)
              by_cases hi0x : i0 = x
              · subst hi0x
                refine hxr (mem_ready.2 ⟨hu0, ox, hox, fun e he hbi => ?_⟩)
                have := (chk _ ox hox).2.1 e he hbi
                exact h6 e.on (by omega) (by omega)
              · have h8 := h6 i0 hi0 hi0x
                rw [getD_both hu0] at h8; cases h8
        have hw : Region.wanted oi (yielded ops a.tmps) = true := by simp [Region.wanted, c1]
        refine wpOp_step hoi fun K hK => ?_
        rw [if_pos hw]
        refine hstep i oi him hix hoi a w hp.df hp.len (fun t ht => hp.old t fun j hj _ => ht j hj) hp.bel (fun j d hj hd hdj => ?_) K fun v w' hv hb => ?_
        · simp only [Array.any_eq_true', Bool.and_eq_true, decide_eq_true_eq] at hd
          obtain ⟨e, he, hbi, hon⟩ := hd
          have h1 := hdep e he hbi
          rw [hon] at h1
          exact hp.new j d hj h1 hdj
        · refine hK _ _ ⟨.inr trivial, ih (L.erase i) _ _ _ ?_ (hnd.erase _) (next listed L i (by omega) hnd hun) ?_ (hp.put hφ him (by omega) hoi (c4 him) hv hb) (hcl.set hi)⟩
          · rw [List.length_erase_of_mem ((hun i).2 ⟨him, hiun⟩), hL]; rfl
          · rw [Array.size_setIfInBounds]; exact hls
theorem prom_start3 {id : Nat} {a0 : Act} {w : World} (hm : P.follows .mixedOrders = true) (m x : Nat) (sx : List Nat) (φ : Nat → Value → World → Prop) (hB : promB3 .any ops m x sx a0.tmps.size = true)
    (hφ : ∀ i v w w', φ i v w → Below w.heap.size w w' → φ i v w')
    (hstep : ∀ i o, i < m → i ≠ x → ops[i]? = some o → ∀ a w1, a.defers = a0.defers → a.tmps.size = a0.tmps.size → (∀ t, (∀ j, j < m → dstOf ops j ≠ some t) → a.tmps[t]? = a0.tmps[t]?) → Below w.drew.heap.size w.drew w1 →
      (∀ j d, j < m → (o.after.any fun e => Region.binds .any e && decide (e.on = j)) = true → dstOf ops j = some d → φ j (a.tmps.getD d undef) w1) →
      ∀ K : Act → World → Prop, (∀ v w', φ i v w' → Below w1.heap.size w1 w' → K (a.put o.dst v) w') → o.wp P a w1 K (NoPanic Q))
    (hx : ∀ o, ops[x]? = some o → ∀ (a : Act) (w1 : World), a.tmps.size = a0.tmps.size → (∀ t, (∀ j, j < m → dstOf ops j ≠ some t) → a.tmps[t]? = a0.tmps[t]?) → Below w.drew.heap.size w.drew w1 →
      (∀ j d, j < m → (o.after.any fun e => Region.binds .any e && decide (e.on = j)) = true → dstOf ops j = some d → φ j (a.tmps.getD d undef) w1) →
      ∃ v, φ x v w1 ∧ ∀ w', (execOp a.eval o).run P w' = .ok (.value v) w')
    (hfin : ∀ a w1, a.defers = a0.defers → a.tmps.size = a0.tmps.size → (∀ t, (∀ j, j < m → dstOf ops j ≠ some t) → a.tmps[t]? = a0.tmps[t]?) → Below w.drew.heap.size w.drew w1 → (∀ j d, j < m → dstOf ops j = some d → φ j (a.tmps.getD d undef) w1) →
      AtS P .any ops (NoPanic Q) (fun _ => True) 0 (ops.size - m) (firstB m ops.size) a w1) : (Code.region id ops true).wp P Q a0 w := by
  refine wp_region_noPanic <| wp_region_any hm ?_
  have hm2 : m ≤ ops.size := by
    simp only [promB3, Bool.and_eq_true, decide_eq_true_eq] at hB
    exact hB.1.1.1.1.1.1.1
  have h := prom_phase3 (P := P) (md := .any) (Q := Q) (g := ops.size - m) hB hφ hstep hx (fun listed a w1 hls hp hl hcl => ?_) m (List.range m) (Array.replicate ops.size false) a0 w.drew (by simp) List.nodup_range
    (fun i => ⟨fun h => ⟨List.mem_range.1 h, getD_in (by have := List.mem_range.1 h; simp; omega) (getD_replicate_false _ _)⟩, fun h => List.mem_range.2 h.1⟩) (by simp)
    ⟨rfl, rfl, fun _ _ => rfl, fun i d hi hl => (by rw [getD_replicate_false] at hl; cases hl), fun i h1 h2 => getD_in (by simpa using h2) (getD_replicate_false _ _), Below.refl _ _⟩ (Closd.start _)
  · rw [show m + (ops.size - m) = ops.size by omega] at h
    exact any_of_wpS _ _ _ _ h
  · have e := firstB_eq hls hl hp.late
    have hA := hfin a w1 hp.df hp.len (fun t ht => hp.old t fun j hj _ => ht j hj) hp.bel (fun j d hj hd => hp.new j d hj (hl j hj) hd)
    rw [e] at hcl ⊢
    exact hA hcl (.inr trivial)
end
end Go.Proofs.Ytockmhhiomdlkaa
