/- textmerge.Mark. -/
import Derived.Test.YthobbcafemkhbaaTmRmark
import Derived.Test.YthobbcafemkhbaaTmBld
import Derived.Test.YthobbcafemkhbaaTmMark
import Derived.Deep.RegionHeld3
namespace Go.Proofs.Ythobbcafemkhbaa
open Go.RowKit
set_option linter.unusedVariables false

/-- A line that does not fit, as the program finds it. -/
def unc1 (conf : Bool) (s : ByteArray) : Bool := mkB s || (conf && !Lib.hasSuffix s.data.toList [10])
theorem suf_end (s : ByteArray) : Lib.hasSuffix s.data.toList [10] = true ↔ endL s := by
  unfold Lib.hasSuffix endL
  rw [List.isSuffixOf_iff_suffix]
  constructor
  · rintro ⟨t, ht⟩
    rw [← ht]; simp
  · intro h
    obtain ⟨ys, hys⟩ := List.getLast?_eq_some_iff.1 h
    exact ⟨ys, hys.symm⟩
theorem unc_eq {conf : Bool} {s : ByteArray} (h : oneL s) : unf1 conf s = unc1 conf s := by
  unfold unf1 unc1
  rw [mkB_eq]
  have : wholeB s = Lib.hasSuffix s.data.toList [10] := by
    rw [Bool.eq_iff_iff, wholeB_iff, suf_end]
    exact ⟨fun h => h.2, fun h' => ⟨h, h'⟩⟩
  rw [this]
theorem lns_one {last : Bool} {l : List ByteArray} (h : linesB last l = true) : ∀ s ∈ l, oneL s := by
  cases last
  · exact fun s hs => ((linesB_mid l).1 h s hs).1
  · exact fun s hs => ((linesB_last l).1 h).1 s hs
theorem vld_lines : ∀ {L : List Rg} {pp : Bool}, vldF pp L = true → ∀ x ∈ L, (∀ s ∈ x.2.1, oneL s) ∧ (∀ s ∈ x.2.2.1, oneL s) ∧ ∀ s ∈ x.2.2.2, oneL s
  | [], _, _, _, h => by cases h
  | y :: t, pp, h, x, hx => by
    have h' : (lnB t.isEmpty y && (okB pp y && vldF (!y.1) t)) = true := h
    rw [Bool.and_eq_true, Bool.and_eq_true] at h'
    obtain ⟨h1, _, h3⟩ := h'
    rcases List.mem_cons.1 hx with rfl | hx
    · unfold lnB at h1
      rw [Bool.and_eq_true, Bool.and_eq_true] at h1
      exact ⟨lns_one h1.1, lns_one h1.2.1, lns_one h1.2.2⟩
    · exact vld_lines h3 x hx
theorem below_link {a w w' : World} (h : Below a.heap.size a w) (hb : Below w.heap.size w w') : Below a.heap.size a w' := h.trans (hb.mono h.size)
theorem ws1_any (B b : Nat) (T s : ByteArray) (w : World) (h : Bld B b T.data.toList w) (hlen : T.size + s.size ≤ 140737488355328) (hBw : B ≤ w.heap.size) :
    Calls Try.prog 52 #[.pointer (some ⟨b, 0, none⟩), .string s] w fun e w' => e = .returned (.tuple #[.int .i64 s.size, .nilIface]) ∧ Bld B b (T ++ s).data.toList w' ∧ Below B w w' ∧ FrB b w w' := by
  have := ws_any B b T.data.toList s w h hlen hBw
  rw [show T.data.toList ++ s.data.toList = (T ++ s).data.toList by simp] at this
  exact this

set_option maxRecDepth 100000 in
set_option maxHeartbeats 4000000 in
theorem cmark_any (w : World) (v : Value) (L : List Rg) (h : Rgs w v L) (hsz : SzR L) (hlen : L.length ≤ 100000) (hl : LnR 100000 L) (hT : (textB (mkAll L)).size ≤ 100000000) :
    Calls Try.prog 29 #[v] w fun e w' => e = .returned (.tuple #[.string (markS L).1, .int .i64 (markS L).2]) ∧ Below w.heap.size w w' := by
  have cv := Lib.hid (valid_any w v L h hsz)
  have HSZ := Lib.hid hsz
  have HL := Lib.hid hl
  clear hsz hl
  obtain ⟨A, c, rfl, hc, hm⟩ := h.form
  cases hv : vldF false L
  · have HE := Lib.hid (markS_bad hv)
    rw [hv] at cv
    clear hv
    go_enter Try.func29, Try.ntmps29
    go_wp2_with fail
    refine cv.out.mono ?_
    rintro e w1 ⟨rfl, hb⟩
    go_wp2
    go_ret2
    exact ⟨ret_si HE.out, hb⟩
  · have HV := Lib.hid hv
    rw [hv] at cv
    have HO := Lib.hid (vld_lines hv)
    clear hv
    have fL : ∀ k, (hk : k < L.length) → ∃ b off v1 v2 v3, A = some ⟨b, off, none⟩ ∧ w.cell? ⟨b, off + k * 4, none⟩ = some (.bool L[k].1) ∧ w.cell? ⟨b, off + k * 4 + 1, none⟩ = some v1 ∧ w.cell? ⟨b, off + k * 4 + 2, none⟩ = some v2 ∧ w.cell? ⟨b, off + k * 4 + 3, none⟩ = some v3 ∧
        (Strs w v1 L[k].2.1) ∧ (Strs w v2 L[k].2.2.1) ∧ (Strs w v3 L[k].2.2.2) := fun k hk => h.get hk
    have FL := Lib.hid fL
    clear fL
    go_enter Try.func29, Try.ntmps29
    go_wp2_with fail
    refine cv.out.mono ?_
    rintro e w1 ⟨rfl, hb⟩
    clear cv
    have B0 := Bld.new w1 hb.size
    have gbw := hb.size
    have hb := hb.alloc hb.size (.cells #[.pointer none, .slice none 0 0] 74)
    go_wp2_with fail
    generalize w1.alloc (.cells #[.pointer none, .slice none 0 0] 74) = w2 at *
    generalize w1.heap.size = gb at *
    have HT : Hid (∀ k, (textB (mkAll (L.take k))).size ≤ 100000000) := fun k => Nat.le_trans (mkAll_le L k) hT
    go_loopw [16] (fun t wr => ∃ k : Nat, k ≤ L.length ∧ t = .int .i64 k ∧ Bld w.heap.size gb (textB (mkAll (L.take k))).data.toList wr ∧ Hid (∀ j, j < k → (hj : j < L.length) → unfR L[j] = false) ∧ Below w.heap.size w wr) (fun t _ => L.length - (intOf t).toNat)
    case atStart => exact ⟨0, by omega, rfl, B0, fun j hj => absurd hj (by omega), hb⟩
    case round =>
      clear B0 hb
      obtain ⟨k, hk, rfl, hB, HU, hb⟩ := hrel
      generalize wr = wo at *
      have hbs := hb.size
      by_cases hlt : k < L.length
      · obtain ⟨b, off, v1, v2, v3, rfl, a1, a2, a3, a4, a5, a6, a7⟩ := FL.out k hlt
        have a1 := cell_later hb a1
        have a2 := cell_later hb a2
        have a3 := cell_later hb a3
        have a4 := cell_later hb a4
        have kb := Keeps.of_below hb
        have q3 := a7
        have a5 := a5.keep kb
        have a6 := a6.keep kb
        have a7 := a7.keep kb
        obtain ⟨s1, s2, s3⟩ := HSZ.out L[k] (List.getElem_mem hlt)
        obtain ⟨n1, n2, n3⟩ := HL.out L[k] (List.getElem_mem hlt)
        obtain ⟨o1, o2, o3⟩ := HO.out L[k] (List.getElem_mem hlt)
        have HBAD : Hid (unfR L[k] = true → markS L = (⟨#[]⟩, 3)) := fun hu => markS_unf HV.out hlt hu
        have HOK : Hid (unfR L[k] = false → ∀ j, j < k + 1 → (hj : j < L.length) → unfR L[j] = false) := fun hu => below_k (hk := hlt) HU.out hu
        have HTX : Hid (textB (mkAll (L.take (k + 1))) = textB (mkAll (L.take k)) ++ textB (mkLines L[k])) := by show _ = _; rw [mkAll_take hlt, textB_append]
        have hsT := HT.out (k + 1)
        rw [HTX.out, ByteArray.size_append] at hsT
        generalize textB (mkAll (L.take k)) = T at *
        generalize L[k] = x at *
        obtain ⟨x1, xb, xl, xr⟩ := x
        obtain ⟨A1, c1, rfl, _, _⟩ := a5.form
        obtain ⟨A2, c2, rfl, _, _⟩ := a6.form
        obtain ⟨A3, c3, rfl, _, _⟩ := a7.form
        simp only at a1 a2 a3 a4 s1 s2 s3 n1 n2 n3 o1 o2 o3
        have HB1 : Hid (∀ l s, (l = xb ∨ l = xl ∨ l = xr) → s ∈ l → unc1 x1 s = true → markS L = (⟨#[]⟩, 3)) := fun l s hl hs hu => HBAD.out (by
          have e : ∀ {q : List ByteArray}, (∀ s ∈ q, oneL s) → s ∈ q → unfB x1 q = true := fun ho hq => List.any_eq_true.2 ⟨s, hq, by rw [unc_eq (ho s hq)]; exact hu⟩
          unfold unfR
          rcases hl with rfl | rfl | rfl
          · rw [e o1 hs]; rfl
          · rw [e o2 hs]; simp
          · rw [e o3 hs]; simp)
        have HB2 : Hid ((∀ s ∈ xb, unc1 x1 s = false) → (∀ s ∈ xl, unc1 x1 s = false) → (∀ s ∈ xr, unc1 x1 s = false) → ∀ j, j < k + 1 → (hj : j < L.length) → unfR L[j] = false) := fun h1 h2 h3 => HOK.out (unfR_false.2 ⟨fun s hs => by rw [unc_eq (o1 s hs)]; exact h1 s hs, fun s hs => by rw [unc_eq (o2 s hs)]; exact h2 s hs, fun s hs => by rw [unc_eq (o3 s hs)]; exact h3 s hs⟩)
        have HSS : Hid (∀ l s, (l = xb ∨ l = xl ∨ l = xr) → s ∈ l → s.size ≤ 1000000000) := fun l s hl hs => by
          rcases hl with rfl | rfl | rfl
          · exact s1 s hs
          · exact s2 s hs
          · exact s3 s hs
        clear HBAD HOK s1 s2 s3 o1 o2 o3 kb
        have bx := (Blk.new wo #[.bool x1, .slice A1 xb.length c1, .slice A2 xl.length c2, .slice A3 xr.length c3] 58).alloc (.cells #[.slice A2 xl.length c2, .slice A1 xb.length c1, .slice A3 xr.length c3] 36)
        have bs := Blk.new (wo.alloc (.cells #[.bool x1, .slice A1 xb.length c1, .slice A2 xl.length c2, .slice A3 xr.length c3] 58)) #[.slice A2 xl.length c2, .slice A1 xb.length c1, .slice A3 xr.length c3] 36
        rw [World.size_alloc] at bs
        have ob : Below wo.heap.size wo ((wo.alloc (.cells #[.bool x1, .slice A1 xb.length c1, .slice A2 xl.length c2, .slice A3 xr.length c3] 58)).alloc (.cells #[.slice A2 xl.length c2, .slice A1 xb.length c1, .slice A3 xr.length c3] 36)) := ((Below.refl _ _).alloc (Nat.le_refl _) _).alloc (by simp) _
        have kb := Keeps.of_below ob
        have r1 := a5.keep kb
        have r2 := a6.keep kb
        have r3 := a7.keep kb
        have hB0 := Lib.hid hB
        have hB := Bld.keep hB ob
        have hb := hb.trans (ob.mono hbs)
        have gne : wo.heap.size ≠ gb := by
          rintro e
          have : gb < wo.heap.size := by
            rcases hB0.out with h | h
            · exact h.lt
            · exact h.lt
          omega
        go_wp2_with fail
        generalize (wo.alloc (.cells #[.bool x1, .slice A1 xb.length c1, .slice A2 xl.length c2, .slice A3 xr.length c3] 58)).alloc (.cells #[.slice A2 xl.length c2, .slice A1 xb.length c1, .slice A3 xr.length c3] 36) = w3 at *
        generalize wo.heap.size = g at *
        clear a1 a2 a3 a4 a5 a6 a7 ob kb hB0
        have AP : ∀ i, i < 3 → ∃ Ai li ci, w3.cell? ⟨g + 1, i, none⟩ = some (.slice Ai li.length ci) ∧ Strs w3 (.slice Ai li.length ci) li ∧ [xl, xb, xr][i]? = some li ∧ (li = xb ∨ li = xl ∨ li = xr) ∧ li.length ≤ 100000 := by
          intro i hi
          match i, hi with
          | 0, _ => exact ⟨A2, xl, c2, bs.cell rfl, r2, rfl, .inr (.inl rfl), n2⟩
          | 1, _ => exact ⟨A1, xb, c1, bs.cell rfl, r1, rfl, .inl rfl, n1⟩
          | 2, _ => exact ⟨A3, xr, c3, bs.cell rfl, r3, rfl, .inr (.inr rfl), n3⟩
        have HAP := Lib.hid AP
        clear AP bs
        have d0 : w3.cell? ⟨g, 0, none⟩ = some (.bool x1) := bx.cell rfl
        have d1 : w3.cell? ⟨g, 1, none⟩ = some (.slice A1 xb.length c1) := bx.cell rfl
        have d2 : w3.cell? ⟨g, 2, none⟩ = some (.slice A2 xl.length c2) := bx.cell rfl
        have d3 : w3.cell? ⟨g, 3, none⟩ = some (.slice A3 xr.length c3) := bx.cell rfl
        go_loopw [28] (fun t wr => ∃ i : Nat, i ≤ 3 ∧ t = .int .i64 i ∧ Hid (∀ j l, j < i → [xl, xb, xr][j]? = some l → ∀ s ∈ l, unc1 x1 s = false) ∧ wr = w3) (fun t _ => 3 - (intOf t).toNat)
        case atStart => exact ⟨0, by omega, rfl, fun j l hj => absurd hj (by omega), rfl⟩
        case round =>
          obtain ⟨i, hi, rfl, HI, rfl⟩ := hrel
          by_cases hi3 : i < 3
          · obtain ⟨Ai, li, ci, e1, e2, e3, e4, e5⟩ := HAP.out i hi3
            have E3 := Lib.hid e3
            have E4 := Lib.hid e4
            clear e3 e4
            have di : decide ((i : Int) < 3) = true := by simp; omega
            go_wp2_with fail
            go_loopw [34] (fun t w4 => ∃ j : Nat, j ≤ li.length ∧ t = .int .i64 j ∧ Hid (∀ s ∈ li.take j, unc1 x1 s = false) ∧ w4 = wr) (fun t _ => li.length - (intOf t).toNat)
            case atStart => exact ⟨0, by omega, rfl, fun s hs => by simp at hs, rfl⟩
            case round =>
              obtain ⟨j, hj, rfl, HJ, rfl⟩ := hrel
              by_cases hjl : j < li.length
              · obtain ⟨b', off', rfl, f1⟩ := e2.get hjl
                have hss := HSS.out li li[j] E4.out (List.getElem_mem hjl)
                have HS2 : Hid (unc1 x1 li[j] = false → ∀ s ∈ li.take (j + 1), unc1 x1 s = false) := fun hu s hs => by
                  rw [List.take_succ_eq_append_getElem hjl] at hs
                  rcases List.mem_append.1 hs with hs | hs
                  · exact HJ.out s hs
                  · rw [List.mem_singleton.1 hs]; exact hu
                have HBD : Hid (unc1 x1 li[j] = true → markS L = (⟨#[]⟩, 3)) := HB1.out li li[j] E4.out (List.getElem_mem hjl)
                generalize li[j] = s at *
                have CM := Lib.hid (fun w' => marker_any w' s (by omega))
                have CS := Lib.hid (fun w' => strings_HasSuffix s ⟨#[10]⟩ w' (by omega))
                have HC : Hid (unc1 x1 s = (mkB s || (x1 && !Lib.hasSuffix s.data.toList [10]))) := rfl
                have CS2 : Hid (∀ w', Calls Try.prog 51 #[.string s, .string ⟨#[10]⟩] w' fun e w'' => e = .returned (.bool (Lib.hasSuffix s.data.toList [10])) ∧ w' = w'') := fun w' => (CS.out w').mono fun _ _ ⟨h1, h2⟩ => ⟨h1, h2.symm⟩
                clear CS
                generalize mkB s = mb at *
                generalize Lib.hasSuffix s.data.toList [10] = sb at *
                generalize unc1 x1 s = un at *
                go_wp2_with fail
                refine (CM.out _).mono ?_
                rintro e w5 ⟨rfl, rfl⟩
                cases mb
                · cases x1
                  · have HJ2 := Lib.hid (HS2.out (by rw [HC.out]; rfl))
                    clear HC HS2 HBD HJ
                    go_wp2
                    go_roundw
                    case rel => exact ⟨j + 1, by omega, by go_num, HJ2, trivial⟩
                    case measure => simp [intOf]; omega
                  · go_wp2_with fail
                    refine (CS2.out _).mono ?_
                    rintro e w6 ⟨rfl, rfl⟩
                    cases sb
                    · have HE := Lib.hid (HBD.out (by rw [HC.out]; rfl))
                      clear HC HS2 HBD HJ
                      go_wp2
                      go_ret2
                      exact ⟨ret_si HE.out, hb⟩
                    · have HJ2 := Lib.hid (HS2.out (by rw [HC.out]; rfl))
                      clear HC HS2 HBD HJ
                      go_wp2
                      go_roundw
                      case rel => exact ⟨j + 1, by omega, by go_num, HJ2, trivial⟩
                      case measure => simp [intOf]; omega
                · have HE := Lib.hid (HBD.out (by rw [HC.out]; rfl))
                  clear HC HS2 HBD HJ
                  go_wp2
                  go_ret2
                  exact ⟨ret_si HE.out, hb⟩
              · have HI2 : Hid (∀ j l, j < i + 1 → [xl, xb, xr][j]? = some l → ∀ s ∈ l, unc1 x1 s = false) := fun m l hm hl => by
                  rcases Nat.lt_or_ge m i with h1 | h1
                  · exact HI.out m l h1 hl
                  · have : m = i := by omega
                    subst this
                    rw [E3.out] at hl
                    obtain rfl := Option.some.inj hl
                    have := HJ.out
                    rwa [List.take_of_length_le (by omega)] at this
                clear HJ HI e1 e2
                go_wp2
                go_roundw
                case rel => exact ⟨i + 1, by omega, by go_num, HI2, trivial⟩
                case measure => simp [intOf]; omega
          · have hU := HB2.out (HI.out 1 xb (by omega) rfl) (HI.out 0 xl (by omega) rfl) (HI.out 2 xr (by omega) rfl)
            have HU2 := Lib.hid hU
            have di : decide ((i : Int) < 3) = false := by simp; omega
            clear hU HB1 HB2 HSS HI HAP HU
            cases x1
            · rw [mk_plain] at HTX hsT
              have CT := Lib.hid (text_any wr _ xl r2 n2 (by omega))
              generalize textB xl = tl at *
              clear r1 r2 r3 d1 d3 bx
              go_wp2_with fail
              refine CT.out.mono ?_
              rintro e w6 ⟨rfl, ob⟩
              have hB := Bld.keep hB ob
              have hb6 := hb.trans (ob.mono hb.size)
              have CW := Lib.hid (ws1_any _ gb T tl w6 hB (by omega) hb6.size)
              clear hB CT ob d0 d2 hb
              go_wp2_with fail
              refine CW.out.mono ?_
              rintro e w7 ⟨rfl, hB7, ob7, _⟩
              have hb7 := hb6.trans ob7
              clear CW ob7 hb6
              go_wp2
              go_roundw
              case rel => exact ⟨k + 1, by omega, by go_num, by rw [HTX.out]; exact hB7, HU2, hb7⟩
              case measure => simp [intOf]; omega
            · rw [mk_conf] at HTX hsT
              simp only [ByteArray.size_append] at hsT
              have z0 : mk0.size = 8 := rfl
              have z1 : mk1.size = 8 := rfl
              have z2 : mk2.size = 8 := rfl
              have z3 : mk3.size = 8 := rfl
              have HTX2 : Hid (textB (mkAll (L.take (k + 1))) = T ++ ((⟨#[60, 60, 60, 60, 60, 60, 60, 10]⟩ : ByteArray) ++ textB xl ++ (⟨#[124, 124, 124, 124, 124, 124, 124]⟩ : ByteArray) ++ (⟨#[10]⟩ : ByteArray) ++ textB xb) ++ ((⟨#[61, 61, 61, 61, 61, 61, 61, 10]⟩ : ByteArray) ++ textB xr ++ (⟨#[62, 62, 62, 62, 62, 62, 62]⟩ : ByteArray) ++ (⟨#[10]⟩ : ByteArray))) := by
                show _ = _
                rw [HTX.out, show mk1 = (⟨#[124, 124, 124, 124, 124, 124, 124]⟩ : ByteArray) ++ (⟨#[10]⟩ : ByteArray) from rfl, show mk3 = (⟨#[62, 62, 62, 62, 62, 62, 62]⟩ : ByteArray) ++ (⟨#[10]⟩ : ByteArray) from rfl, show mk0 = (⟨#[60, 60, 60, 60, 60, 60, 60, 10]⟩ : ByteArray) from rfl, show mk2 = (⟨#[61, 61, 61, 61, 61, 61, 61, 10]⟩ : ByteArray) from rfl]
                simp only [ByteArray.append_assoc]
              have CTL : Hid (∀ w', Below wr.heap.size wr w' → Calls Try.prog 44 #[.slice A2 xl.length c2] w' fun e w'' => e = .returned (.string (textB xl)) ∧ Below w'.heap.size w' w'') := fun w' hw => text_any w' _ xl (r2.keep (Keeps.of_below hw)) n2 (by omega)
              have CTB : Hid (∀ w', Below wr.heap.size wr w' → Calls Try.prog 44 #[.slice A1 xb.length c1] w' fun e w'' => e = .returned (.string (textB xb)) ∧ Below w'.heap.size w' w'') := fun w' hw => text_any w' _ xb (r1.keep (Keeps.of_below hw)) n1 (by omega)
              have hr6 : (textB xr).size ≤ 100000000 := by omega
              have CTR : Hid (∀ w', Strs w' (.slice A3 xr.length c3) xr → Calls Try.prog 44 #[.slice A3 xr.length c3] w' fun e w'' => e = .returned (.string (textB xr)) ∧ Below w'.heap.size w' w'') := fun w' hw => text_any w' _ xr hw n3 hr6
              have l0 : (⟨#[60, 60, 60, 60, 60, 60, 60, 10]⟩ : ByteArray).size = 8 := rfl
              have l1 : (⟨#[124, 124, 124, 124, 124, 124, 124]⟩ : ByteArray).size = 7 := rfl
              have l2 : (⟨#[61, 61, 61, 61, 61, 61, 61, 10]⟩ : ByteArray).size = 8 := rfl
              have l3 : (⟨#[62, 62, 62, 62, 62, 62, 62]⟩ : ByteArray).size = 7 := rfl
              have l4 : (⟨#[10]⟩ : ByteArray).size = 1 := rfl
              clear HTX r1 r2 r3 n1 n2 n3
              generalize textB xl = tl at *
              generalize textB xb = tb at *
              generalize textB xr = tr at *
              have e1 : ((⟨#[60, 60, 60, 60, 60, 60, 60, 10]⟩ : ByteArray) ++ tl).size = (⟨#[60, 60, 60, 60, 60, 60, 60, 10]⟩ : ByteArray).size + tl.size := ByteArray.size_append
              have e2 : ((⟨#[60, 60, 60, 60, 60, 60, 60, 10]⟩ : ByteArray) ++ tl ++ (⟨#[124, 124, 124, 124, 124, 124, 124]⟩ : ByteArray)).size = (⟨#[60, 60, 60, 60, 60, 60, 60, 10]⟩ : ByteArray).size + tl.size + (⟨#[124, 124, 124, 124, 124, 124, 124]⟩ : ByteArray).size := by simp only [ByteArray.size_append]
              have e3 : ((⟨#[60, 60, 60, 60, 60, 60, 60, 10]⟩ : ByteArray) ++ tl ++ (⟨#[124, 124, 124, 124, 124, 124, 124]⟩ : ByteArray) ++ (⟨#[10]⟩ : ByteArray)).size = (⟨#[60, 60, 60, 60, 60, 60, 60, 10]⟩ : ByteArray).size + tl.size + (⟨#[124, 124, 124, 124, 124, 124, 124]⟩ : ByteArray).size + (⟨#[10]⟩ : ByteArray).size := by simp only [ByteArray.size_append]
              have e4 : ((⟨#[60, 60, 60, 60, 60, 60, 60, 10]⟩ : ByteArray) ++ tl ++ (⟨#[124, 124, 124, 124, 124, 124, 124]⟩ : ByteArray) ++ (⟨#[10]⟩ : ByteArray) ++ tb).size = (⟨#[60, 60, 60, 60, 60, 60, 60, 10]⟩ : ByteArray).size + tl.size + (⟨#[124, 124, 124, 124, 124, 124, 124]⟩ : ByteArray).size + (⟨#[10]⟩ : ByteArray).size + tb.size := by simp only [ByteArray.size_append]
              have e5 : ((⟨#[61, 61, 61, 61, 61, 61, 61, 10]⟩ : ByteArray) ++ tr).size = (⟨#[61, 61, 61, 61, 61, 61, 61, 10]⟩ : ByteArray).size + tr.size := ByteArray.size_append
              have e6 : ((⟨#[61, 61, 61, 61, 61, 61, 61, 10]⟩ : ByteArray) ++ tr ++ (⟨#[62, 62, 62, 62, 62, 62, 62]⟩ : ByteArray)).size = (⟨#[61, 61, 61, 61, 61, 61, 61, 10]⟩ : ByteArray).size + tr.size + (⟨#[62, 62, 62, 62, 62, 62, 62]⟩ : ByteArray).size := by simp only [ByteArray.size_append]
              have e7 : ((⟨#[61, 61, 61, 61, 61, 61, 61, 10]⟩ : ByteArray) ++ tr ++ (⟨#[62, 62, 62, 62, 62, 62, 62]⟩ : ByteArray) ++ (⟨#[10]⟩ : ByteArray)).size = (⟨#[61, 61, 61, 61, 61, 61, 61, 10]⟩ : ByteArray).size + tr.size + (⟨#[62, 62, 62, 62, 62, 62, 62]⟩ : ByteArray).size + (⟨#[10]⟩ : ByteArray).size := by simp only [ByteArray.size_append]
              have e8 : (T ++ ((⟨#[60, 60, 60, 60, 60, 60, 60, 10]⟩ : ByteArray) ++ tl ++ (⟨#[124, 124, 124, 124, 124, 124, 124]⟩ : ByteArray) ++ (⟨#[10]⟩ : ByteArray) ++ tb)).size = T.size + ((⟨#[60, 60, 60, 60, 60, 60, 60, 10]⟩ : ByteArray) ++ tl ++ (⟨#[124, 124, 124, 124, 124, 124, 124]⟩ : ByteArray) ++ (⟨#[10]⟩ : ByteArray) ++ tb).size := ByteArray.size_append
              have y1 : ((⟨#[60, 60, 60, 60, 60, 60, 60, 10]⟩ : ByteArray) ++ tl).size ≤ 200000000 := by omega
              have y2 : ((⟨#[60, 60, 60, 60, 60, 60, 60, 10]⟩ : ByteArray) ++ tl ++ (⟨#[124, 124, 124, 124, 124, 124, 124]⟩ : ByteArray)).size ≤ 200000000 := by omega
              have y3 : ((⟨#[60, 60, 60, 60, 60, 60, 60, 10]⟩ : ByteArray) ++ tl ++ (⟨#[124, 124, 124, 124, 124, 124, 124]⟩ : ByteArray) ++ (⟨#[10]⟩ : ByteArray)).size ≤ 200000000 := by omega
              have y4 : ((⟨#[60, 60, 60, 60, 60, 60, 60, 10]⟩ : ByteArray) ++ tl ++ (⟨#[124, 124, 124, 124, 124, 124, 124]⟩ : ByteArray) ++ (⟨#[10]⟩ : ByteArray) ++ tb).size ≤ 200000000 := by omega
              have y5 : ((⟨#[61, 61, 61, 61, 61, 61, 61, 10]⟩ : ByteArray) ++ tr).size ≤ 200000000 := by omega
              have y6 : ((⟨#[61, 61, 61, 61, 61, 61, 61, 10]⟩ : ByteArray) ++ tr ++ (⟨#[62, 62, 62, 62, 62, 62, 62]⟩ : ByteArray)).size ≤ 200000000 := by omega
              have y7 : ((⟨#[61, 61, 61, 61, 61, 61, 61, 10]⟩ : ByteArray) ++ tr ++ (⟨#[62, 62, 62, 62, 62, 62, 62]⟩ : ByteArray) ++ (⟨#[10]⟩ : ByteArray)).size ≤ 200000000 := by omega
              have y8 : (T ++ ((⟨#[60, 60, 60, 60, 60, 60, 60, 10]⟩ : ByteArray) ++ tl ++ (⟨#[124, 124, 124, 124, 124, 124, 124]⟩ : ByteArray) ++ (⟨#[10]⟩ : ByteArray) ++ tb)).size ≤ 200000000 := by omega
              have l0' : (⟨#[60, 60, 60, 60, 60, 60, 60, 10]⟩ : ByteArray).size ≤ 8 := by omega
              have l1' : (⟨#[124, 124, 124, 124, 124, 124, 124]⟩ : ByteArray).size ≤ 8 := by omega
              have l2' : (⟨#[61, 61, 61, 61, 61, 61, 61, 10]⟩ : ByteArray).size ≤ 8 := by omega
              have l3' : (⟨#[62, 62, 62, 62, 62, 62, 62]⟩ : ByteArray).size ≤ 8 := by omega
              have l4' : (⟨#[10]⟩ : ByteArray).size ≤ 8 := by omega
              have t1 : tl.size ≤ 100000000 := by omega
              have t2 : tb.size ≤ 100000000 := by omega
              have t3 : T.size ≤ 100000000 := by omega
              have CW : Hid (∀ w', Below wr.heap.size wr w' → Calls Try.prog 52 #[.pointer (some ⟨gb, 0, none⟩), .string ((⟨#[60, 60, 60, 60, 60, 60, 60, 10]⟩ : ByteArray) ++ tl ++ (⟨#[124, 124, 124, 124, 124, 124, 124]⟩ : ByteArray) ++ (⟨#[10]⟩ : ByteArray) ++ tb)] w' fun e w'' => e = .returned (.tuple #[.int .i64 ((⟨#[60, 60, 60, 60, 60, 60, 60, 10]⟩ : ByteArray) ++ tl ++ (⟨#[124, 124, 124, 124, 124, 124, 124]⟩ : ByteArray) ++ (⟨#[10]⟩ : ByteArray) ++ tb).size, .nilIface]) ∧
                  Bld w.heap.size gb (T ++ ((⟨#[60, 60, 60, 60, 60, 60, 60, 10]⟩ : ByteArray) ++ tl ++ (⟨#[124, 124, 124, 124, 124, 124, 124]⟩ : ByteArray) ++ (⟨#[10]⟩ : ByteArray) ++ tb)).data.toList w'' ∧ Below w.heap.size w w'' ∧ Blk w'' g 58 #[.bool true, .slice A1 xb.length c1, .slice A2 xl.length c2, .slice A3 xr.length c3]) := fun w' hw =>
                have hb' := hb.trans (hw.mono hb.size)
                (ws1_any _ gb T ((⟨#[60, 60, 60, 60, 60, 60, 60, 10]⟩ : ByteArray) ++ tl ++ (⟨#[124, 124, 124, 124, 124, 124, 124]⟩ : ByteArray) ++ (⟨#[10]⟩ : ByteArray) ++ tb) w' (Bld.keep hB hw) (by omega) hb'.size).mono fun e w'' ⟨h1, h2, h3, h4⟩ => ⟨h1, h2, hb'.trans h3, h4 _ _ _ gne (by decide) (bx.keep hw)⟩
              have KEY : Hid (∀ w', Below wr.heap.size wr w' → w'.cell? ⟨g, 1, none⟩ = some (.slice A1 xb.length c1) ∧ w'.cell? ⟨g, 2, none⟩ = some (.slice A2 xl.length c2)) := fun w' hw => ⟨(bx.keep hw).cell rfl, (bx.keep hw).cell rfl⟩
              have k0 : Below wr.heap.size wr wr := Below.refl _ _
              have k1 : Below wr.heap.size wr wr.drew := (Below.refl _ _).drew
              have p1 := fun w' => run_string_add_sum (P := Try.prog) w' (⟨#[60, 60, 60, 60, 60, 60, 60, 10]⟩ : ByteArray) tl (by omega)
              have p2 := fun w' => run_string_add_sum (P := Try.prog) w' ((⟨#[60, 60, 60, 60, 60, 60, 60, 10]⟩ : ByteArray) ++ tl) (⟨#[124, 124, 124, 124, 124, 124, 124]⟩ : ByteArray) (by omega)
              have p3 := fun w' => run_string_add_sum (P := Try.prog) w' ((⟨#[60, 60, 60, 60, 60, 60, 60, 10]⟩ : ByteArray) ++ tl ++ (⟨#[124, 124, 124, 124, 124, 124, 124]⟩ : ByteArray)) (⟨#[10]⟩ : ByteArray) (by omega)
              have p4 := fun w' => run_string_add_sum (P := Try.prog) w' ((⟨#[60, 60, 60, 60, 60, 60, 60, 10]⟩ : ByteArray) ++ tl ++ (⟨#[124, 124, 124, 124, 124, 124, 124]⟩ : ByteArray) ++ (⟨#[10]⟩ : ByteArray)) tb (by omega)
              clear e1 e2 e3 e4 e5 e6 e7 e8 l0 l1 l2 l3 l4 z0 z1 z2 z3 hsT hB hb bx d1 d2 d3 HT
              go_wp2_with fail
              go_region_held3 (fun w' => w'.cell? ⟨g, 1, none⟩ = some (.slice A1 xb.length c1) ∧ w'.cell? ⟨g, 2, none⟩ = some (.slice A2 xl.length c2)) (first | exact KEY.out _ (by assumption) | exact ⟨Blk.cell (by assumption) rfl, Blk.cell (by assumption) rfl⟩ | go_keep)
                (first
                  | (go_at_call 52; refine (CW.out _ (by assumption)).mono ?_; rintro e y5 ⟨rfl, hB5, hb5, bx5⟩)
                  | (go_at_call_of 44 (Value.slice A2 xl.length c2); refine (CTL.out _ (by assumption)).mono ?_; rintro e y1 ⟨rfl, o1⟩; have z1 := below_link (a := wr) (by assumption) o1)
                  | (go_at_call_of 44 (Value.slice A1 xb.length c1); refine (CTB.out _ (by assumption)).mono ?_; rintro e y2 ⟨rfl, o2⟩; have z2 := below_link (a := wr) (by assumption) o2))
              all_goals
                have d3 : y5.cell? ⟨g, 3, none⟩ = some (.slice A3 xr.length c3) := bx5.cell rfl
                have CR := Lib.hid (CTR.out y5 (q3.keep (Keeps.of_below hb5)))
                clear CW CTL CTB CTR KEY p1 p2 p3 p4
                go_wp2_with fail
                refine CR.out.mono ?_
                rintro e y6 ⟨rfl, ob⟩
                have hB6 := Bld.keep hB5 ob
                have hb6 := hb5.trans (ob.mono hb5.size)
                have CW := Lib.hid (ws1_any _ gb _ ((⟨#[61, 61, 61, 61, 61, 61, 61, 10]⟩ : ByteArray) ++ tr ++ (⟨#[62, 62, 62, 62, 62, 62, 62]⟩ : ByteArray) ++ (⟨#[10]⟩ : ByteArray)) y6 hB6 (by omega) hb6.size)
                clear CR hB5 hB6 hb5 ob d3
                go_wp2_with fail
                refine CW.out.mono ?_
                rintro e y7 ⟨rfl, hB7, ob7, _⟩
                have hb7 := hb6.trans ob7
                clear CW ob7 hb6
                go_wp2
                go_roundw
                case rel => exact ⟨k + 1, by omega, by go_num, by rw [HTX2.out]; exact hB7, HU2, hb7⟩
                case measure => simp [intOf]; omega
      · have HE := Lib.hid (markS_ok HV.out hlt HU.out)
        have HK : Hid (textB (mkAll (L.take k)) = textB (mkAll L)) := by show _ = _; rw [show k = L.length by omega, List.take_length]
        clear HU
        have CS := Lib.hid (Builder_String_any w.heap.size gb _ wo hB hb.size)
        clear hB
        go_wp2_with fail
        refine CS.out.mono ?_
        rintro e w5 ⟨rfl, ob⟩
        have hb5 := hb.trans ob
        clear CS
        go_wp2
        go_ret2
        exact ⟨by rw [show (⟨(textB (mkAll (L.take k))).data.toList.toArray⟩ : ByteArray) = textB (mkAll (L.take k)) from rfl, HK.out]; exact ret_si HE.out, hb5⟩
end Go.Proofs.Ythobbcafemkhbaa
