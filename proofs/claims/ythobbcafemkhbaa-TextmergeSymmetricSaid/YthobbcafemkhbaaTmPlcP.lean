/- Places out of hunks, step by step (for the walks of places). -/
import Derived.Test.YthobbcafemkhbaaTmPlain
namespace Go.Proofs.Ythobbcafemkhbaa

section
variable {α : Type} {n i k : Nat} {z : Int} {o e : List α} {hs : List (Int × List α × List α)} {full out : List Int}
theorem sepB_mono {z z' : Int} : ∀ {l : List (Int × List α × List α)}, sepB n z l → z' ≤ z → sepB n z' l
  | [], _, _ => trivial
  | (c, o, e) :: l, ⟨⟨h1, h2, h3, h4⟩, h5⟩, h => ⟨⟨h1, by omega, h3, h4⟩, h5⟩
theorem plc_end (h : full = out ++ plcF n i k ([] : List (Int × List α × List α))) (hi : i < n) : full = (out ++ [(k : Int)]) ++ plcF n (i + 1) (k + 1) ([] : List (Int × List α × List α)) := by
  rw [h, List.append_assoc]
  congr 1
  show (List.range (n - i)).map _ = (k : Int) :: (List.range (n - (i + 1))).map _
  rw [show n - i = (n - (i + 1)) + 1 by omega, range_cons_map]
theorem plc_fin (h : full = out ++ plcF n i k ([] : List (Int × List α × List α))) (hi : n ≤ i) : full = out := by
  rw [h]
  show out ++ (List.range (n - i)).map _ = out
  rw [show n - i = 0 by omega]
  exact List.append_nil _
theorem plc_go (h : full = out ++ plcF n i k ((z, o, e) :: hs)) (hs' : sepB n ((i : Int) - 1) ((z, o, e) :: hs)) (hz : ¬ z = (i : Int)) :
    full = (out ++ [(k : Int)]) ++ plcF n (i + 1) (k + 1) ((z, o, e) :: hs) ∧ sepB n (((i + 1 : Nat) : Int) - 1) ((z, o, e) :: hs) ∧ i < n := by
  obtain ⟨⟨h1, h2, h3, h4⟩, h5⟩ := hs'
  refine ⟨?_, ⟨⟨h1, by omega, h3, h4⟩, h5⟩, by omega⟩
  rw [h, List.append_assoc]
  congr 1
  show (List.range (z.toNat - i)).map _ ++ _ = (k : Int) :: ((List.range (z.toNat - (i + 1))).map _ ++ (List.replicate o.length (-1) ++ plcF n (z.toNat + o.length) (k + 1 + (z.toNat - (i + 1)) + e.length) hs))
  rw [show z.toNat - i = (z.toNat - (i + 1)) + 1 by omega, range_cons_map, show k + (z.toNat - (i + 1) + 1) + e.length = k + 1 + (z.toNat - (i + 1)) + e.length by omega]
  rfl
theorem plc_hunk (h : full = out ++ plcF n i k ((z, o, e) :: hs)) (hs' : sepB n ((i : Int) - 1) ((z, o, e) :: hs)) (hz : z = (i : Int)) :
    full = (out ++ List.replicate o.length (-1)) ++ plcF n (i + o.length) (k + e.length) hs ∧ sepB n (((i + o.length : Nat) : Int) - 1) hs ∧ i + o.length ≤ n := by
  obtain ⟨⟨h1, h2, h3, h4⟩, h5⟩ := hs'
  subst hz
  refine ⟨?_, sepB_mono h5 (by omega), by omega⟩
  rw [h, List.append_assoc]
  congr 1
  show (List.range (((i : Nat) : Int).toNat - i)).map _ ++ (List.replicate o.length (-1) ++ plcF n (((i : Nat) : Int).toNat + o.length) (k + (((i : Nat) : Int).toNat - i) + e.length) hs) = _
  rw [Int.toNat_natCast, Nat.sub_self]
  rfl
theorem plcF_start {α : Type} [DecidableEq α] (a b : List α) : plcL a b = [] ++ plcF a.length 0 0 (diffL a b) ∧ sepB a.length (((0 : Nat) : Int) - 1) (diffL a b) := ⟨rfl, sep_diffL a b⟩
end
end Go.Proofs.Ythobbcafemkhbaa
