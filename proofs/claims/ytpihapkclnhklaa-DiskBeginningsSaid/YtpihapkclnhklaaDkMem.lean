/- Words for disks in memory. -/
import Derived.Test.YtpihapkclnhklaaMem
import Derived.Test.YtpihapkclnhklaaDkPlain
namespace Go.Proofs.Ytpihapkclnhklaa
open Go.RowKit

/-- A pending write: its sector and its data. -/
def WrR : List Value → Int × ByteArray → Prop := fun us x => us = [.int .i64 x.1, .string x.2] ∧ -9223372036854775808 ≤ x.1 ∧ x.1 ≤ 9223372036854775807
def Wrs (w : World) (v : Value) (l : List (Int × ByteArray)) : Prop := Sl w 2 WrR v l
theorem Wrs.keep {w w' : World} {v : Value} {l : List (Int × ByteArray)} (h : Wrs w v l) (k : Keeps w w') : Wrs w' v l := Sl.keep h k fun _ _ h => h
theorem Wrs.form {w : World} {v : Value} {xs : List (Int × ByteArray)} (h : Wrs w v xs) : ∃ A c, v = .slice A xs.length c ∧ xs.length ≤ c ∧ c ≤ 9223372036854775807 := Sl.form h
theorem Wrs.get {w : World} {l : List (Int × ByteArray)} {A : Option Addr} {c n : Nat} (h : Wrs w (.slice A n c) l) {i : Nat} (hi : i < l.length) :
    ∃ b off, A = some ⟨b, off, none⟩ ∧ w.cell? ⟨b, off + i * 2, none⟩ = some (.int .i64 l[i].1) ∧ w.cell? ⟨b, off + i * 2 + 1, none⟩ = some (.string l[i].2) ∧
      -9223372036854775808 ≤ l[i].1 ∧ l[i].1 ≤ 9223372036854775807 := by
  obtain ⟨b, off, us, e, ⟨rfl, h1, h2⟩, _, hc⟩ := Sl.get h (List.getElem?_eq_getElem hi) (by omega)
  exact ⟨b, off, e, hc 0 _ rfl, hc 1 _ rfl, h1, h2⟩

/-- Numbers. -/
def IntR : List Value → Int → Prop := fun us x => us = [.int .i64 x] ∧ -9223372036854775808 ≤ x ∧ x ≤ 9223372036854775807
def Ints (w : World) (v : Value) (l : List Int) : Prop := Sl w 1 IntR v l
theorem Ints.keep {w w' : World} {v : Value} {l : List Int} (h : Ints w v l) (k : Keeps w w') : Ints w' v l := Sl.keep h k fun _ _ h => h
theorem Ints.form {w : World} {v : Value} {xs : List Int} (h : Ints w v xs) : ∃ A c, v = .slice A xs.length c ∧ xs.length ≤ c ∧ c ≤ 9223372036854775807 := Sl.form h
theorem Ints.get {w : World} {l : List Int} {A : Option Addr} {c n : Nat} (h : Ints w (.slice A n c) l) {i : Nat} (hi : i < l.length) :
    ∃ b off, A = some ⟨b, off, none⟩ ∧ w.cell? ⟨b, off + i, none⟩ = some (.int .i64 l[i]) ∧ -9223372036854775808 ≤ l[i] ∧ l[i] ≤ 9223372036854775807 := by
  obtain ⟨b, off, us, e, ⟨rfl, h1, h2⟩, _, hc⟩ := Sl.get h (List.getElem?_eq_getElem hi) (by omega)
  exact ⟨b, off, e, by simpa using hc 0 _ rfl, h1, h2⟩

/-- A disk: its four parts. -/
structure DskP (w : World) (vs vp : Value) (d : Dk) : Prop where
  sec : Strs w vs d.secs
  pen : Wrs w vp d.pend
  z0 : -9223372036854775808 ≤ d.size
  z1 : d.size ≤ 9223372036854775807
  f0 : -9223372036854775808 ≤ d.left
  f1 : d.left ≤ 9223372036854775807
theorem DskP.keep {w w' : World} {vs vp : Value} {d : Dk} (h : DskP w vs vp d) (k : Keeps w w') : DskP w' vs vp d := ⟨h.sec.keep k, h.pen.keep k, h.z0, h.z1, h.f0, h.f1⟩
/-- A disk as one value. -/
def Dsk (w : World) (v : Value) (d : Dk) : Prop := ∃ vs vp, v = .agg #[.int .i64 d.size, vs, vp, .int .i64 d.left] ∧ DskP w vs vp d
theorem Dsk.keep {w w' : World} {v : Value} {d : Dk} (h : Dsk w v d) (k : Keeps w w') : Dsk w' v d := by
  obtain ⟨vs, vp, e, h⟩ := h
  exact ⟨vs, vp, e, h.keep k⟩
/-- The cells of a boxed disk. -/
def dkCells (d : Dk) (vs vp : Value) : Array Value := #[.int .i64 d.size, vs, vp, .int .i64 d.left]
theorem Dsk.nodisk (w : World) : DskP w (.slice none 0 0) (.slice none 0 0) noDisk := ⟨Sl.nil _ _ _, Sl.nil _ _ _, by decide, by decide, by decide, by decide⟩
end Go.Proofs.Ytpihapkclnhklaa
