/-
  No cell of these rows narrows 'for every input' (looked for: loops, veiled, ifaces, maps, wideKeys, modest, calm, conditions, laid).
  DERIVED. THE GIVEN ROWS OF THIS SEAT. 8 by the template 'for every input the law returns true; each argument reads behind the call as it read before'; 0 by the template 'total and deterministic' (their statements: YtockmhhiomdlkaaTotals.lean).
  GIVEN WITH THE SEED: the statements are not yours to turn. If you find one false, say at which input.
  Laid BY PROGRAM, IN A SANDBOX (cutbox-rows.mjs): the forced cells as the released guide's own fill.sh prints them over the translation a4af1fadfa8fb2df… (all of the seat's roots in one cut). By AI agents, Wed Nov 11 2026. No macro, syntax, notation, axiom, sorry.
-/
import Derived.Test.YtockmhhiomdlkaaChecked
import GoSem.Claim
import GoSem.ClaimJoined
import GoSem.ClaimMapViews
import Derived.JoinedTies
import Derived.KernelRfl
namespace Go.Proofs.Ytockmhhiomdlkaa
/- THE CELL 'sum', in the pinned program and in every row, IS THE sha256 OF THE DUMP (.gsa) THAT YtockmhhiomdlkaaProg.lean LOADS. Nothing in Lean hashes anything: it is a label: what it is worth is what the hold of that sum in a sandbox is worth. -/
noncomputable def Try.pinned : Pinned := { name := "ytockmhhiomdlkaa", sum := "a4af1fadfa8fb2df7d13c0f65428d99003efd53f39b7fee913a77504dd60ae8d", checked := Try.checked }
namespace Rows
def none {H : Type} : Left H := { results := [], args := [] }

/-- 'cordwoodlaw06.JournalAppend': WHATEVER THE INPUT: true; the input reads as it did. -/
def journalAppendSpec : ChangeSpec := { name := "journalAppend", fn := fun _ => fun
  | [d1, d2] => { results := [.lit (.bool true)], args := [d1, d2] }
  | _ => none }
def journalAppendRow : OpenClaim := { program := "ytockmhhiomdlkaa", sum := "a4af1fadfa8fb2df7d13c0f65428d99003efd53f39b7fee913a77504dd60ae8d", func := "cordwood/cordwoodlaw06.JournalAppend", spec := "journalAppend", inPlace := ["internal/abi.NoEscape", "internal/bytealg.MakeNoZero"], unfollowed := true, recurses := true, apart := false }
def JournalAppendSaid : Prop := journalAppendRow.holds Try.pinned (OpenSpec.ofChange journalAppendSpec)

/-- ITS FALSE NEIGHBOUR: 'it returns false'. Refute it at one input. -/
def journalAppendWrong : ChangeSpec := { name := "journalAppend", fn := fun _ => fun
  | [d1, d2] => { results := [.lit (.bool false)], args := [d1, d2] }
  | _ => none }
def JournalAppendWrongFalsely : Prop := journalAppendRow.holds Try.pinned (OpenSpec.ofChange journalAppendWrong)

/-- 'cordwoodlaw06.JournalRead': WHATEVER THE INPUT: true; the input reads as it did. -/
def journalReadSpec : ChangeSpec := { name := "journalRead", fn := fun _ => fun
  | [d] => { results := [.lit (.bool true)], args := [d] }
  | _ => none }
def journalReadRow : OpenClaim := { program := "ytockmhhiomdlkaa", sum := "a4af1fadfa8fb2df7d13c0f65428d99003efd53f39b7fee913a77504dd60ae8d", func := "cordwood/cordwoodlaw06.JournalRead", spec := "journalRead", inPlace := ["internal/abi.NoEscape", "internal/bytealg.MakeNoZero"], unfollowed := true, recurses := true, apart := false }
def JournalReadSaid : Prop := journalReadRow.holds Try.pinned (OpenSpec.ofChange journalReadSpec)

/-- ITS FALSE NEIGHBOUR: 'it returns false'. Refute it at one input. -/
def journalReadWrong : ChangeSpec := { name := "journalRead", fn := fun _ => fun
  | [d] => { results := [.lit (.bool false)], args := [d] }
  | _ => none }
def JournalReadWrongFalsely : Prop := journalReadRow.holds Try.pinned (OpenSpec.ofChange journalReadWrong)

/-- 'cordwoodlaw06.JournalRewrite': WHATEVER THE INPUT: true; the input reads as it did. -/
def journalRewriteSpec : ChangeSpec := { name := "journalRewrite", fn := fun _ => fun
  | [d1, d2] => { results := [.lit (.bool true)], args := [d1, d2] }
  | _ => none }
def journalRewriteRow : OpenClaim := { program := "ytockmhhiomdlkaa", sum := "a4af1fadfa8fb2df7d13c0f65428d99003efd53f39b7fee913a77504dd60ae8d", func := "cordwood/cordwoodlaw06.JournalRewrite", spec := "journalRewrite", inPlace := ["internal/abi.NoEscape", "internal/bytealg.MakeNoZero"], unfollowed := true, recurses := true, apart := false }
def JournalRewriteSaid : Prop := journalRewriteRow.holds Try.pinned (OpenSpec.ofChange journalRewriteSpec)

/-- ITS FALSE NEIGHBOUR: 'it returns false'. Refute it at one input. -/
def journalRewriteWrong : ChangeSpec := { name := "journalRewrite", fn := fun _ => fun
  | [d1, d2] => { results := [.lit (.bool false)], args := [d1, d2] }
  | _ => none }
def JournalRewriteWrongFalsely : Prop := journalRewriteRow.holds Try.pinned (OpenSpec.ofChange journalRewriteWrong)

/-- 'cordwoodlaw06.JournalSpace': WHATEVER THE INPUT: true; the input reads as it did. -/
def journalSpaceSpec : ChangeSpec := { name := "journalSpace", fn := fun _ => fun
  | [d1, d2] => { results := [.lit (.bool true)], args := [d1, d2] }
  | _ => none }
def journalSpaceRow : OpenClaim := { program := "ytockmhhiomdlkaa", sum := "a4af1fadfa8fb2df7d13c0f65428d99003efd53f39b7fee913a77504dd60ae8d", func := "cordwood/cordwoodlaw06.JournalSpace", spec := "journalSpace", inPlace := ["internal/abi.NoEscape", "internal/bytealg.MakeNoZero"], unfollowed := true, recurses := true, apart := false }
def JournalSpaceSaid : Prop := journalSpaceRow.holds Try.pinned (OpenSpec.ofChange journalSpaceSpec)

/-- ITS FALSE NEIGHBOUR: 'it returns false'. Refute it at one input. -/
def journalSpaceWrong : ChangeSpec := { name := "journalSpace", fn := fun _ => fun
  | [d1, d2] => { results := [.lit (.bool false)], args := [d1, d2] }
  | _ => none }
def JournalSpaceWrongFalsely : Prop := journalSpaceRow.holds Try.pinned (OpenSpec.ofChange journalSpaceWrong)

/-- 'cordwoodlaw06.JournalContents': WHATEVER THE INPUT: true; the input reads as it did. -/
def journalContentsSpec : ChangeSpec := { name := "journalContents", fn := fun _ => fun
  | [d1, d2] => { results := [.lit (.bool true)], args := [d1, d2] }
  | _ => none }
def journalContentsRow : OpenClaim := { program := "ytockmhhiomdlkaa", sum := "a4af1fadfa8fb2df7d13c0f65428d99003efd53f39b7fee913a77504dd60ae8d", func := "cordwood/cordwoodlaw06.JournalContents", spec := "journalContents", inPlace := ["internal/abi.NoEscape", "internal/bytealg.MakeNoZero"], unfollowed := true, recurses := true, apart := false }
def JournalContentsSaid : Prop := journalContentsRow.holds Try.pinned (OpenSpec.ofChange journalContentsSpec)

/-- ITS FALSE NEIGHBOUR: 'it returns false'. Refute it at one input. -/
def journalContentsWrong : ChangeSpec := { name := "journalContents", fn := fun _ => fun
  | [d1, d2] => { results := [.lit (.bool false)], args := [d1, d2] }
  | _ => none }
def JournalContentsWrongFalsely : Prop := journalContentsRow.holds Try.pinned (OpenSpec.ofChange journalContentsWrong)

/-- 'cordwoodlaw06.JournalDurable': WHATEVER THE INPUT: true; the input reads as it did. -/
def journalDurableSpec : ChangeSpec := { name := "journalDurable", fn := fun _ => fun
  | [d1, d2, d3] => { results := [.lit (.bool true)], args := [d1, d2, d3] }
  | _ => none }
def journalDurableRow : OpenClaim := { program := "ytockmhhiomdlkaa", sum := "a4af1fadfa8fb2df7d13c0f65428d99003efd53f39b7fee913a77504dd60ae8d", func := "cordwood/cordwoodlaw06.JournalDurable", spec := "journalDurable", inPlace := ["internal/abi.NoEscape", "internal/bytealg.MakeNoZero"], unfollowed := true, recurses := true, apart := false }
def JournalDurableSaid : Prop := journalDurableRow.holds Try.pinned (OpenSpec.ofChange journalDurableSpec)

/-- ITS FALSE NEIGHBOUR: 'it returns false'. Refute it at one input. -/
def journalDurableWrong : ChangeSpec := { name := "journalDurable", fn := fun _ => fun
  | [d1, d2, d3] => { results := [.lit (.bool false)], args := [d1, d2, d3] }
  | _ => none }
def JournalDurableWrongFalsely : Prop := journalDurableRow.holds Try.pinned (OpenSpec.ofChange journalDurableWrong)

/-- 'cordwoodlaw06.JournalAtomic': WHATEVER THE INPUT: true; the input reads as it did. -/
def journalAtomicSpec : ChangeSpec := { name := "journalAtomic", fn := fun _ => fun
  | [d] => { results := [.lit (.bool true)], args := [d] }
  | _ => none }
def journalAtomicRow : OpenClaim := { program := "ytockmhhiomdlkaa", sum := "a4af1fadfa8fb2df7d13c0f65428d99003efd53f39b7fee913a77504dd60ae8d", func := "cordwood/cordwoodlaw06.JournalAtomic", spec := "journalAtomic", inPlace := ["internal/abi.NoEscape", "internal/bytealg.MakeNoZero"], unfollowed := true, recurses := true, apart := false }
def JournalAtomicSaid : Prop := journalAtomicRow.holds Try.pinned (OpenSpec.ofChange journalAtomicSpec)

/-- ITS FALSE NEIGHBOUR: 'it returns false'. Refute it at one input. -/
def journalAtomicWrong : ChangeSpec := { name := "journalAtomic", fn := fun _ => fun
  | [d] => { results := [.lit (.bool false)], args := [d] }
  | _ => none }
def JournalAtomicWrongFalsely : Prop := journalAtomicRow.holds Try.pinned (OpenSpec.ofChange journalAtomicWrong)

/-- 'cordwoodlaw06.JournalStory': WHATEVER THE INPUT: true; the input reads as it did. -/
def journalStorySpec : ChangeSpec := { name := "journalStory", fn := fun _ => fun
  | [d] => { results := [.lit (.bool true)], args := [d] }
  | _ => none }
def journalStoryRow : OpenClaim := { program := "ytockmhhiomdlkaa", sum := "a4af1fadfa8fb2df7d13c0f65428d99003efd53f39b7fee913a77504dd60ae8d", func := "cordwood/cordwoodlaw06.JournalStory", spec := "journalStory", inPlace := ["internal/abi.NoEscape", "internal/bytealg.MakeNoZero"], unfollowed := true, recurses := true, apart := false }
def JournalStorySaid : Prop := journalStoryRow.holds Try.pinned (OpenSpec.ofChange journalStorySpec)

/-- ITS FALSE NEIGHBOUR: 'it returns false'. Refute it at one input. -/
def journalStoryWrong : ChangeSpec := { name := "journalStory", fn := fun _ => fun
  | [d] => { results := [.lit (.bool false)], args := [d] }
  | _ => none }
def JournalStoryWrongFalsely : Prop := journalStoryRow.holds Try.pinned (OpenSpec.ofChange journalStoryWrong)

/- THE SECOND FORM. 'bulk': how many values and letters a reading holds, each counted each time it is reached (what is shared counts as often as it is met; a slice's spare places count too). A statement '..UptoSaid' is the law's where the arguments, and the package variables that the reading takes, are together of bulk at most 1048576: NARROWER than '..Said'. Prove '..Said' where nothing that the law and all that it calls make is longer than what came in: it says more and counts as full. Else prove '..UptoSaid'. A law counts once. -/
mutual
def uptoBulk {H : Type} : DataW H → Nat
  | .lit (.string bytes) => bytes.length + 1
  | .lit _ => 1
  | .nil => 1
  | .ptr d => uptoBulk d + 1
  | .slice elems spare => uptoBulkAll elems + uptoBulkAll spare + 1
  | .agg parts => uptoBulkAll parts + 1
  | .iface _ d => uptoBulk d + 1
  | .map entries => uptoBulkEntries entries + 1
  | .held _ => 1
def uptoBulkAll {H : Type} : List (DataW H) → Nat
  | [] => 0
  | d :: r => uptoBulk d + uptoBulkAll r
def uptoBulkEntries {H : Type} : List (Lit × DataW H) → Nat
  | [] => 0
  | x :: r => uptoBulkEntry x + uptoBulkEntries r
def uptoBulkEntry {H : Type} : Lit × DataW H → Nat
  | (.string bytes, d) => bytes.length + uptoBulk d + 1
  | (_, d) => uptoBulk d + 1
 end
def uptoSmall : (H : Type) → List (DataW H) → Bool := fun _ ds => decide (uptoBulkAll ds ≤ 1048576)
def OpenSpec.upto (s : _root_.Go.ChangeSpec) : _root_.Go.OpenSpec := { _root_.Go.OpenSpec.ofChange s with cond := some uptoSmall }

/-- 'cordwoodlaw06.JournalAppend', WHERE WHAT IT READS IS OF BULK AT MOST 1048576: true; the input reads as it did. -/
def journalAppendUptoRow : OpenClaim := { program := "ytockmhhiomdlkaa", sum := "a4af1fadfa8fb2df7d13c0f65428d99003efd53f39b7fee913a77504dd60ae8d", func := "cordwood/cordwoodlaw06.JournalAppend", spec := "journalAppend", inPlace := ["internal/abi.NoEscape", "internal/bytealg.MakeNoZero"], unfollowed := true, recurses := true, apart := false, narrowed := true }
def JournalAppendUptoSaid : Prop := journalAppendUptoRow.holds Try.pinned (OpenSpec.upto journalAppendSpec)

/-- 'cordwoodlaw06.JournalRead', WHERE WHAT IT READS IS OF BULK AT MOST 1048576: true; the input reads as it did. -/
def journalReadUptoRow : OpenClaim := { program := "ytockmhhiomdlkaa", sum := "a4af1fadfa8fb2df7d13c0f65428d99003efd53f39b7fee913a77504dd60ae8d", func := "cordwood/cordwoodlaw06.JournalRead", spec := "journalRead", inPlace := ["internal/abi.NoEscape", "internal/bytealg.MakeNoZero"], unfollowed := true, recurses := true, apart := false, narrowed := true }
def JournalReadUptoSaid : Prop := journalReadUptoRow.holds Try.pinned (OpenSpec.upto journalReadSpec)

/-- 'cordwoodlaw06.JournalRewrite', WHERE WHAT IT READS IS OF BULK AT MOST 1048576: true; the input reads as it did. -/
def journalRewriteUptoRow : OpenClaim := { program := "ytockmhhiomdlkaa", sum := "a4af1fadfa8fb2df7d13c0f65428d99003efd53f39b7fee913a77504dd60ae8d", func := "cordwood/cordwoodlaw06.JournalRewrite", spec := "journalRewrite", inPlace := ["internal/abi.NoEscape", "internal/bytealg.MakeNoZero"], unfollowed := true, recurses := true, apart := false, narrowed := true }
def JournalRewriteUptoSaid : Prop := journalRewriteUptoRow.holds Try.pinned (OpenSpec.upto journalRewriteSpec)

/-- 'cordwoodlaw06.JournalSpace', WHERE WHAT IT READS IS OF BULK AT MOST 1048576: true; the input reads as it did. -/
def journalSpaceUptoRow : OpenClaim := { program := "ytockmhhiomdlkaa", sum := "a4af1fadfa8fb2df7d13c0f65428d99003efd53f39b7fee913a77504dd60ae8d", func := "cordwood/cordwoodlaw06.JournalSpace", spec := "journalSpace", inPlace := ["internal/abi.NoEscape", "internal/bytealg.MakeNoZero"], unfollowed := true, recurses := true, apart := false, narrowed := true }
def JournalSpaceUptoSaid : Prop := journalSpaceUptoRow.holds Try.pinned (OpenSpec.upto journalSpaceSpec)

/-- 'cordwoodlaw06.JournalContents', WHERE WHAT IT READS IS OF BULK AT MOST 1048576: true; the input reads as it did. -/
def journalContentsUptoRow : OpenClaim := { program := "ytockmhhiomdlkaa", sum := "a4af1fadfa8fb2df7d13c0f65428d99003efd53f39b7fee913a77504dd60ae8d", func := "cordwood/cordwoodlaw06.JournalContents", spec := "journalContents", inPlace := ["internal/abi.NoEscape", "internal/bytealg.MakeNoZero"], unfollowed := true, recurses := true, apart := false, narrowed := true }
def JournalContentsUptoSaid : Prop := journalContentsUptoRow.holds Try.pinned (OpenSpec.upto journalContentsSpec)

/-- 'cordwoodlaw06.JournalDurable', WHERE WHAT IT READS IS OF BULK AT MOST 1048576: true; the input reads as it did. -/
def journalDurableUptoRow : OpenClaim := { program := "ytockmhhiomdlkaa", sum := "a4af1fadfa8fb2df7d13c0f65428d99003efd53f39b7fee913a77504dd60ae8d", func := "cordwood/cordwoodlaw06.JournalDurable", spec := "journalDurable", inPlace := ["internal/abi.NoEscape", "internal/bytealg.MakeNoZero"], unfollowed := true, recurses := true, apart := false, narrowed := true }
def JournalDurableUptoSaid : Prop := journalDurableUptoRow.holds Try.pinned (OpenSpec.upto journalDurableSpec)

/-- 'cordwoodlaw06.JournalAtomic', WHERE WHAT IT READS IS OF BULK AT MOST 1048576: true; the input reads as it did. -/
def journalAtomicUptoRow : OpenClaim := { program := "ytockmhhiomdlkaa", sum := "a4af1fadfa8fb2df7d13c0f65428d99003efd53f39b7fee913a77504dd60ae8d", func := "cordwood/cordwoodlaw06.JournalAtomic", spec := "journalAtomic", inPlace := ["internal/abi.NoEscape", "internal/bytealg.MakeNoZero"], unfollowed := true, recurses := true, apart := false, narrowed := true }
def JournalAtomicUptoSaid : Prop := journalAtomicUptoRow.holds Try.pinned (OpenSpec.upto journalAtomicSpec)

/-- 'cordwoodlaw06.JournalStory', WHERE WHAT IT READS IS OF BULK AT MOST 1048576: true; the input reads as it did. -/
def journalStoryUptoRow : OpenClaim := { program := "ytockmhhiomdlkaa", sum := "a4af1fadfa8fb2df7d13c0f65428d99003efd53f39b7fee913a77504dd60ae8d", func := "cordwood/cordwoodlaw06.JournalStory", spec := "journalStory", inPlace := ["internal/abi.NoEscape", "internal/bytealg.MakeNoZero"], unfollowed := true, recurses := true, apart := false, narrowed := true }
def JournalStoryUptoSaid : Prop := journalStoryUptoRow.holds Try.pinned (OpenSpec.upto journalStorySpec)

end Rows
end Go.Proofs.Ytockmhhiomdlkaa
