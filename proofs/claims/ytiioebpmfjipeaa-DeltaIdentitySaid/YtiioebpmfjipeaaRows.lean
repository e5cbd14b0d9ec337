/-
  No cell of these rows narrows 'for every input' (looked for: loops, veiled, ifaces, maps, wideKeys, modest, calm, conditions, laid).
  DERIVED. THE GIVEN ROWS OF THIS SEAT. 10 by the template 'for every input the law returns true; each argument reads behind the call as it read before'; 0 by the template 'total and deterministic' (their statements: YtiioebpmfjipeaaTotals.lean).
  GIVEN WITH THE SEED: the statements are not yours to turn. If you find one false, say at which input.
  Laid BY PROGRAM, IN A SANDBOX (cutbox-rows.mjs): the forced cells as the released guide's own fill.sh prints them over the translation edc0e4d30d8dd37f… (all of the seat's roots in one cut). By AI agents, Wed Nov 11 2026. No macro, syntax, notation, axiom, sorry.
-/
import Derived.Test.YtiioebpmfjipeaaChecked
import GoSem.Claim
import GoSem.ClaimJoined
import GoSem.ClaimMapViews
import Derived.JoinedTies
import Derived.KernelRfl
namespace Go.Proofs.Ytiioebpmfjipeaa
/- THE CELL 'sum', in the pinned program and in every row, IS THE sha256 OF THE DUMP (.gsa) THAT YtiioebpmfjipeaaProg.lean LOADS. Nothing in Lean hashes anything: it is a label: what it is worth is what the hold of that sum in a sandbox is worth. -/
noncomputable def Try.pinned : Pinned := { name := "ytiioebpmfjipeaa", sum := "edc0e4d30d8dd37f7f4f363c7cb17f61678d3f800ffafa5909cbb767d1471904", checked := Try.checked }
namespace Rows
def none {H : Type} : Left H := { results := [], args := [] }

/-- 'cordwoodlaw04.DeltaDiff': WHATEVER THE INPUT: true; the input reads as it did. -/
def deltaDiffSpec : ChangeSpec := { name := "deltaDiff", fn := fun _ => fun
  | [d1, d2] => { results := [.lit (.bool true)], args := [d1, d2] }
  | _ => none }
def deltaDiffRow : OpenClaim := { program := "ytiioebpmfjipeaa", sum := "edc0e4d30d8dd37f7f4f363c7cb17f61678d3f800ffafa5909cbb767d1471904", func := "cordwood/cordwoodlaw04.DeltaDiff", spec := "deltaDiff", inPlace := ["internal/abi.NoEscape"], unfollowed := true, recurses := true, apart := false }
def DeltaDiffSaid : Prop := deltaDiffRow.holds Try.pinned (OpenSpec.ofChange deltaDiffSpec)

/-- ITS FALSE NEIGHBOUR: 'it returns false'. Refute it at one input. -/
def deltaDiffWrong : ChangeSpec := { name := "deltaDiff", fn := fun _ => fun
  | [d1, d2] => { results := [.lit (.bool false)], args := [d1, d2] }
  | _ => none }
def DeltaDiffWrongFalsely : Prop := deltaDiffRow.holds Try.pinned (OpenSpec.ofChange deltaDiffWrong)

/-- 'cordwoodlaw04.DeltaCopies': WHATEVER THE INPUT: true; the input reads as it did. -/
def deltaCopiesSpec : ChangeSpec := { name := "deltaCopies", fn := fun _ => fun
  | [d1, d2] => { results := [.lit (.bool true)], args := [d1, d2] }
  | _ => none }
def deltaCopiesRow : OpenClaim := { program := "ytiioebpmfjipeaa", sum := "edc0e4d30d8dd37f7f4f363c7cb17f61678d3f800ffafa5909cbb767d1471904", func := "cordwood/cordwoodlaw04.DeltaCopies", spec := "deltaCopies", inPlace := ["internal/abi.NoEscape"], unfollowed := true, recurses := true, apart := false }
def DeltaCopiesSaid : Prop := deltaCopiesRow.holds Try.pinned (OpenSpec.ofChange deltaCopiesSpec)

/-- ITS FALSE NEIGHBOUR: 'it returns false'. Refute it at one input. -/
def deltaCopiesWrong : ChangeSpec := { name := "deltaCopies", fn := fun _ => fun
  | [d1, d2] => { results := [.lit (.bool false)], args := [d1, d2] }
  | _ => none }
def DeltaCopiesWrongFalsely : Prop := deltaCopiesRow.holds Try.pinned (OpenSpec.ofChange deltaCopiesWrong)

/-- 'cordwoodlaw04.DeltaCheck': WHATEVER THE INPUT: true; the input reads as it did. -/
def deltaCheckSpec : ChangeSpec := { name := "deltaCheck", fn := fun _ => fun
  | [d1, d2] => { results := [.lit (.bool true)], args := [d1, d2] }
  | _ => none }
def deltaCheckRow : OpenClaim := { program := "ytiioebpmfjipeaa", sum := "edc0e4d30d8dd37f7f4f363c7cb17f61678d3f800ffafa5909cbb767d1471904", func := "cordwood/cordwoodlaw04.DeltaCheck", spec := "deltaCheck", inPlace := ["internal/abi.NoEscape"], unfollowed := true, recurses := true, apart := false }
def DeltaCheckSaid : Prop := deltaCheckRow.holds Try.pinned (OpenSpec.ofChange deltaCheckSpec)

/-- ITS FALSE NEIGHBOUR: 'it returns false'. Refute it at one input. -/
def deltaCheckWrong : ChangeSpec := { name := "deltaCheck", fn := fun _ => fun
  | [d1, d2] => { results := [.lit (.bool false)], args := [d1, d2] }
  | _ => none }
def DeltaCheckWrongFalsely : Prop := deltaCheckRow.holds Try.pinned (OpenSpec.ofChange deltaCheckWrong)

/-- 'cordwoodlaw04.DeltaApply': WHATEVER THE INPUT: true; the input reads as it did. -/
def deltaApplySpec : ChangeSpec := { name := "deltaApply", fn := fun _ => fun
  | [d1, d2] => { results := [.lit (.bool true)], args := [d1, d2] }
  | _ => none }
def deltaApplyRow : OpenClaim := { program := "ytiioebpmfjipeaa", sum := "edc0e4d30d8dd37f7f4f363c7cb17f61678d3f800ffafa5909cbb767d1471904", func := "cordwood/cordwoodlaw04.DeltaApply", spec := "deltaApply", inPlace := ["internal/abi.NoEscape"], unfollowed := true, recurses := true, apart := false }
def DeltaApplySaid : Prop := deltaApplyRow.holds Try.pinned (OpenSpec.ofChange deltaApplySpec)

/-- ITS FALSE NEIGHBOUR: 'it returns false'. Refute it at one input. -/
def deltaApplyWrong : ChangeSpec := { name := "deltaApply", fn := fun _ => fun
  | [d1, d2] => { results := [.lit (.bool false)], args := [d1, d2] }
  | _ => none }
def DeltaApplyWrongFalsely : Prop := deltaApplyRow.holds Try.pinned (OpenSpec.ofChange deltaApplyWrong)

/-- 'cordwoodlaw04.DeltaRoundTrip': WHATEVER THE INPUT: true; the input reads as it did. -/
def deltaRoundTripSpec : ChangeSpec := { name := "deltaRoundTrip", fn := fun _ => fun
  | [d1, d2] => { results := [.lit (.bool true)], args := [d1, d2] }
  | _ => none }
def deltaRoundTripRow : OpenClaim := { program := "ytiioebpmfjipeaa", sum := "edc0e4d30d8dd37f7f4f363c7cb17f61678d3f800ffafa5909cbb767d1471904", func := "cordwood/cordwoodlaw04.DeltaRoundTrip", spec := "deltaRoundTrip", inPlace := ["internal/abi.NoEscape"], unfollowed := true, recurses := true, apart := false }
def DeltaRoundTripSaid : Prop := deltaRoundTripRow.holds Try.pinned (OpenSpec.ofChange deltaRoundTripSpec)

/-- ITS FALSE NEIGHBOUR: 'it returns false'. Refute it at one input. -/
def deltaRoundTripWrong : ChangeSpec := { name := "deltaRoundTrip", fn := fun _ => fun
  | [d1, d2] => { results := [.lit (.bool false)], args := [d1, d2] }
  | _ => none }
def DeltaRoundTripWrongFalsely : Prop := deltaRoundTripRow.holds Try.pinned (OpenSpec.ofChange deltaRoundTripWrong)

/-- 'cordwoodlaw04.DeltaCodec': WHATEVER THE INPUT: true; the input reads as it did. -/
def deltaCodecSpec : ChangeSpec := { name := "deltaCodec", fn := fun _ => fun
  | [d1, d2] => { results := [.lit (.bool true)], args := [d1, d2] }
  | _ => none }
def deltaCodecRow : OpenClaim := { program := "ytiioebpmfjipeaa", sum := "edc0e4d30d8dd37f7f4f363c7cb17f61678d3f800ffafa5909cbb767d1471904", func := "cordwood/cordwoodlaw04.DeltaCodec", spec := "deltaCodec", inPlace := ["internal/abi.NoEscape"], unfollowed := true, recurses := true, apart := false }
def DeltaCodecSaid : Prop := deltaCodecRow.holds Try.pinned (OpenSpec.ofChange deltaCodecSpec)

/-- ITS FALSE NEIGHBOUR: 'it returns false'. Refute it at one input. -/
def deltaCodecWrong : ChangeSpec := { name := "deltaCodec", fn := fun _ => fun
  | [d1, d2] => { results := [.lit (.bool false)], args := [d1, d2] }
  | _ => none }
def DeltaCodecWrongFalsely : Prop := deltaCodecRow.holds Try.pinned (OpenSpec.ofChange deltaCodecWrong)

/-- 'cordwoodlaw04.DeltaEncoding': WHATEVER THE INPUT: true; the input reads as it did. -/
def deltaEncodingSpec : ChangeSpec := { name := "deltaEncoding", fn := fun _ => fun
  | [d1, d2] => { results := [.lit (.bool true)], args := [d1, d2] }
  | _ => none }
def deltaEncodingRow : OpenClaim := { program := "ytiioebpmfjipeaa", sum := "edc0e4d30d8dd37f7f4f363c7cb17f61678d3f800ffafa5909cbb767d1471904", func := "cordwood/cordwoodlaw04.DeltaEncoding", spec := "deltaEncoding", inPlace := ["internal/abi.NoEscape"], unfollowed := true, recurses := true, apart := false }
def DeltaEncodingSaid : Prop := deltaEncodingRow.holds Try.pinned (OpenSpec.ofChange deltaEncodingSpec)

/-- ITS FALSE NEIGHBOUR: 'it returns false'. Refute it at one input. -/
def deltaEncodingWrong : ChangeSpec := { name := "deltaEncoding", fn := fun _ => fun
  | [d1, d2] => { results := [.lit (.bool false)], args := [d1, d2] }
  | _ => none }
def DeltaEncodingWrongFalsely : Prop := deltaEncodingRow.holds Try.pinned (OpenSpec.ofChange deltaEncodingWrong)

/-- 'cordwoodlaw04.DeltaCompose': WHATEVER THE INPUT: true; the input reads as it did. -/
def deltaComposeSpec : ChangeSpec := { name := "deltaCompose", fn := fun _ => fun
  | [d1, d2, d3] => { results := [.lit (.bool true)], args := [d1, d2, d3] }
  | _ => none }
def deltaComposeRow : OpenClaim := { program := "ytiioebpmfjipeaa", sum := "edc0e4d30d8dd37f7f4f363c7cb17f61678d3f800ffafa5909cbb767d1471904", func := "cordwood/cordwoodlaw04.DeltaCompose", spec := "deltaCompose", inPlace := ["internal/abi.NoEscape"], unfollowed := true, recurses := true, apart := false }
def DeltaComposeSaid : Prop := deltaComposeRow.holds Try.pinned (OpenSpec.ofChange deltaComposeSpec)

/-- ITS FALSE NEIGHBOUR: 'it returns false'. Refute it at one input. -/
def deltaComposeWrong : ChangeSpec := { name := "deltaCompose", fn := fun _ => fun
  | [d1, d2, d3] => { results := [.lit (.bool false)], args := [d1, d2, d3] }
  | _ => none }
def DeltaComposeWrongFalsely : Prop := deltaComposeRow.holds Try.pinned (OpenSpec.ofChange deltaComposeWrong)

/-- 'cordwoodlaw04.DeltaIdentity': WHATEVER THE INPUT: true; the input reads as it did. -/
def deltaIdentitySpec : ChangeSpec := { name := "deltaIdentity", fn := fun _ => fun
  | [d1, d2] => { results := [.lit (.bool true)], args := [d1, d2] }
  | _ => none }
def deltaIdentityRow : OpenClaim := { program := "ytiioebpmfjipeaa", sum := "edc0e4d30d8dd37f7f4f363c7cb17f61678d3f800ffafa5909cbb767d1471904", func := "cordwood/cordwoodlaw04.DeltaIdentity", spec := "deltaIdentity", inPlace := ["internal/abi.NoEscape"], unfollowed := true, recurses := true, apart := false }
def DeltaIdentitySaid : Prop := deltaIdentityRow.holds Try.pinned (OpenSpec.ofChange deltaIdentitySpec)

/-- ITS FALSE NEIGHBOUR: 'it returns false'. Refute it at one input. -/
def deltaIdentityWrong : ChangeSpec := { name := "deltaIdentity", fn := fun _ => fun
  | [d1, d2] => { results := [.lit (.bool false)], args := [d1, d2] }
  | _ => none }
def DeltaIdentityWrongFalsely : Prop := deltaIdentityRow.holds Try.pinned (OpenSpec.ofChange deltaIdentityWrong)

/-- 'cordwoodlaw04.DeltaComposition': WHATEVER THE INPUT: true; the input reads as it did. -/
def deltaCompositionSpec : ChangeSpec := { name := "deltaComposition", fn := fun _ => fun
  | [d1, d2, d3] => { results := [.lit (.bool true)], args := [d1, d2, d3] }
  | _ => none }
def deltaCompositionRow : OpenClaim := { program := "ytiioebpmfjipeaa", sum := "edc0e4d30d8dd37f7f4f363c7cb17f61678d3f800ffafa5909cbb767d1471904", func := "cordwood/cordwoodlaw04.DeltaComposition", spec := "deltaComposition", inPlace := ["internal/abi.NoEscape"], unfollowed := true, recurses := true, apart := false }
def DeltaCompositionSaid : Prop := deltaCompositionRow.holds Try.pinned (OpenSpec.ofChange deltaCompositionSpec)

/-- ITS FALSE NEIGHBOUR: 'it returns false'. Refute it at one input. -/
def deltaCompositionWrong : ChangeSpec := { name := "deltaComposition", fn := fun _ => fun
  | [d1, d2, d3] => { results := [.lit (.bool false)], args := [d1, d2, d3] }
  | _ => none }
def DeltaCompositionWrongFalsely : Prop := deltaCompositionRow.holds Try.pinned (OpenSpec.ofChange deltaCompositionWrong)

/- THE SECOND FORM. 'bulk': how many values and letters a reading holds, each counted each time it is reached (what is shared counts as often as it is met; a slice's spare places count too). A statement '..UptoSaid' is the law's where the arguments, and the package variables that the reading takes, are together of bulk at most 1048576: NARROWER than '..Said'. Prove '..Said' where nothing that the law and all that it calls make is longer than what came in: it says more and counts as full. Else prove '..UptoSaid'. A law counts once. -/
mutual
def uptoBulk {H : Type} : DataW H → Nat
  | .lit (.string bytes) => bytes.length + 1
  | .lit _ => 1
  | .nil => 1
  | .ptr d => uptoBulk d + 1
  | .slice elems spare => uptoBulkAll elems + uptoBulkAll spare + 1
  | .agg parts => uptoBulkAll parts + 1
  | .iface _ d => uptoBulk d + 1
  | .map entries => uptoBulkEntries entries + 1
  | .held _ => 1
def uptoBulkAll {H : Type} : List (DataW H) → Nat
  | [] => 0
  | d :: r => uptoBulk d + uptoBulkAll r
def uptoBulkEntries {H : Type} : List (Lit × DataW H) → Nat
  | [] => 0
  | x :: r => uptoBulkEntry x + uptoBulkEntries r
def uptoBulkEntry {H : Type} : Lit × DataW H → Nat
  | (.string bytes, d) => bytes.length + uptoBulk d + 1
  | (_, d) => uptoBulk d + 1
 end
def uptoSmall : (H : Type) → List (DataW H) → Bool := fun _ ds => decide (uptoBulkAll ds ≤ 1048576)
def OpenSpec.upto (s : _root_.Go.ChangeSpec) : _root_.Go.OpenSpec := { _root_.Go.OpenSpec.ofChange s with cond := some uptoSmall }

/-- 'cordwoodlaw04.DeltaDiff', WHERE WHAT IT READS IS OF BULK AT MOST 1048576: true; the input reads as it did. -/
def deltaDiffUptoRow : OpenClaim := { program := "ytiioebpmfjipeaa", sum := "edc0e4d30d8dd37f7f4f363c7cb17f61678d3f800ffafa5909cbb767d1471904", func := "cordwood/cordwoodlaw04.DeltaDiff", spec := "deltaDiff", inPlace := ["internal/abi.NoEscape"], unfollowed := true, recurses := true, apart := false, narrowed := true }
def DeltaDiffUptoSaid : Prop := deltaDiffUptoRow.holds Try.pinned (OpenSpec.upto deltaDiffSpec)

/-- 'cordwoodlaw04.DeltaCopies', WHERE WHAT IT READS IS OF BULK AT MOST 1048576: true; the input reads as it did. -/
def deltaCopiesUptoRow : OpenClaim := { program := "ytiioebpmfjipeaa", sum := "edc0e4d30d8dd37f7f4f363c7cb17f61678d3f800ffafa5909cbb767d1471904", func := "cordwood/cordwoodlaw04.DeltaCopies", spec := "deltaCopies", inPlace := ["internal/abi.NoEscape"], unfollowed := true, recurses := true, apart := false, narrowed := true }
def DeltaCopiesUptoSaid : Prop := deltaCopiesUptoRow.holds Try.pinned (OpenSpec.upto deltaCopiesSpec)

/-- 'cordwoodlaw04.DeltaCheck', WHERE WHAT IT READS IS OF BULK AT MOST 1048576: true; the input reads as it did. -/
def deltaCheckUptoRow : OpenClaim := { program := "ytiioebpmfjipeaa", sum := "edc0e4d30d8dd37f7f4f363c7cb17f61678d3f800ffafa5909cbb767d1471904", func := "cordwood/cordwoodlaw04.DeltaCheck", spec := "deltaCheck", inPlace := ["internal/abi.NoEscape"], unfollowed := true, recurses := true, apart := false, narrowed := true }
def DeltaCheckUptoSaid : Prop := deltaCheckUptoRow.holds Try.pinned (OpenSpec.upto deltaCheckSpec)

/-- 'cordwoodlaw04.DeltaApply', WHERE WHAT IT READS IS OF BULK AT MOST 1048576: true; the input reads as it did. -/
def deltaApplyUptoRow : OpenClaim := { program := "ytiioebpmfjipeaa", sum := "edc0e4d30d8dd37f7f4f363c7cb17f61678d3f800ffafa5909cbb767d1471904", func := "cordwood/cordwoodlaw04.DeltaApply", spec := "deltaApply", inPlace := ["internal/abi.NoEscape"], unfollowed := true, recurses := true, apart := false, narrowed := true }
def DeltaApplyUptoSaid : Prop := deltaApplyUptoRow.holds Try.pinned (OpenSpec.upto deltaApplySpec)

/-- 'cordwoodlaw04.DeltaRoundTrip', WHERE WHAT IT READS IS OF BULK AT MOST 1048576: true; the input reads as it did. -/
def deltaRoundTripUptoRow : OpenClaim := { program := "ytiioebpmfjipeaa", sum := "edc0e4d30d8dd37f7f4f363c7cb17f61678d3f800ffafa5909cbb767d1471904", func := "cordwood/cordwoodlaw04.DeltaRoundTrip", spec := "deltaRoundTrip", inPlace := ["internal/abi.NoEscape"], unfollowed := true, recurses := true, apart := false, narrowed := true }
def DeltaRoundTripUptoSaid : Prop := deltaRoundTripUptoRow.holds Try.pinned (OpenSpec.upto deltaRoundTripSpec)

/-- 'cordwoodlaw04.DeltaCodec', WHERE WHAT IT READS IS OF BULK AT MOST 1048576: true; the input reads as it did. -/
def deltaCodecUptoRow : OpenClaim := { program := "ytiioebpmfjipeaa", sum := "edc0e4d30d8dd37f7f4f363c7cb17f61678d3f800ffafa5909cbb767d1471904", func := "cordwood/cordwoodlaw04.DeltaCodec", spec := "deltaCodec", inPlace := ["internal/abi.NoEscape"], unfollowed := true, recurses := true, apart := false, narrowed := true }
def DeltaCodecUptoSaid : Prop := deltaCodecUptoRow.holds Try.pinned (OpenSpec.upto deltaCodecSpec)

/-- 'cordwoodlaw04.DeltaEncoding', WHERE WHAT IT READS IS OF BULK AT MOST 1048576: true; the input reads as it did. -/
def deltaEncodingUptoRow : OpenClaim := { program := "ytiioebpmfjipeaa", sum := "edc0e4d30d8dd37f7f4f363c7cb17f61678d3f800ffafa5909cbb767d1471904", func := "cordwood/cordwoodlaw04.DeltaEncoding", spec := "deltaEncoding", inPlace := ["internal/abi.NoEscape"], unfollowed := true, recurses := true, apart := false, narrowed := true }
def DeltaEncodingUptoSaid : Prop := deltaEncodingUptoRow.holds Try.pinned (OpenSpec.upto deltaEncodingSpec)

/-- 'cordwoodlaw04.DeltaCompose', WHERE WHAT IT READS IS OF BULK AT MOST 1048576: true; the input reads as it did. -/
def deltaComposeUptoRow : OpenClaim := { program := "ytiioebpmfjipeaa", sum := "edc0e4d30d8dd37f7f4f363c7cb17f61678d3f800ffafa5909cbb767d1471904", func := "cordwood/cordwoodlaw04.DeltaCompose", spec := "deltaCompose", inPlace := ["internal/abi.NoEscape"], unfollowed := true, recurses := true, apart := false, narrowed := true }
def DeltaComposeUptoSaid : Prop := deltaComposeUptoRow.holds Try.pinned (OpenSpec.upto deltaComposeSpec)

/-- 'cordwoodlaw04.DeltaIdentity', WHERE WHAT IT READS IS OF BULK AT MOST 1048576: true; the input reads as it did. -/
def deltaIdentityUptoRow : OpenClaim := { program := "ytiioebpmfjipeaa", sum := "edc0e4d30d8dd37f7f4f363c7cb17f61678d3f800ffafa5909cbb767d1471904", func := "cordwood/cordwoodlaw04.DeltaIdentity", spec := "deltaIdentity", inPlace := ["internal/abi.NoEscape"], unfollowed := true, recurses := true, apart := false, narrowed := true }
def DeltaIdentityUptoSaid : Prop := deltaIdentityUptoRow.holds Try.pinned (OpenSpec.upto deltaIdentitySpec)

/-- 'cordwoodlaw04.DeltaComposition', WHERE WHAT IT READS IS OF BULK AT MOST 1048576: true; the input reads as it did. -/
def deltaCompositionUptoRow : OpenClaim := { program := "ytiioebpmfjipeaa", sum := "edc0e4d30d8dd37f7f4f363c7cb17f61678d3f800ffafa5909cbb767d1471904", func := "cordwood/cordwoodlaw04.DeltaComposition", spec := "deltaComposition", inPlace := ["internal/abi.NoEscape"], unfollowed := true, recurses := true, apart := false, narrowed := true }
def DeltaCompositionUptoSaid : Prop := deltaCompositionUptoRow.holds Try.pinned (OpenSpec.upto deltaCompositionSpec)

end Rows
end Go.Proofs.Ytiioebpmfjipeaa
