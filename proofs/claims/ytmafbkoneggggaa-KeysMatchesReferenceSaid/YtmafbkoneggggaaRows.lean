/-
  No cell of these rows narrows 'for every input' (looked for: loops, veiled, ifaces, maps, wideKeys, modest, calm, conditions, laid).
  DERIVED. THE GIVEN ROWS OF THIS SEAT. 11 by the template 'for every input the law returns true; each argument reads behind the call as it read before'; 0 by the template 'total and deterministic' (their statements: YtmafbkoneggggaaTotals.lean).
  GIVEN WITH THE SEED: the statements are not yours to turn. If you find one false, say at which input.
  Laid BY PROGRAM, IN A SANDBOX (cutbox-rows.mjs): the forced cells as the released guide's own fill.sh prints them over the translation 499cca90046498d3… (all of the seat's roots in one cut). By AI agents, Wed Nov 11 2026. No macro, syntax, notation, axiom, sorry.
-/
import Derived.Test.YtmafbkoneggggaaChecked
import GoSem.Claim
import GoSem.ClaimJoined
import GoSem.ClaimMapViews
import Derived.JoinedTies
import Derived.KernelRfl
namespace Go.Proofs.Ytmafbkoneggggaa
/- THE CELL 'sum', in the pinned program and in every row, IS THE sha256 OF THE DUMP (.gsa) THAT YtmafbkoneggggaaProg.lean LOADS. Nothing in Lean hashes anything: it is a label: what it is worth is what the hold of that sum in a sandbox is worth. -/
noncomputable def Try.pinned : Pinned := { name := "ytmafbkoneggggaa", sum := "499cca90046498d31b91d3d70c7339a1d6de7fd088924c1e71ec24560b7b4a62", checked := Try.checked }
namespace Rows
def none {H : Type} : Left H := { results := [], args := [] }

/-- 'peregrinelaw01.VarintRoundTrip': WHATEVER THE INPUT: true; the input reads as it did. -/
def varintRoundTripSpec : ChangeSpec := { name := "varintRoundTrip", fn := fun _ => fun
  | [d1, d2, d3] => { results := [.lit (.bool true)], args := [d1, d2, d3] }
  | _ => none }
def varintRoundTripRow : OpenClaim := { program := "ytmafbkoneggggaa", sum := "499cca90046498d31b91d3d70c7339a1d6de7fd088924c1e71ec24560b7b4a62", func := "peregrine/peregrinelaw01.VarintRoundTrip", spec := "varintRoundTrip", unfollowed := true, recurses := true, apart := false }
def VarintRoundTripSaid : Prop := varintRoundTripRow.holds Try.pinned (OpenSpec.ofChange varintRoundTripSpec)

/-- ITS FALSE NEIGHBOUR: 'it returns false'. Refute it at one input. -/
def varintRoundTripWrong : ChangeSpec := { name := "varintRoundTrip", fn := fun _ => fun
  | [d1, d2, d3] => { results := [.lit (.bool false)], args := [d1, d2, d3] }
  | _ => none }
def VarintRoundTripWrongFalsely : Prop := varintRoundTripRow.holds Try.pinned (OpenSpec.ofChange varintRoundTripWrong)

/-- 'peregrinelaw01.VarintUnique': WHATEVER THE INPUT: true; the input reads as it did. -/
def varintUniqueSpec : ChangeSpec := { name := "varintUnique", fn := fun _ => fun
  | [d1, d2, d3] => { results := [.lit (.bool true)], args := [d1, d2, d3] }
  | _ => none }
def varintUniqueRow : OpenClaim := { program := "ytmafbkoneggggaa", sum := "499cca90046498d31b91d3d70c7339a1d6de7fd088924c1e71ec24560b7b4a62", func := "peregrine/peregrinelaw01.VarintUnique", spec := "varintUnique", unfollowed := true, recurses := true, apart := false }
def VarintUniqueSaid : Prop := varintUniqueRow.holds Try.pinned (OpenSpec.ofChange varintUniqueSpec)

/-- ITS FALSE NEIGHBOUR: 'it returns false'. Refute it at one input. -/
def varintUniqueWrong : ChangeSpec := { name := "varintUnique", fn := fun _ => fun
  | [d1, d2, d3] => { results := [.lit (.bool false)], args := [d1, d2, d3] }
  | _ => none }
def VarintUniqueWrongFalsely : Prop := varintUniqueRow.holds Try.pinned (OpenSpec.ofChange varintUniqueWrong)

/-- 'peregrinelaw01.VarintSequence': WHATEVER THE INPUT: true; the input reads as it did. -/
def varintSequenceSpec : ChangeSpec := { name := "varintSequence", fn := fun _ => fun
  | [d] => { results := [.lit (.bool true)], args := [d] }
  | _ => none }
def varintSequenceRow : OpenClaim := { program := "ytmafbkoneggggaa", sum := "499cca90046498d31b91d3d70c7339a1d6de7fd088924c1e71ec24560b7b4a62", func := "peregrine/peregrinelaw01.VarintSequence", spec := "varintSequence", unfollowed := true, recurses := true, apart := false }
def VarintSequenceSaid : Prop := varintSequenceRow.holds Try.pinned (OpenSpec.ofChange varintSequenceSpec)

/-- ITS FALSE NEIGHBOUR: 'it returns false'. Refute it at one input. -/
def varintSequenceWrong : ChangeSpec := { name := "varintSequence", fn := fun _ => fun
  | [d] => { results := [.lit (.bool false)], args := [d] }
  | _ => none }
def VarintSequenceWrongFalsely : Prop := varintSequenceRow.holds Try.pinned (OpenSpec.ofChange varintSequenceWrong)

/-- 'peregrinelaw01.VarintTruncated': WHATEVER THE INPUT: true; the input reads as it did. -/
def varintTruncatedSpec : ChangeSpec := { name := "varintTruncated", fn := fun _ => fun
  | [d1, d2, d3] => { results := [.lit (.bool true)], args := [d1, d2, d3] }
  | _ => none }
def varintTruncatedRow : OpenClaim := { program := "ytmafbkoneggggaa", sum := "499cca90046498d31b91d3d70c7339a1d6de7fd088924c1e71ec24560b7b4a62", func := "peregrine/peregrinelaw01.VarintTruncated", spec := "varintTruncated", unfollowed := true, recurses := true, apart := false }
def VarintTruncatedSaid : Prop := varintTruncatedRow.holds Try.pinned (OpenSpec.ofChange varintTruncatedSpec)

/-- ITS FALSE NEIGHBOUR: 'it returns false'. Refute it at one input. -/
def varintTruncatedWrong : ChangeSpec := { name := "varintTruncated", fn := fun _ => fun
  | [d1, d2, d3] => { results := [.lit (.bool false)], args := [d1, d2, d3] }
  | _ => none }
def VarintTruncatedWrongFalsely : Prop := varintTruncatedRow.holds Try.pinned (OpenSpec.ofChange varintTruncatedWrong)

/-- 'peregrinelaw01.VarintFixedWidth': WHATEVER THE INPUT: true; the input reads as it did. -/
def varintFixedWidthSpec : ChangeSpec := { name := "varintFixedWidth", fn := fun _ => fun
  | [d1, d2, d3, d4] => { results := [.lit (.bool true)], args := [d1, d2, d3, d4] }
  | _ => none }
def varintFixedWidthRow : OpenClaim := { program := "ytmafbkoneggggaa", sum := "499cca90046498d31b91d3d70c7339a1d6de7fd088924c1e71ec24560b7b4a62", func := "peregrine/peregrinelaw01.VarintFixedWidth", spec := "varintFixedWidth", unfollowed := true, recurses := true, apart := false }
def VarintFixedWidthSaid : Prop := varintFixedWidthRow.holds Try.pinned (OpenSpec.ofChange varintFixedWidthSpec)

/-- ITS FALSE NEIGHBOUR: 'it returns false'. Refute it at one input. -/
def varintFixedWidthWrong : ChangeSpec := { name := "varintFixedWidth", fn := fun _ => fun
  | [d1, d2, d3, d4] => { results := [.lit (.bool false)], args := [d1, d2, d3, d4] }
  | _ => none }
def VarintFixedWidthWrongFalsely : Prop := varintFixedWidthRow.holds Try.pinned (OpenSpec.ofChange varintFixedWidthWrong)

/-- 'peregrinelaw05.KeysConnectionIDs': WHATEVER THE INPUT: true; the input reads as it did. -/
def keysConnectionIDsSpec : ChangeSpec := { name := "keysConnectionIDs", fn := fun _ => fun
  | [d1, d2, d3] => { results := [.lit (.bool true)], args := [d1, d2, d3] }
  | _ => none }
def keysConnectionIDsRow : OpenClaim := { program := "ytmafbkoneggggaa", sum := "499cca90046498d31b91d3d70c7339a1d6de7fd088924c1e71ec24560b7b4a62", func := "peregrine/peregrinelaw05.KeysConnectionIDs", spec := "keysConnectionIDs", unfollowed := true, recurses := true, apart := false }
def KeysConnectionIDsSaid : Prop := keysConnectionIDsRow.holds Try.pinned (OpenSpec.ofChange keysConnectionIDsSpec)

/-- ITS FALSE NEIGHBOUR: 'it returns false'. Refute it at one input. -/
def keysConnectionIDsWrong : ChangeSpec := { name := "keysConnectionIDs", fn := fun _ => fun
  | [d1, d2, d3] => { results := [.lit (.bool false)], args := [d1, d2, d3] }
  | _ => none }
def KeysConnectionIDsWrongFalsely : Prop := keysConnectionIDsRow.holds Try.pinned (OpenSpec.ofChange keysConnectionIDsWrong)

/-- 'peregrinelaw05.KeysFromDerive': WHATEVER THE INPUT: true; the input reads as it did. -/
def keysFromDeriveSpec : ChangeSpec := { name := "keysFromDerive", fn := fun _ => fun
  | [d1, d2] => { results := [.lit (.bool true)], args := [d1, d2] }
  | _ => none }
def keysFromDeriveRow : OpenClaim := { program := "ytmafbkoneggggaa", sum := "499cca90046498d31b91d3d70c7339a1d6de7fd088924c1e71ec24560b7b4a62", func := "peregrine/peregrinelaw05.KeysFromDerive", spec := "keysFromDerive", unfollowed := true, recurses := true, apart := false }
def KeysFromDeriveSaid : Prop := keysFromDeriveRow.holds Try.pinned (OpenSpec.ofChange keysFromDeriveSpec)

/-- ITS FALSE NEIGHBOUR: 'it returns false'. Refute it at one input. -/
def keysFromDeriveWrong : ChangeSpec := { name := "keysFromDerive", fn := fun _ => fun
  | [d1, d2] => { results := [.lit (.bool false)], args := [d1, d2] }
  | _ => none }
def KeysFromDeriveWrongFalsely : Prop := keysFromDeriveRow.holds Try.pinned (OpenSpec.ofChange keysFromDeriveWrong)

/-- 'peregrinelaw05.KeysDirections': WHATEVER THE INPUT: true; the input reads as it did. -/
def keysDirectionsSpec : ChangeSpec := { name := "keysDirections", fn := fun _ => fun
  | [d1, d2] => { results := [.lit (.bool true)], args := [d1, d2] }
  | _ => none }
def keysDirectionsRow : OpenClaim := { program := "ytmafbkoneggggaa", sum := "499cca90046498d31b91d3d70c7339a1d6de7fd088924c1e71ec24560b7b4a62", func := "peregrine/peregrinelaw05.KeysDirections", spec := "keysDirections", unfollowed := true, recurses := true, apart := false }
def KeysDirectionsSaid : Prop := keysDirectionsRow.holds Try.pinned (OpenSpec.ofChange keysDirectionsSpec)

/-- ITS FALSE NEIGHBOUR: 'it returns false'. Refute it at one input. -/
def keysDirectionsWrong : ChangeSpec := { name := "keysDirections", fn := fun _ => fun
  | [d1, d2] => { results := [.lit (.bool false)], args := [d1, d2] }
  | _ => none }
def KeysDirectionsWrongFalsely : Prop := keysDirectionsRow.holds Try.pinned (OpenSpec.ofChange keysDirectionsWrong)

/-- 'peregrinelaw05.KeysMatchesReference': WHATEVER THE INPUT: true; the input reads as it did. -/
def keysMatchesReferenceSpec : ChangeSpec := { name := "keysMatchesReference", fn := fun _ => fun
  | [d1, d2] => { results := [.lit (.bool true)], args := [d1, d2] }
  | _ => none }
def keysMatchesReferenceRow : OpenClaim := { program := "ytmafbkoneggggaa", sum := "499cca90046498d31b91d3d70c7339a1d6de7fd088924c1e71ec24560b7b4a62", func := "peregrine/peregrinelaw05.KeysMatchesReference", spec := "keysMatchesReference", unfollowed := true, recurses := true, apart := false }
def KeysMatchesReferenceSaid : Prop := keysMatchesReferenceRow.holds Try.pinned (OpenSpec.ofChange keysMatchesReferenceSpec)

/-- ITS FALSE NEIGHBOUR: 'it returns false'. Refute it at one input. -/
def keysMatchesReferenceWrong : ChangeSpec := { name := "keysMatchesReference", fn := fun _ => fun
  | [d1, d2] => { results := [.lit (.bool false)], args := [d1, d2] }
  | _ => none }
def KeysMatchesReferenceWrongFalsely : Prop := keysMatchesReferenceRow.holds Try.pinned (OpenSpec.ofChange keysMatchesReferenceWrong)

/-- 'peregrinelaw05.KeysLimits': WHATEVER THE INPUT: true; the input reads as it did. -/
def keysLimitsSpec : ChangeSpec := { name := "keysLimits", fn := fun _ => fun
  | [d1, d2] => { results := [.lit (.bool true)], args := [d1, d2] }
  | _ => none }
def keysLimitsRow : OpenClaim := { program := "ytmafbkoneggggaa", sum := "499cca90046498d31b91d3d70c7339a1d6de7fd088924c1e71ec24560b7b4a62", func := "peregrine/peregrinelaw05.KeysLimits", spec := "keysLimits", unfollowed := true, recurses := true, apart := false }
def KeysLimitsSaid : Prop := keysLimitsRow.holds Try.pinned (OpenSpec.ofChange keysLimitsSpec)

/-- ITS FALSE NEIGHBOUR: 'it returns false'. Refute it at one input. -/
def keysLimitsWrong : ChangeSpec := { name := "keysLimits", fn := fun _ => fun
  | [d1, d2] => { results := [.lit (.bool false)], args := [d1, d2] }
  | _ => none }
def KeysLimitsWrongFalsely : Prop := keysLimitsRow.holds Try.pinned (OpenSpec.ofChange keysLimitsWrong)

/-- 'peregrinelaw05.KeysTranscripts': WHATEVER THE INPUT: true; the input reads as it did. -/
def keysTranscriptsSpec : ChangeSpec := { name := "keysTranscripts", fn := fun _ => fun
  | [d1, d2, d3, d4] => { results := [.lit (.bool true)], args := [d1, d2, d3, d4] }
  | _ => none }
def keysTranscriptsRow : OpenClaim := { program := "ytmafbkoneggggaa", sum := "499cca90046498d31b91d3d70c7339a1d6de7fd088924c1e71ec24560b7b4a62", func := "peregrine/peregrinelaw05.KeysTranscripts", spec := "keysTranscripts", unfollowed := true, recurses := true, apart := false }
def KeysTranscriptsSaid : Prop := keysTranscriptsRow.holds Try.pinned (OpenSpec.ofChange keysTranscriptsSpec)

/-- ITS FALSE NEIGHBOUR: 'it returns false'. Refute it at one input. -/
def keysTranscriptsWrong : ChangeSpec := { name := "keysTranscripts", fn := fun _ => fun
  | [d1, d2, d3, d4] => { results := [.lit (.bool false)], args := [d1, d2, d3, d4] }
  | _ => none }
def KeysTranscriptsWrongFalsely : Prop := keysTranscriptsRow.holds Try.pinned (OpenSpec.ofChange keysTranscriptsWrong)

/- THE SECOND FORM. 'bulk': how many values and letters a reading holds, each counted each time it is reached (what is shared counts as often as it is met; a slice's spare places count too). A statement '..UptoSaid' is the law's where the arguments, and the package variables that the reading takes, are together of bulk at most 1048576: NARROWER than '..Said'. Prove '..Said' where nothing that the law and all that it calls make is longer than what came in: it says more and counts as full. Else prove '..UptoSaid'. A law counts once. -/
mutual
def uptoBulk {H : Type} : DataW H → Nat
  | .lit (.string bytes) => bytes.length + 1
  | .lit _ => 1
  | .nil => 1
  | .ptr d => uptoBulk d + 1
  | .slice elems spare => uptoBulkAll elems + uptoBulkAll spare + 1
  | .agg parts => uptoBulkAll parts + 1
  | .iface _ d => uptoBulk d + 1
  | .map entries => uptoBulkEntries entries + 1
  | .held _ => 1
def uptoBulkAll {H : Type} : List (DataW H) → Nat
  | [] => 0
  | d :: r => uptoBulk d + uptoBulkAll r
def uptoBulkEntries {H : Type} : List (Lit × DataW H) → Nat
  | [] => 0
  | x :: r => uptoBulkEntry x + uptoBulkEntries r
def uptoBulkEntry {H : Type} : Lit × DataW H → Nat
  | (.string bytes, d) => bytes.length + uptoBulk d + 1
  | (_, d) => uptoBulk d + 1
 end
def uptoSmall : (H : Type) → List (DataW H) → Bool := fun _ ds => decide (uptoBulkAll ds ≤ 1048576)
def OpenSpec.upto (s : _root_.Go.ChangeSpec) : _root_.Go.OpenSpec := { _root_.Go.OpenSpec.ofChange s with cond := some uptoSmall }

/-- 'peregrinelaw01.VarintRoundTrip', WHERE WHAT IT READS IS OF BULK AT MOST 1048576: true; the input reads as it did. -/
def varintRoundTripUptoRow : OpenClaim := { program := "ytmafbkoneggggaa", sum := "499cca90046498d31b91d3d70c7339a1d6de7fd088924c1e71ec24560b7b4a62", func := "peregrine/peregrinelaw01.VarintRoundTrip", spec := "varintRoundTrip", unfollowed := true, recurses := true, apart := false, narrowed := true }
def VarintRoundTripUptoSaid : Prop := varintRoundTripUptoRow.holds Try.pinned (OpenSpec.upto varintRoundTripSpec)

/-- 'peregrinelaw01.VarintUnique', WHERE WHAT IT READS IS OF BULK AT MOST 1048576: true; the input reads as it did. -/
def varintUniqueUptoRow : OpenClaim := { program := "ytmafbkoneggggaa", sum := "499cca90046498d31b91d3d70c7339a1d6de7fd088924c1e71ec24560b7b4a62", func := "peregrine/peregrinelaw01.VarintUnique", spec := "varintUnique", unfollowed := true, recurses := true, apart := false, narrowed := true }
def VarintUniqueUptoSaid : Prop := varintUniqueUptoRow.holds Try.pinned (OpenSpec.upto varintUniqueSpec)

/-- 'peregrinelaw01.VarintSequence', WHERE WHAT IT READS IS OF BULK AT MOST 1048576: true; the input reads as it did. -/
def varintSequenceUptoRow : OpenClaim := { program := "ytmafbkoneggggaa", sum := "499cca90046498d31b91d3d70c7339a1d6de7fd088924c1e71ec24560b7b4a62", func := "peregrine/peregrinelaw01.VarintSequence", spec := "varintSequence", unfollowed := true, recurses := true, apart := false, narrowed := true }
def VarintSequenceUptoSaid : Prop := varintSequenceUptoRow.holds Try.pinned (OpenSpec.upto varintSequenceSpec)

/-- 'peregrinelaw01.VarintTruncated', WHERE WHAT IT READS IS OF BULK AT MOST 1048576: true; the input reads as it did. -/
def varintTruncatedUptoRow : OpenClaim := { program := "ytmafbkoneggggaa", sum := "499cca90046498d31b91d3d70c7339a1d6de7fd088924c1e71ec24560b7b4a62", func := "peregrine/peregrinelaw01.VarintTruncated", spec := "varintTruncated", unfollowed := true, recurses := true, apart := false, narrowed := true }
def VarintTruncatedUptoSaid : Prop := varintTruncatedUptoRow.holds Try.pinned (OpenSpec.upto varintTruncatedSpec)

/-- 'peregrinelaw01.VarintFixedWidth', WHERE WHAT IT READS IS OF BULK AT MOST 1048576: true; the input reads as it did. -/
def varintFixedWidthUptoRow : OpenClaim := { program := "ytmafbkoneggggaa", sum := "499cca90046498d31b91d3d70c7339a1d6de7fd088924c1e71ec24560b7b4a62", func := "peregrine/peregrinelaw01.VarintFixedWidth", spec := "varintFixedWidth", unfollowed := true, recurses := true, apart := false, narrowed := true }
def VarintFixedWidthUptoSaid : Prop := varintFixedWidthUptoRow.holds Try.pinned (OpenSpec.upto varintFixedWidthSpec)

/-- 'peregrinelaw05.KeysConnectionIDs', WHERE WHAT IT READS IS OF BULK AT MOST 1048576: true; the input reads as it did. -/
def keysConnectionIDsUptoRow : OpenClaim := { program := "ytmafbkoneggggaa", sum := "499cca90046498d31b91d3d70c7339a1d6de7fd088924c1e71ec24560b7b4a62", func := "peregrine/peregrinelaw05.KeysConnectionIDs", spec := "keysConnectionIDs", unfollowed := true, recurses := true, apart := false, narrowed := true }
def KeysConnectionIDsUptoSaid : Prop := keysConnectionIDsUptoRow.holds Try.pinned (OpenSpec.upto keysConnectionIDsSpec)

/-- 'peregrinelaw05.KeysFromDerive', WHERE WHAT IT READS IS OF BULK AT MOST 1048576: true; the input reads as it did. -/
def keysFromDeriveUptoRow : OpenClaim := { program := "ytmafbkoneggggaa", sum := "499cca90046498d31b91d3d70c7339a1d6de7fd088924c1e71ec24560b7b4a62", func := "peregrine/peregrinelaw05.KeysFromDerive", spec := "keysFromDerive", unfollowed := true, recurses := true, apart := false, narrowed := true }
def KeysFromDeriveUptoSaid : Prop := keysFromDeriveUptoRow.holds Try.pinned (OpenSpec.upto keysFromDeriveSpec)

/-- 'peregrinelaw05.KeysDirections', WHERE WHAT IT READS IS OF BULK AT MOST 1048576: true; the input reads as it did. -/
def keysDirectionsUptoRow : OpenClaim := { program := "ytmafbkoneggggaa", sum := "499cca90046498d31b91d3d70c7339a1d6de7fd088924c1e71ec24560b7b4a62", func := "peregrine/peregrinelaw05.KeysDirections", spec := "keysDirections", unfollowed := true, recurses := true, apart := false, narrowed := true }
def KeysDirectionsUptoSaid : Prop := keysDirectionsUptoRow.holds Try.pinned (OpenSpec.upto keysDirectionsSpec)

/-- 'peregrinelaw05.KeysMatchesReference', WHERE WHAT IT READS IS OF BULK AT MOST 1048576: true; the input reads as it did. -/
def keysMatchesReferenceUptoRow : OpenClaim := { program := "ytmafbkoneggggaa", sum := "499cca90046498d31b91d3d70c7339a1d6de7fd088924c1e71ec24560b7b4a62", func := "peregrine/peregrinelaw05.KeysMatchesReference", spec := "keysMatchesReference", unfollowed := true, recurses := true, apart := false, narrowed := true }
def KeysMatchesReferenceUptoSaid : Prop := keysMatchesReferenceUptoRow.holds Try.pinned (OpenSpec.upto keysMatchesReferenceSpec)

/-- 'peregrinelaw05.KeysLimits', WHERE WHAT IT READS IS OF BULK AT MOST 1048576: true; the input reads as it did. -/
def keysLimitsUptoRow : OpenClaim := { program := "ytmafbkoneggggaa", sum := "499cca90046498d31b91d3d70c7339a1d6de7fd088924c1e71ec24560b7b4a62", func := "peregrine/peregrinelaw05.KeysLimits", spec := "keysLimits", unfollowed := true, recurses := true, apart := false, narrowed := true }
def KeysLimitsUptoSaid : Prop := keysLimitsUptoRow.holds Try.pinned (OpenSpec.upto keysLimitsSpec)

/-- 'peregrinelaw05.KeysTranscripts', WHERE WHAT IT READS IS OF BULK AT MOST 1048576: true; the input reads as it did. -/
def keysTranscriptsUptoRow : OpenClaim := { program := "ytmafbkoneggggaa", sum := "499cca90046498d31b91d3d70c7339a1d6de7fd088924c1e71ec24560b7b4a62", func := "peregrine/peregrinelaw05.KeysTranscripts", spec := "keysTranscripts", unfollowed := true, recurses := true, apart := false, narrowed := true }
def KeysTranscriptsUptoSaid : Prop := keysTranscriptsUptoRow.holds Try.pinned (OpenSpec.upto keysTranscriptsSpec)

end Rows
end Go.Proofs.Ytmafbkoneggggaa
