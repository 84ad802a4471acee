/-
  No cell of these rows narrows 'for every input' (looked for: loops, veiled, ifaces, maps, wideKeys, modest, calm, conditions, laid).
  DERIVED. THE GIVEN ROWS OF THIS SEAT. 6 by the template 'for every input the law returns true; each argument reads behind the call as it read before'; 0 by the template 'total and deterministic' (their statements: YtgoijmomglomlaaTotals.lean).
  GIVEN WITH THE SEED: the statements are not yours to turn. If you find one false, say at which input.
  Laid BY PROGRAM, IN A SANDBOX (cutbox-rows.mjs): the forced cells as the released guide's own fill.sh prints them over the translation 53260709d7af2525… (all of the seat's roots in one cut). By AI agents, Wed Nov 11 2026. No macro, syntax, notation, axiom, sorry.
-/
import Derived.Test.YtgoijmomglomlaaChecked
import GoSem.Claim
import GoSem.ClaimJoined
import GoSem.ClaimMapViews
import Derived.JoinedTies
import Derived.KernelRfl
namespace Go.Proofs.Ytgoijmomglomlaa
/- THE CELL 'sum', in the pinned program and in every row, IS THE sha256 OF THE DUMP (.gsa) THAT YtgoijmomglomlaaProg.lean LOADS. Nothing in Lean hashes anything: it is a label: what it is worth is what the hold of that sum in a sandbox is worth. -/
noncomputable def Try.pinned : Pinned := { name := "ytgoijmomglomlaa", sum := "53260709d7af2525eeb7f7ce1064d27c0afe94ab6089f7069fec925402bcf788", checked := Try.checked }
namespace Rows
def none {H : Type} : Left H := { results := [], args := [] }

/-- 'underwoodlaw23.SegmentReads': WHATEVER THE INPUT: true; the input reads as it did. -/
def segmentReadsSpec : ChangeSpec := { name := "segmentReads", fn := fun _ => fun
  | [d1, d2, d3, d4] => { results := [.lit (.bool true)], args := [d1, d2, d3, d4] }
  | _ => none }
def segmentReadsRow : OpenClaim := { program := "ytgoijmomglomlaa", sum := "53260709d7af2525eeb7f7ce1064d27c0afe94ab6089f7069fec925402bcf788", func := "underwood/underwoodlaw23.SegmentReads", spec := "segmentReads", unfollowed := true, recurses := true, apart := false }
def SegmentReadsSaid : Prop := segmentReadsRow.holds Try.pinned (OpenSpec.ofChange segmentReadsSpec)

/-- ITS FALSE NEIGHBOUR: 'it returns false'. Refute it at one input. -/
def segmentReadsWrong : ChangeSpec := { name := "segmentReads", fn := fun _ => fun
  | [d1, d2, d3, d4] => { results := [.lit (.bool false)], args := [d1, d2, d3, d4] }
  | _ => none }
def SegmentReadsWrongFalsely : Prop := segmentReadsRow.holds Try.pinned (OpenSpec.ofChange segmentReadsWrong)

/-- 'underwoodlaw23.SegmentSafe': WHATEVER THE INPUT: true; the input reads as it did. -/
def segmentSafeSpec : ChangeSpec := { name := "segmentSafe", fn := fun _ => fun
  | [d] => { results := [.lit (.bool true)], args := [d] }
  | _ => none }
def segmentSafeRow : OpenClaim := { program := "ytgoijmomglomlaa", sum := "53260709d7af2525eeb7f7ce1064d27c0afe94ab6089f7069fec925402bcf788", func := "underwood/underwoodlaw23.SegmentSafe", spec := "segmentSafe", unfollowed := true, recurses := true, apart := false }
def SegmentSafeSaid : Prop := segmentSafeRow.holds Try.pinned (OpenSpec.ofChange segmentSafeSpec)

/-- ITS FALSE NEIGHBOUR: 'it returns false'. Refute it at one input. -/
def segmentSafeWrong : ChangeSpec := { name := "segmentSafe", fn := fun _ => fun
  | [d] => { results := [.lit (.bool false)], args := [d] }
  | _ => none }
def SegmentSafeWrongFalsely : Prop := segmentSafeRow.holds Try.pinned (OpenSpec.ofChange segmentSafeWrong)

/-- 'underwoodlaw23.SegmentKept': WHATEVER THE INPUT: true; the input reads as it did. -/
def segmentKeptSpec : ChangeSpec := { name := "segmentKept", fn := fun _ => fun
  | [d] => { results := [.lit (.bool true)], args := [d] }
  | _ => none }
def segmentKeptRow : OpenClaim := { program := "ytgoijmomglomlaa", sum := "53260709d7af2525eeb7f7ce1064d27c0afe94ab6089f7069fec925402bcf788", func := "underwood/underwoodlaw23.SegmentKept", spec := "segmentKept", unfollowed := true, recurses := true, apart := false }
def SegmentKeptSaid : Prop := segmentKeptRow.holds Try.pinned (OpenSpec.ofChange segmentKeptSpec)

/-- ITS FALSE NEIGHBOUR: 'it returns false'. Refute it at one input. -/
def segmentKeptWrong : ChangeSpec := { name := "segmentKept", fn := fun _ => fun
  | [d] => { results := [.lit (.bool false)], args := [d] }
  | _ => none }
def SegmentKeptWrongFalsely : Prop := segmentKeptRow.holds Try.pinned (OpenSpec.ofChange segmentKeptWrong)

/-- 'underwoodlaw23.SegmentPlaces': WHATEVER THE INPUT: true; the input reads as it did. -/
def segmentPlacesSpec : ChangeSpec := { name := "segmentPlaces", fn := fun _ => fun
  | [d] => { results := [.lit (.bool true)], args := [d] }
  | _ => none }
def segmentPlacesRow : OpenClaim := { program := "ytgoijmomglomlaa", sum := "53260709d7af2525eeb7f7ce1064d27c0afe94ab6089f7069fec925402bcf788", func := "underwood/underwoodlaw23.SegmentPlaces", spec := "segmentPlaces", unfollowed := true, recurses := true, apart := false }
def SegmentPlacesSaid : Prop := segmentPlacesRow.holds Try.pinned (OpenSpec.ofChange segmentPlacesSpec)

/-- ITS FALSE NEIGHBOUR: 'it returns false'. Refute it at one input. -/
def segmentPlacesWrong : ChangeSpec := { name := "segmentPlaces", fn := fun _ => fun
  | [d] => { results := [.lit (.bool false)], args := [d] }
  | _ => none }
def SegmentPlacesWrongFalsely : Prop := segmentPlacesRow.holds Try.pinned (OpenSpec.ofChange segmentPlacesWrong)

/-- 'underwoodlaw23.SegmentAlone': WHATEVER THE INPUT: true; the input reads as it did. -/
def segmentAloneSpec : ChangeSpec := { name := "segmentAlone", fn := fun _ => fun
  | [d] => { results := [.lit (.bool true)], args := [d] }
  | _ => none }
def segmentAloneRow : OpenClaim := { program := "ytgoijmomglomlaa", sum := "53260709d7af2525eeb7f7ce1064d27c0afe94ab6089f7069fec925402bcf788", func := "underwood/underwoodlaw23.SegmentAlone", spec := "segmentAlone", unfollowed := true, recurses := true, apart := false }
def SegmentAloneSaid : Prop := segmentAloneRow.holds Try.pinned (OpenSpec.ofChange segmentAloneSpec)

/-- ITS FALSE NEIGHBOUR: 'it returns false'. Refute it at one input. -/
def segmentAloneWrong : ChangeSpec := { name := "segmentAlone", fn := fun _ => fun
  | [d] => { results := [.lit (.bool false)], args := [d] }
  | _ => none }
def SegmentAloneWrongFalsely : Prop := segmentAloneRow.holds Try.pinned (OpenSpec.ofChange segmentAloneWrong)

/-- 'underwoodlaw23.SegmentPoints': WHATEVER THE INPUT: true; the input reads as it did. -/
def segmentPointsSpec : ChangeSpec := { name := "segmentPoints", fn := fun _ => fun
  | [d] => { results := [.lit (.bool true)], args := [d] }
  | _ => none }
def segmentPointsRow : OpenClaim := { program := "ytgoijmomglomlaa", sum := "53260709d7af2525eeb7f7ce1064d27c0afe94ab6089f7069fec925402bcf788", func := "underwood/underwoodlaw23.SegmentPoints", spec := "segmentPoints", unfollowed := true, recurses := true, apart := false }
def SegmentPointsSaid : Prop := segmentPointsRow.holds Try.pinned (OpenSpec.ofChange segmentPointsSpec)

/-- ITS FALSE NEIGHBOUR: 'it returns false'. Refute it at one input. -/
def segmentPointsWrong : ChangeSpec := { name := "segmentPoints", fn := fun _ => fun
  | [d] => { results := [.lit (.bool false)], args := [d] }
  | _ => none }
def SegmentPointsWrongFalsely : Prop := segmentPointsRow.holds Try.pinned (OpenSpec.ofChange segmentPointsWrong)

/- THE SECOND FORM. 'bulk': how many values and letters a reading holds, each counted each time it is reached (what is shared counts as often as it is met; a slice's spare places count too). A statement '..UptoSaid' is the law's where the arguments, and the package variables that the reading takes, are together of bulk at most 1048576: NARROWER than '..Said'. Prove '..Said' where nothing that the law and all that it calls make is longer than what came in: it says more and counts as full. Else prove '..UptoSaid'. A law counts once. -/
mutual
def uptoBulk {H : Type} : DataW H → Nat
  | .lit (.string bytes) => bytes.length + 1
  | .lit _ => 1
  | .nil => 1
  | .ptr d => uptoBulk d + 1
  | .slice elems spare => uptoBulkAll elems + uptoBulkAll spare + 1
  | .agg parts => uptoBulkAll parts + 1
  | .iface _ d => uptoBulk d + 1
  | .map entries => uptoBulkEntries entries + 1
  | .held _ => 1
def uptoBulkAll {H : Type} : List (DataW H) → Nat
  | [] => 0
  | d :: r => uptoBulk d + uptoBulkAll r
def uptoBulkEntries {H : Type} : List (Lit × DataW H) → Nat
  | [] => 0
  | x :: r => uptoBulkEntry x + uptoBulkEntries r
def uptoBulkEntry {H : Type} : Lit × DataW H → Nat
  | (.string bytes, d) => bytes.length + uptoBulk d + 1
  | (_, d) => uptoBulk d + 1
 end
def uptoSmall : (H : Type) → List (DataW H) → Bool := fun _ ds => decide (uptoBulkAll ds ≤ 1048576)
def OpenSpec.upto (s : _root_.Go.ChangeSpec) : _root_.Go.OpenSpec := { _root_.Go.OpenSpec.ofChange s with cond := some uptoSmall }

/-- 'underwoodlaw23.SegmentReads', WHERE WHAT IT READS IS OF BULK AT MOST 1048576: true; the input reads as it did. -/
def segmentReadsUptoRow : OpenClaim := { program := "ytgoijmomglomlaa", sum := "53260709d7af2525eeb7f7ce1064d27c0afe94ab6089f7069fec925402bcf788", func := "underwood/underwoodlaw23.SegmentReads", spec := "segmentReads", unfollowed := true, recurses := true, apart := false, narrowed := true }
def SegmentReadsUptoSaid : Prop := segmentReadsUptoRow.holds Try.pinned (OpenSpec.upto segmentReadsSpec)

/-- 'underwoodlaw23.SegmentSafe', WHERE WHAT IT READS IS OF BULK AT MOST 1048576: true; the input reads as it did. -/
def segmentSafeUptoRow : OpenClaim := { program := "ytgoijmomglomlaa", sum := "53260709d7af2525eeb7f7ce1064d27c0afe94ab6089f7069fec925402bcf788", func := "underwood/underwoodlaw23.SegmentSafe", spec := "segmentSafe", unfollowed := true, recurses := true, apart := false, narrowed := true }
def SegmentSafeUptoSaid : Prop := segmentSafeUptoRow.holds Try.pinned (OpenSpec.upto segmentSafeSpec)

/-- 'underwoodlaw23.SegmentKept', WHERE WHAT IT READS IS OF BULK AT MOST 1048576: true; the input reads as it did. -/
def segmentKeptUptoRow : OpenClaim := { program := "ytgoijmomglomlaa", sum := "53260709d7af2525eeb7f7ce1064d27c0afe94ab6089f7069fec925402bcf788", func := "underwood/underwoodlaw23.SegmentKept", spec := "segmentKept", unfollowed := true, recurses := true, apart := false, narrowed := true }
def SegmentKeptUptoSaid : Prop := segmentKeptUptoRow.holds Try.pinned (OpenSpec.upto segmentKeptSpec)

/-- 'underwoodlaw23.SegmentPlaces', WHERE WHAT IT READS IS OF BULK AT MOST 1048576: true; the input reads as it did. -/
def segmentPlacesUptoRow : OpenClaim := { program := "ytgoijmomglomlaa", sum := "53260709d7af2525eeb7f7ce1064d27c0afe94ab6089f7069fec925402bcf788", func := "underwood/underwoodlaw23.SegmentPlaces", spec := "segmentPlaces", unfollowed := true, recurses := true, apart := false, narrowed := true }
def SegmentPlacesUptoSaid : Prop := segmentPlacesUptoRow.holds Try.pinned (OpenSpec.upto segmentPlacesSpec)

/-- 'underwoodlaw23.SegmentAlone', WHERE WHAT IT READS IS OF BULK AT MOST 1048576: true; the input reads as it did. -/
def segmentAloneUptoRow : OpenClaim := { program := "ytgoijmomglomlaa", sum := "53260709d7af2525eeb7f7ce1064d27c0afe94ab6089f7069fec925402bcf788", func := "underwood/underwoodlaw23.SegmentAlone", spec := "segmentAlone", unfollowed := true, recurses := true, apart := false, narrowed := true }
def SegmentAloneUptoSaid : Prop := segmentAloneUptoRow.holds Try.pinned (OpenSpec.upto segmentAloneSpec)

/-- 'underwoodlaw23.SegmentPoints', WHERE WHAT IT READS IS OF BULK AT MOST 1048576: true; the input reads as it did. -/
def segmentPointsUptoRow : OpenClaim := { program := "ytgoijmomglomlaa", sum := "53260709d7af2525eeb7f7ce1064d27c0afe94ab6089f7069fec925402bcf788", func := "underwood/underwoodlaw23.SegmentPoints", spec := "segmentPoints", unfollowed := true, recurses := true, apart := false, narrowed := true }
def SegmentPointsUptoSaid : Prop := segmentPointsUptoRow.holds Try.pinned (OpenSpec.upto segmentPointsSpec)

end Rows
end Go.Proofs.Ytgoijmomglomlaa
