/-
  No cell of these rows narrows 'for every input' (looked for: loops, veiled, ifaces, maps, wideKeys, modest, calm, conditions, laid).
  DERIVED. THE GIVEN ROWS OF THIS SEAT. 6 by the template 'for every input the law returns true; each argument reads behind the call as it read before'; 0 by the template 'total and deterministic' (their statements: YtpecgpmdchejdaaTotals.lean).
  GIVEN WITH THE SEED: the statements are not yours to turn. If you find one false, say at which input.
  Laid BY PROGRAM, IN A SANDBOX (cutbox-rows.mjs): the forced cells as the released guide's own fill.sh prints them over the translation 372667e77dff2e0e… (all of the seat's roots in one cut). By AI agents, Wed Nov 11 2026. No macro, syntax, notation, axiom, sorry.
-/
import Derived.Test.YtpecgpmdchejdaaChecked
import GoSem.Claim
import GoSem.ClaimJoined
import GoSem.ClaimMapViews
import Derived.JoinedTies
import Derived.KernelRfl
namespace Go.Proofs.Ytpecgpmdchejdaa
/- THE CELL 'sum', in the pinned program and in every row, IS THE sha256 OF THE DUMP (.gsa) THAT YtpecgpmdchejdaaProg.lean LOADS. Nothing in Lean hashes anything: it is a label: what it is worth is what the hold of that sum in a sandbox is worth. -/
noncomputable def Try.pinned : Pinned := { name := "ytpecgpmdchejdaa", sum := "372667e77dff2e0e0fa9bb49c3a08bdef94ace51189a6763fa053e3383a2ca1e", checked := Try.checked }
namespace Rows
def none {H : Type} : Left H := { results := [], args := [] }

/-- 'underwoodlaw21.StackReads': WHATEVER THE INPUT: true; the input reads as it did. -/
def stackReadsSpec : ChangeSpec := { name := "stackReads", fn := fun _ => fun
  | [d1, d2, d3] => { results := [.lit (.bool true)], args := [d1, d2, d3] }
  | _ => none }
def stackReadsRow : OpenClaim := { program := "ytpecgpmdchejdaa", sum := "372667e77dff2e0e0fa9bb49c3a08bdef94ace51189a6763fa053e3383a2ca1e", func := "underwood/underwoodlaw21.StackReads", spec := "stackReads", unfollowed := true, recurses := true, apart := false }
def StackReadsSaid : Prop := stackReadsRow.holds Try.pinned (OpenSpec.ofChange stackReadsSpec)

/-- ITS FALSE NEIGHBOUR: 'it returns false'. Refute it at one input. -/
def stackReadsWrong : ChangeSpec := { name := "stackReads", fn := fun _ => fun
  | [d1, d2, d3] => { results := [.lit (.bool false)], args := [d1, d2, d3] }
  | _ => none }
def StackReadsWrongFalsely : Prop := stackReadsRow.holds Try.pinned (OpenSpec.ofChange stackReadsWrong)

/-- 'underwoodlaw21.StackSafe': WHATEVER THE INPUT: true; the input reads as it did. -/
def stackSafeSpec : ChangeSpec := { name := "stackSafe", fn := fun _ => fun
  | [d] => { results := [.lit (.bool true)], args := [d] }
  | _ => none }
def stackSafeRow : OpenClaim := { program := "ytpecgpmdchejdaa", sum := "372667e77dff2e0e0fa9bb49c3a08bdef94ace51189a6763fa053e3383a2ca1e", func := "underwood/underwoodlaw21.StackSafe", spec := "stackSafe", unfollowed := true, recurses := true, apart := false }
def StackSafeSaid : Prop := stackSafeRow.holds Try.pinned (OpenSpec.ofChange stackSafeSpec)

/-- ITS FALSE NEIGHBOUR: 'it returns false'. Refute it at one input. -/
def stackSafeWrong : ChangeSpec := { name := "stackSafe", fn := fun _ => fun
  | [d] => { results := [.lit (.bool false)], args := [d] }
  | _ => none }
def StackSafeWrongFalsely : Prop := stackSafeRow.holds Try.pinned (OpenSpec.ofChange stackSafeWrong)

/-- 'underwoodlaw21.StackKept': WHATEVER THE INPUT: true; the input reads as it did. -/
def stackKeptSpec : ChangeSpec := { name := "stackKept", fn := fun _ => fun
  | [d] => { results := [.lit (.bool true)], args := [d] }
  | _ => none }
def stackKeptRow : OpenClaim := { program := "ytpecgpmdchejdaa", sum := "372667e77dff2e0e0fa9bb49c3a08bdef94ace51189a6763fa053e3383a2ca1e", func := "underwood/underwoodlaw21.StackKept", spec := "stackKept", unfollowed := true, recurses := true, apart := false }
def StackKeptSaid : Prop := stackKeptRow.holds Try.pinned (OpenSpec.ofChange stackKeptSpec)

/-- ITS FALSE NEIGHBOUR: 'it returns false'. Refute it at one input. -/
def stackKeptWrong : ChangeSpec := { name := "stackKept", fn := fun _ => fun
  | [d] => { results := [.lit (.bool false)], args := [d] }
  | _ => none }
def StackKeptWrongFalsely : Prop := stackKeptRow.holds Try.pinned (OpenSpec.ofChange stackKeptWrong)

/-- 'underwoodlaw21.StackPassed': WHATEVER THE INPUT: true; the input reads as it did. -/
def stackPassedSpec : ChangeSpec := { name := "stackPassed", fn := fun _ => fun
  | [d] => { results := [.lit (.bool true)], args := [d] }
  | _ => none }
def stackPassedRow : OpenClaim := { program := "ytpecgpmdchejdaa", sum := "372667e77dff2e0e0fa9bb49c3a08bdef94ace51189a6763fa053e3383a2ca1e", func := "underwood/underwoodlaw21.StackPassed", spec := "stackPassed", unfollowed := true, recurses := true, apart := false }
def StackPassedSaid : Prop := stackPassedRow.holds Try.pinned (OpenSpec.ofChange stackPassedSpec)

/-- ITS FALSE NEIGHBOUR: 'it returns false'. Refute it at one input. -/
def stackPassedWrong : ChangeSpec := { name := "stackPassed", fn := fun _ => fun
  | [d] => { results := [.lit (.bool false)], args := [d] }
  | _ => none }
def StackPassedWrongFalsely : Prop := stackPassedRow.holds Try.pinned (OpenSpec.ofChange stackPassedWrong)

/-- 'underwoodlaw21.StackAlone': WHATEVER THE INPUT: true; the input reads as it did. -/
def stackAloneSpec : ChangeSpec := { name := "stackAlone", fn := fun _ => fun
  | [d] => { results := [.lit (.bool true)], args := [d] }
  | _ => none }
def stackAloneRow : OpenClaim := { program := "ytpecgpmdchejdaa", sum := "372667e77dff2e0e0fa9bb49c3a08bdef94ace51189a6763fa053e3383a2ca1e", func := "underwood/underwoodlaw21.StackAlone", spec := "stackAlone", unfollowed := true, recurses := true, apart := false }
def StackAloneSaid : Prop := stackAloneRow.holds Try.pinned (OpenSpec.ofChange stackAloneSpec)

/-- ITS FALSE NEIGHBOUR: 'it returns false'. Refute it at one input. -/
def stackAloneWrong : ChangeSpec := { name := "stackAlone", fn := fun _ => fun
  | [d] => { results := [.lit (.bool false)], args := [d] }
  | _ => none }
def StackAloneWrongFalsely : Prop := stackAloneRow.holds Try.pinned (OpenSpec.ofChange stackAloneWrong)

/-- 'underwoodlaw21.StackPoints': WHATEVER THE INPUT: true; the input reads as it did. -/
def stackPointsSpec : ChangeSpec := { name := "stackPoints", fn := fun _ => fun
  | [d] => { results := [.lit (.bool true)], args := [d] }
  | _ => none }
def stackPointsRow : OpenClaim := { program := "ytpecgpmdchejdaa", sum := "372667e77dff2e0e0fa9bb49c3a08bdef94ace51189a6763fa053e3383a2ca1e", func := "underwood/underwoodlaw21.StackPoints", spec := "stackPoints", unfollowed := true, recurses := true, apart := false }
def StackPointsSaid : Prop := stackPointsRow.holds Try.pinned (OpenSpec.ofChange stackPointsSpec)

/-- ITS FALSE NEIGHBOUR: 'it returns false'. Refute it at one input. -/
def stackPointsWrong : ChangeSpec := { name := "stackPoints", fn := fun _ => fun
  | [d] => { results := [.lit (.bool false)], args := [d] }
  | _ => none }
def StackPointsWrongFalsely : Prop := stackPointsRow.holds Try.pinned (OpenSpec.ofChange stackPointsWrong)

/- THE SECOND FORM. 'bulk': how many values and letters a reading holds, each counted each time it is reached (what is shared counts as often as it is met; a slice's spare places count too). A statement '..UptoSaid' is the law's where the arguments, and the package variables that the reading takes, are together of bulk at most 1048576: NARROWER than '..Said'. Prove '..Said' where nothing that the law and all that it calls make is longer than what came in: it says more and counts as full. Else prove '..UptoSaid'. A law counts once. -/
mutual
def uptoBulk {H : Type} : DataW H → Nat
  | .lit (.string bytes) => bytes.length + 1
  | .lit _ => 1
  | .nil => 1
  | .ptr d => uptoBulk d + 1
  | .slice elems spare => uptoBulkAll elems + uptoBulkAll spare + 1
  | .agg parts => uptoBulkAll parts + 1
  | .iface _ d => uptoBulk d + 1
  | .map entries => uptoBulkEntries entries + 1
  | .held _ => 1
def uptoBulkAll {H : Type} : List (DataW H) → Nat
  | [] => 0
  | d :: r => uptoBulk d + uptoBulkAll r
def uptoBulkEntries {H : Type} : List (Lit × DataW H) → Nat
  | [] => 0
  | x :: r => uptoBulkEntry x + uptoBulkEntries r
def uptoBulkEntry {H : Type} : Lit × DataW H → Nat
  | (.string bytes, d) => bytes.length + uptoBulk d + 1
  | (_, d) => uptoBulk d + 1
 end
def uptoSmall : (H : Type) → List (DataW H) → Bool := fun _ ds => decide (uptoBulkAll ds ≤ 1048576)
def OpenSpec.upto (s : _root_.Go.ChangeSpec) : _root_.Go.OpenSpec := { _root_.Go.OpenSpec.ofChange s with cond := some uptoSmall }

/-- 'underwoodlaw21.StackReads', WHERE WHAT IT READS IS OF BULK AT MOST 1048576: true; the input reads as it did. -/
def stackReadsUptoRow : OpenClaim := { program := "ytpecgpmdchejdaa", sum := "372667e77dff2e0e0fa9bb49c3a08bdef94ace51189a6763fa053e3383a2ca1e", func := "underwood/underwoodlaw21.StackReads", spec := "stackReads", unfollowed := true, recurses := true, apart := false, narrowed := true }
def StackReadsUptoSaid : Prop := stackReadsUptoRow.holds Try.pinned (OpenSpec.upto stackReadsSpec)

/-- 'underwoodlaw21.StackSafe', WHERE WHAT IT READS IS OF BULK AT MOST 1048576: true; the input reads as it did. -/
def stackSafeUptoRow : OpenClaim := { program := "ytpecgpmdchejdaa", sum := "372667e77dff2e0e0fa9bb49c3a08bdef94ace51189a6763fa053e3383a2ca1e", func := "underwood/underwoodlaw21.StackSafe", spec := "stackSafe", unfollowed := true, recurses := true, apart := false, narrowed := true }
def StackSafeUptoSaid : Prop := stackSafeUptoRow.holds Try.pinned (OpenSpec.upto stackSafeSpec)

/-- 'underwoodlaw21.StackKept', WHERE WHAT IT READS IS OF BULK AT MOST 1048576: true; the input reads as it did. -/
def stackKeptUptoRow : OpenClaim := { program := "ytpecgpmdchejdaa", sum := "372667e77dff2e0e0fa9bb49c3a08bdef94ace51189a6763fa053e3383a2ca1e", func := "underwood/underwoodlaw21.StackKept", spec := "stackKept", unfollowed := true, recurses := true, apart := false, narrowed := true }
def StackKeptUptoSaid : Prop := stackKeptUptoRow.holds Try.pinned (OpenSpec.upto stackKeptSpec)

/-- 'underwoodlaw21.StackPassed', WHERE WHAT IT READS IS OF BULK AT MOST 1048576: true; the input reads as it did. -/
def stackPassedUptoRow : OpenClaim := { program := "ytpecgpmdchejdaa", sum := "372667e77dff2e0e0fa9bb49c3a08bdef94ace51189a6763fa053e3383a2ca1e", func := "underwood/underwoodlaw21.StackPassed", spec := "stackPassed", unfollowed := true, recurses := true, apart := false, narrowed := true }
def StackPassedUptoSaid : Prop := stackPassedUptoRow.holds Try.pinned (OpenSpec.upto stackPassedSpec)

/-- 'underwoodlaw21.StackAlone', WHERE WHAT IT READS IS OF BULK AT MOST 1048576: true; the input reads as it did. -/
def stackAloneUptoRow : OpenClaim := { program := "ytpecgpmdchejdaa", sum := "372667e77dff2e0e0fa9bb49c3a08bdef94ace51189a6763fa053e3383a2ca1e", func := "underwood/underwoodlaw21.StackAlone", spec := "stackAlone", unfollowed := true, recurses := true, apart := false, narrowed := true }
def StackAloneUptoSaid : Prop := stackAloneUptoRow.holds Try.pinned (OpenSpec.upto stackAloneSpec)

/-- 'underwoodlaw21.StackPoints', WHERE WHAT IT READS IS OF BULK AT MOST 1048576: true; the input reads as it did. -/
def stackPointsUptoRow : OpenClaim := { program := "ytpecgpmdchejdaa", sum := "372667e77dff2e0e0fa9bb49c3a08bdef94ace51189a6763fa053e3383a2ca1e", func := "underwood/underwoodlaw21.StackPoints", spec := "stackPoints", unfollowed := true, recurses := true, apart := false, narrowed := true }
def StackPointsUptoSaid : Prop := stackPointsUptoRow.holds Try.pinned (OpenSpec.upto stackPointsSpec)

end Rows
end Go.Proofs.Ytpecgpmdchejdaa
