/-
  No cell of these rows narrows 'for every input' (looked for: loops, veiled, ifaces, maps, wideKeys, modest, calm, conditions, laid).
  DERIVED. THE GIVEN ROWS OF THIS SEAT. 4 by the template 'for every input the law returns true; each argument reads behind the call as it read before'; 0 by the template 'total and deterministic' (their statements: YtdmnjoidfjidbaaTotals.lean).
  GIVEN WITH THE SEED: the statements are not yours to turn. If you find one false, say at which input.
  Laid BY PROGRAM, IN A SANDBOX (cutbox-rows.mjs): the forced cells as the released guide's own fill.sh prints them over the translation 70149a87f474cc1a… (all of the seat's roots in one cut). By AI agents, Wed Nov 11 2026. No macro, syntax, notation, axiom, sorry.
-/
import Derived.Test.YtdmnjoidfjidbaaChecked
import GoSem.Claim
import GoSem.ClaimJoined
import GoSem.ClaimMapViews
import Derived.JoinedTies
import Derived.KernelRfl
namespace Go.Proofs.Ytdmnjoidfjidbaa
/- THE CELL 'sum', in the pinned program and in every row, IS THE sha256 OF THE DUMP (.gsa) THAT YtdmnjoidfjidbaaProg.lean LOADS. Nothing in Lean hashes anything: it is a label: what it is worth is what the hold of that sum in a sandbox is worth. -/
noncomputable def Try.pinned : Pinned := { name := "ytdmnjoidfjidbaa", sum := "70149a87f474cc1a0a13ca1e463f2453745d998c80a39f74b1ddcbcdd95b00e0", checked := Try.checked }
namespace Rows
def none {H : Type} : Left H := { results := [], args := [] }

/-- 'underwoodlaw22.ElimLin': WHATEVER THE INPUT: true; the input reads as it did. -/
def elimLinSpec : ChangeSpec := { name := "elimLin", fn := fun _ => fun
  | [d1, d2] => { results := [.lit (.bool true)], args := [d1, d2] }
  | _ => none }
def elimLinRow : OpenClaim := { program := "ytdmnjoidfjidbaa", sum := "70149a87f474cc1a0a13ca1e463f2453745d998c80a39f74b1ddcbcdd95b00e0", func := "underwood/underwoodlaw22.ElimLin", spec := "elimLin", unfollowed := true, recurses := true, apart := false }
def ElimLinSaid : Prop := elimLinRow.holds Try.pinned (OpenSpec.ofChange elimLinSpec)

/-- ITS FALSE NEIGHBOUR: 'it returns false'. Refute it at one input. -/
def elimLinWrong : ChangeSpec := { name := "elimLin", fn := fun _ => fun
  | [d1, d2] => { results := [.lit (.bool false)], args := [d1, d2] }
  | _ => none }
def ElimLinWrongFalsely : Prop := elimLinRow.holds Try.pinned (OpenSpec.ofChange elimLinWrong)

/-- 'underwoodlaw22.ElimOnce': WHATEVER THE INPUT: true; the input reads as it did. -/
def elimOnceSpec : ChangeSpec := { name := "elimOnce", fn := fun _ => fun
  | [d1, d2] => { results := [.lit (.bool true)], args := [d1, d2] }
  | _ => none }
def elimOnceRow : OpenClaim := { program := "ytdmnjoidfjidbaa", sum := "70149a87f474cc1a0a13ca1e463f2453745d998c80a39f74b1ddcbcdd95b00e0", func := "underwood/underwoodlaw22.ElimOnce", spec := "elimOnce", unfollowed := true, recurses := true, apart := false }
def ElimOnceSaid : Prop := elimOnceRow.holds Try.pinned (OpenSpec.ofChange elimOnceSpec)

/-- ITS FALSE NEIGHBOUR: 'it returns false'. Refute it at one input. -/
def elimOnceWrong : ChangeSpec := { name := "elimOnce", fn := fun _ => fun
  | [d1, d2] => { results := [.lit (.bool false)], args := [d1, d2] }
  | _ => none }
def ElimOnceWrongFalsely : Prop := elimOnceRow.holds Try.pinned (OpenSpec.ofChange elimOnceWrong)

/-- 'underwoodlaw22.ElimMeets': WHATEVER THE INPUT: true; the input reads as it did. -/
def elimMeetsSpec : ChangeSpec := { name := "elimMeets", fn := fun _ => fun
  | [d] => { results := [.lit (.bool true)], args := [d] }
  | _ => none }
def elimMeetsRow : OpenClaim := { program := "ytdmnjoidfjidbaa", sum := "70149a87f474cc1a0a13ca1e463f2453745d998c80a39f74b1ddcbcdd95b00e0", func := "underwood/underwoodlaw22.ElimMeets", spec := "elimMeets", unfollowed := true, recurses := true, apart := false }
def ElimMeetsSaid : Prop := elimMeetsRow.holds Try.pinned (OpenSpec.ofChange elimMeetsSpec)

/-- ITS FALSE NEIGHBOUR: 'it returns false'. Refute it at one input. -/
def elimMeetsWrong : ChangeSpec := { name := "elimMeets", fn := fun _ => fun
  | [d] => { results := [.lit (.bool false)], args := [d] }
  | _ => none }
def ElimMeetsWrongFalsely : Prop := elimMeetsRow.holds Try.pinned (OpenSpec.ofChange elimMeetsWrong)

/-- 'underwoodlaw22.ElimFull': WHATEVER THE INPUT: true; the input reads as it did. -/
def elimFullSpec : ChangeSpec := { name := "elimFull", fn := fun _ => fun
  | [d] => { results := [.lit (.bool true)], args := [d] }
  | _ => none }
def elimFullRow : OpenClaim := { program := "ytdmnjoidfjidbaa", sum := "70149a87f474cc1a0a13ca1e463f2453745d998c80a39f74b1ddcbcdd95b00e0", func := "underwood/underwoodlaw22.ElimFull", spec := "elimFull", unfollowed := true, recurses := true, apart := false }
def ElimFullSaid : Prop := elimFullRow.holds Try.pinned (OpenSpec.ofChange elimFullSpec)

/-- ITS FALSE NEIGHBOUR: 'it returns false'. Refute it at one input. -/
def elimFullWrong : ChangeSpec := { name := "elimFull", fn := fun _ => fun
  | [d] => { results := [.lit (.bool false)], args := [d] }
  | _ => none }
def ElimFullWrongFalsely : Prop := elimFullRow.holds Try.pinned (OpenSpec.ofChange elimFullWrong)

/- THE SECOND FORM. 'bulk': how many values and letters a reading holds, each counted each time it is reached (what is shared counts as often as it is met; a slice's spare places count too). A statement '..UptoSaid' is the law's where the arguments, and the package variables that the reading takes, are together of bulk at most 1048576: NARROWER than '..Said'. Prove '..Said' where nothing that the law and all that it calls make is longer than what came in: it says more and counts as full. Else prove '..UptoSaid'. A law counts once. -/
mutual
def uptoBulk {H : Type} : DataW H → Nat
  | .lit (.string bytes) => bytes.length + 1
  | .lit _ => 1
  | .nil => 1
  | .ptr d => uptoBulk d + 1
  | .slice elems spare => uptoBulkAll elems + uptoBulkAll spare + 1
  | .agg parts => uptoBulkAll parts + 1
  | .iface _ d => uptoBulk d + 1
  | .map entries => uptoBulkEntries entries + 1
  | .held _ => 1
def uptoBulkAll {H : Type} : List (DataW H) → Nat
  | [] => 0
  | d :: r => uptoBulk d + uptoBulkAll r
def uptoBulkEntries {H : Type} : List (Lit × DataW H) → Nat
  | [] => 0
  | x :: r => uptoBulkEntry x + uptoBulkEntries r
def uptoBulkEntry {H : Type} : Lit × DataW H → Nat
  | (.string bytes, d) => bytes.length + uptoBulk d + 1
  | (_, d) => uptoBulk d + 1
 end
def uptoSmall : (H : Type) → List (DataW H) → Bool := fun _ ds => decide (uptoBulkAll ds ≤ 1048576)
def OpenSpec.upto (s : _root_.Go.ChangeSpec) : _root_.Go.OpenSpec := { _root_.Go.OpenSpec.ofChange s with cond := some uptoSmall }

/-- 'underwoodlaw22.ElimLin', WHERE WHAT IT READS IS OF BULK AT MOST 1048576: true; the input reads as it did. -/
def elimLinUptoRow : OpenClaim := { program := "ytdmnjoidfjidbaa", sum := "70149a87f474cc1a0a13ca1e463f2453745d998c80a39f74b1ddcbcdd95b00e0", func := "underwood/underwoodlaw22.ElimLin", spec := "elimLin", unfollowed := true, recurses := true, apart := false, narrowed := true }
def ElimLinUptoSaid : Prop := elimLinUptoRow.holds Try.pinned (OpenSpec.upto elimLinSpec)

/-- 'underwoodlaw22.ElimOnce', WHERE WHAT IT READS IS OF BULK AT MOST 1048576: true; the input reads as it did. -/
def elimOnceUptoRow : OpenClaim := { program := "ytdmnjoidfjidbaa", sum := "70149a87f474cc1a0a13ca1e463f2453745d998c80a39f74b1ddcbcdd95b00e0", func := "underwood/underwoodlaw22.ElimOnce", spec := "elimOnce", unfollowed := true, recurses := true, apart := false, narrowed := true }
def ElimOnceUptoSaid : Prop := elimOnceUptoRow.holds Try.pinned (OpenSpec.upto elimOnceSpec)

/-- 'underwoodlaw22.ElimMeets', WHERE WHAT IT READS IS OF BULK AT MOST 1048576: true; the input reads as it did. -/
def elimMeetsUptoRow : OpenClaim := { program := "ytdmnjoidfjidbaa", sum := "70149a87f474cc1a0a13ca1e463f2453745d998c80a39f74b1ddcbcdd95b00e0", func := "underwood/underwoodlaw22.ElimMeets", spec := "elimMeets", unfollowed := true, recurses := true, apart := false, narrowed := true }
def ElimMeetsUptoSaid : Prop := elimMeetsUptoRow.holds Try.pinned (OpenSpec.upto elimMeetsSpec)

/-- 'underwoodlaw22.ElimFull', WHERE WHAT IT READS IS OF BULK AT MOST 1048576: true; the input reads as it did. -/
def elimFullUptoRow : OpenClaim := { program := "ytdmnjoidfjidbaa", sum := "70149a87f474cc1a0a13ca1e463f2453745d998c80a39f74b1ddcbcdd95b00e0", func := "underwood/underwoodlaw22.ElimFull", spec := "elimFull", unfollowed := true, recurses := true, apart := false, narrowed := true }
def ElimFullUptoSaid : Prop := elimFullUptoRow.holds Try.pinned (OpenSpec.upto elimFullSpec)

end Rows
end Go.Proofs.Ytdmnjoidfjidbaa
