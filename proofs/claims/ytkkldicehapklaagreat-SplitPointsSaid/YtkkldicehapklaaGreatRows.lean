/-
  No cell of these rows narrows 'for every input' (looked for: loops, veiled, ifaces, maps, wideKeys, modest, calm, conditions, laid).
  DERIVED. THE GIVEN ROWS OF THIS SEAT. 4 by the template 'for every input the law returns true; each argument reads behind the call as it read before'; 0 by the template 'total and deterministic' (their statements: YtkkldicehapklaaGreatTotals.lean).
  GIVEN WITH THE SEED: the statements are not yours to turn. If you find one false, say at which input.
  Laid BY PROGRAM, IN A SANDBOX (cutbox-rows.mjs): the forced cells as the released guide's own fill.sh prints them over the translation b98c67901e66a9af… (all of the seat's roots in one cut). By AI agents, Wed Nov 11 2026. No macro, syntax, notation, axiom, sorry.
-/
import Derived.Test.YtkkldicehapklaaGreatChecked
import GoSem.Claim
import GoSem.ClaimJoined
import GoSem.ClaimMapViews
import Derived.JoinedTies
import Derived.KernelRfl
namespace Go.Proofs.YtkkldicehapklaaGreat
/- THE CELL 'sum', in the pinned program and in every row, IS THE sha256 OF THE DUMP (.gsa) THAT YtkkldicehapklaaGreatProg.lean LOADS. Nothing in Lean hashes anything: it is a label: what it is worth is what the hold of that sum in a sandbox is worth. -/
noncomputable def Tryz.pinned : Pinned := { name := "ytkkldicehapklaagreat", sum := "b98c67901e66a9af5cab08c6fe0cb98e639cfc09aa02418933b4700ef060e5fa", checked := Tryz.checked }
namespace Rows
def none {H : Type} : Left H := { results := [], args := [] }

/-- 'underwoodlaw20.SplitParents': WHATEVER THE INPUT: true; the input reads as it did. -/
def splitParentsSpec : ChangeSpec := { name := "splitParents", fn := fun _ => fun
  | [d1, d2, d3] => { results := [.lit (.bool true)], args := [d1, d2, d3] }
  | _ => none }
def splitParentsRow : OpenClaim := { program := "ytkkldicehapklaagreat", sum := "b98c67901e66a9af5cab08c6fe0cb98e639cfc09aa02418933b4700ef060e5fa", func := "underwood/underwoodlaw20.SplitParents", spec := "splitParents", unfollowed := true, recurses := true, apart := false }
def SplitParentsSaid : Prop := splitParentsRow.holds Tryz.pinned (OpenSpec.ofChange splitParentsSpec)

/-- ITS FALSE NEIGHBOUR: 'it returns false'. Refute it at one input. -/
def splitParentsWrong : ChangeSpec := { name := "splitParents", fn := fun _ => fun
  | [d1, d2, d3] => { results := [.lit (.bool false)], args := [d1, d2, d3] }
  | _ => none }
def SplitParentsWrongFalsely : Prop := splitParentsRow.holds Tryz.pinned (OpenSpec.ofChange splitParentsWrong)

/-- 'underwoodlaw20.SplitLin': WHATEVER THE INPUT: true; the input reads as it did. -/
def splitLinSpec : ChangeSpec := { name := "splitLin", fn := fun _ => fun
  | [d1, d2] => { results := [.lit (.bool true)], args := [d1, d2] }
  | _ => none }
def splitLinRow : OpenClaim := { program := "ytkkldicehapklaagreat", sum := "b98c67901e66a9af5cab08c6fe0cb98e639cfc09aa02418933b4700ef060e5fa", func := "underwood/underwoodlaw20.SplitLin", spec := "splitLin", unfollowed := true, recurses := true, apart := false }
def SplitLinSaid : Prop := splitLinRow.holds Tryz.pinned (OpenSpec.ofChange splitLinSpec)

/-- ITS FALSE NEIGHBOUR: 'it returns false'. Refute it at one input. -/
def splitLinWrong : ChangeSpec := { name := "splitLin", fn := fun _ => fun
  | [d1, d2] => { results := [.lit (.bool false)], args := [d1, d2] }
  | _ => none }
def SplitLinWrongFalsely : Prop := splitLinRow.holds Tryz.pinned (OpenSpec.ofChange splitLinWrong)

/-- 'underwoodlaw20.SplitPoints': WHATEVER THE INPUT: true; the input reads as it did. -/
def splitPointsSpec : ChangeSpec := { name := "splitPoints", fn := fun _ => fun
  | [d1, d2] => { results := [.lit (.bool true)], args := [d1, d2] }
  | _ => none }
def splitPointsRow : OpenClaim := { program := "ytkkldicehapklaagreat", sum := "b98c67901e66a9af5cab08c6fe0cb98e639cfc09aa02418933b4700ef060e5fa", func := "underwood/underwoodlaw20.SplitPoints", spec := "splitPoints", unfollowed := true, recurses := true, apart := false }
def SplitPointsSaid : Prop := splitPointsRow.holds Tryz.pinned (OpenSpec.ofChange splitPointsSpec)

/-- ITS FALSE NEIGHBOUR: 'it returns false'. Refute it at one input. -/
def splitPointsWrong : ChangeSpec := { name := "splitPoints", fn := fun _ => fun
  | [d1, d2] => { results := [.lit (.bool false)], args := [d1, d2] }
  | _ => none }
def SplitPointsWrongFalsely : Prop := splitPointsRow.holds Tryz.pinned (OpenSpec.ofChange splitPointsWrong)

/-- 'underwoodlaw20.SplitFull': WHATEVER THE INPUT: true; the input reads as it did. -/
def splitFullSpec : ChangeSpec := { name := "splitFull", fn := fun _ => fun
  | [d] => { results := [.lit (.bool true)], args := [d] }
  | _ => none }
def splitFullRow : OpenClaim := { program := "ytkkldicehapklaagreat", sum := "b98c67901e66a9af5cab08c6fe0cb98e639cfc09aa02418933b4700ef060e5fa", func := "underwood/underwoodlaw20.SplitFull", spec := "splitFull", unfollowed := true, recurses := true, apart := false }
def SplitFullSaid : Prop := splitFullRow.holds Tryz.pinned (OpenSpec.ofChange splitFullSpec)

/-- ITS FALSE NEIGHBOUR: 'it returns false'. Refute it at one input. -/
def splitFullWrong : ChangeSpec := { name := "splitFull", fn := fun _ => fun
  | [d] => { results := [.lit (.bool false)], args := [d] }
  | _ => none }
def SplitFullWrongFalsely : Prop := splitFullRow.holds Tryz.pinned (OpenSpec.ofChange splitFullWrong)

/- THE SECOND FORM. 'bulk': how many values and letters a reading holds, each counted each time it is reached (what is shared counts as often as it is met; a slice's spare places count too). A statement '..UptoSaid' is the law's where the arguments, and the package variables that the reading takes, are together of bulk at most 1048576: NARROWER than '..Said'. Prove '..Said' where nothing that the law and all that it calls make is longer than what came in: it says more and counts as full. Else prove '..UptoSaid'. A law counts once. -/
mutual
def uptoBulk {H : Type} : DataW H → Nat
  | .lit (.string bytes) => bytes.length + 1
  | .lit _ => 1
  | .nil => 1
  | .ptr d => uptoBulk d + 1
  | .slice elems spare => uptoBulkAll elems + uptoBulkAll spare + 1
  | .agg parts => uptoBulkAll parts + 1
  | .iface _ d => uptoBulk d + 1
  | .map entries => uptoBulkEntries entries + 1
  | .held _ => 1
def uptoBulkAll {H : Type} : List (DataW H) → Nat
  | [] => 0
  | d :: r => uptoBulk d + uptoBulkAll r
def uptoBulkEntries {H : Type} : List (Lit × DataW H) → Nat
  | [] => 0
  | x :: r => uptoBulkEntry x + uptoBulkEntries r
def uptoBulkEntry {H : Type} : Lit × DataW H → Nat
  | (.string bytes, d) => bytes.length + uptoBulk d + 1
  | (_, d) => uptoBulk d + 1
 end
def uptoSmall : (H : Type) → List (DataW H) → Bool := fun _ ds => decide (uptoBulkAll ds ≤ 1048576)
def OpenSpec.upto (s : _root_.Go.ChangeSpec) : _root_.Go.OpenSpec := { _root_.Go.OpenSpec.ofChange s with cond := some uptoSmall }

/-- 'underwoodlaw20.SplitParents', WHERE WHAT IT READS IS OF BULK AT MOST 1048576: true; the input reads as it did. -/
def splitParentsUptoRow : OpenClaim := { program := "ytkkldicehapklaagreat", sum := "b98c67901e66a9af5cab08c6fe0cb98e639cfc09aa02418933b4700ef060e5fa", func := "underwood/underwoodlaw20.SplitParents", spec := "splitParents", unfollowed := true, recurses := true, apart := false, narrowed := true }
def SplitParentsUptoSaid : Prop := splitParentsUptoRow.holds Tryz.pinned (OpenSpec.upto splitParentsSpec)

/-- 'underwoodlaw20.SplitLin', WHERE WHAT IT READS IS OF BULK AT MOST 1048576: true; the input reads as it did. -/
def splitLinUptoRow : OpenClaim := { program := "ytkkldicehapklaagreat", sum := "b98c67901e66a9af5cab08c6fe0cb98e639cfc09aa02418933b4700ef060e5fa", func := "underwood/underwoodlaw20.SplitLin", spec := "splitLin", unfollowed := true, recurses := true, apart := false, narrowed := true }
def SplitLinUptoSaid : Prop := splitLinUptoRow.holds Tryz.pinned (OpenSpec.upto splitLinSpec)

/-- 'underwoodlaw20.SplitPoints', WHERE WHAT IT READS IS OF BULK AT MOST 1048576: true; the input reads as it did. -/
def splitPointsUptoRow : OpenClaim := { program := "ytkkldicehapklaagreat", sum := "b98c67901e66a9af5cab08c6fe0cb98e639cfc09aa02418933b4700ef060e5fa", func := "underwood/underwoodlaw20.SplitPoints", spec := "splitPoints", unfollowed := true, recurses := true, apart := false, narrowed := true }
def SplitPointsUptoSaid : Prop := splitPointsUptoRow.holds Tryz.pinned (OpenSpec.upto splitPointsSpec)

/-- 'underwoodlaw20.SplitFull', WHERE WHAT IT READS IS OF BULK AT MOST 1048576: true; the input reads as it did. -/
def splitFullUptoRow : OpenClaim := { program := "ytkkldicehapklaagreat", sum := "b98c67901e66a9af5cab08c6fe0cb98e639cfc09aa02418933b4700ef060e5fa", func := "underwood/underwoodlaw20.SplitFull", spec := "splitFull", unfollowed := true, recurses := true, apart := false, narrowed := true }
def SplitFullUptoSaid : Prop := splitFullUptoRow.holds Tryz.pinned (OpenSpec.upto splitFullSpec)

end Rows
end Go.Proofs.YtkkldicehapklaaGreat
