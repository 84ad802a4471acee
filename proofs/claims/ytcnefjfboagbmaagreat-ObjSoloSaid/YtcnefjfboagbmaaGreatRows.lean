/-
  No cell of these rows narrows 'for every input' (looked for: loops, veiled, ifaces, maps, wideKeys, modest, calm, conditions, laid).
  DERIVED. THE GIVEN ROWS OF THIS SEAT. 5 by the template 'for every input the law returns true; each argument reads behind the call as it read before'; 0 by the template 'total and deterministic' (their statements: YtcnefjfboagbmaaGreatTotals.lean).
  GIVEN WITH THE SEED: the statements are not yours to turn. If you find one false, say at which input.
  Laid BY PROGRAM, IN A SANDBOX (cutbox-rows.mjs): the forced cells as the released guide's own fill.sh prints them over the translation 68672bd519f1a1cd… (all of the seat's roots in one cut). By AI agents, Wed Nov 11 2026. No macro, syntax, notation, axiom, sorry.
-/
import Derived.Test.YtcnefjfboagbmaaGreatChecked
import GoSem.Claim
import GoSem.ClaimJoined
import GoSem.ClaimMapViews
import Derived.JoinedTies
import Derived.KernelRfl
namespace Go.Proofs.YtcnefjfboagbmaaGreat
/- THE CELL 'sum', in the pinned program and in every row, IS THE sha256 OF THE DUMP (.gsa) THAT YtcnefjfboagbmaaGreatProg.lean LOADS. Nothing in Lean hashes anything: it is a label: what it is worth is what the hold of that sum in a sandbox is worth. -/
noncomputable def Tryz.pinned : Pinned := { name := "ytcnefjfboagbmaagreat", sum := "68672bd519f1a1cd01c463cc9de140e6daebf4f986cd791b680d49083dc0decc", checked := Tryz.checked }
namespace Rows
def none {H : Type} : Left H := { results := [], args := [] }

/-- 'underwoodlaw24.ObjTells': WHATEVER THE INPUT: true; the input reads as it did. -/
def objTellsSpec : ChangeSpec := { name := "objTells", fn := fun _ => fun
  | [d] => { results := [.lit (.bool true)], args := [d] }
  | _ => none }
def objTellsRow : OpenClaim := { program := "ytcnefjfboagbmaagreat", sum := "68672bd519f1a1cd01c463cc9de140e6daebf4f986cd791b680d49083dc0decc", func := "underwood/underwoodlaw24.ObjTells", spec := "objTells", unfollowed := true, recurses := true, apart := false }
def ObjTellsSaid : Prop := objTellsRow.holds Tryz.pinned (OpenSpec.ofChange objTellsSpec)

/-- ITS FALSE NEIGHBOUR: 'it returns false'. Refute it at one input. -/
def objTellsWrong : ChangeSpec := { name := "objTells", fn := fun _ => fun
  | [d] => { results := [.lit (.bool false)], args := [d] }
  | _ => none }
def ObjTellsWrongFalsely : Prop := objTellsRow.holds Tryz.pinned (OpenSpec.ofChange objTellsWrong)

/-- 'underwoodlaw24.ObjSolo': WHATEVER THE INPUT: true; the input reads as it did. -/
def objSoloSpec : ChangeSpec := { name := "objSolo", fn := fun _ => fun
  | [d1, d2] => { results := [.lit (.bool true)], args := [d1, d2] }
  | _ => none }
def objSoloRow : OpenClaim := { program := "ytcnefjfboagbmaagreat", sum := "68672bd519f1a1cd01c463cc9de140e6daebf4f986cd791b680d49083dc0decc", func := "underwood/underwoodlaw24.ObjSolo", spec := "objSolo", unfollowed := true, recurses := true, apart := false }
def ObjSoloSaid : Prop := objSoloRow.holds Tryz.pinned (OpenSpec.ofChange objSoloSpec)

/-- ITS FALSE NEIGHBOUR: 'it returns false'. Refute it at one input. -/
def objSoloWrong : ChangeSpec := { name := "objSolo", fn := fun _ => fun
  | [d1, d2] => { results := [.lit (.bool false)], args := [d1, d2] }
  | _ => none }
def ObjSoloWrongFalsely : Prop := objSoloRow.holds Tryz.pinned (OpenSpec.ofChange objSoloWrong)

/-- 'underwoodlaw24.ObjLin': WHATEVER THE INPUT: true; the input reads as it did. -/
def objLinSpec : ChangeSpec := { name := "objLin", fn := fun _ => fun
  | [d1, d2] => { results := [.lit (.bool true)], args := [d1, d2] }
  | _ => none }
def objLinRow : OpenClaim := { program := "ytcnefjfboagbmaagreat", sum := "68672bd519f1a1cd01c463cc9de140e6daebf4f986cd791b680d49083dc0decc", func := "underwood/underwoodlaw24.ObjLin", spec := "objLin", unfollowed := true, recurses := true, apart := false }
def ObjLinSaid : Prop := objLinRow.holds Tryz.pinned (OpenSpec.ofChange objLinSpec)

/-- ITS FALSE NEIGHBOUR: 'it returns false'. Refute it at one input. -/
def objLinWrong : ChangeSpec := { name := "objLin", fn := fun _ => fun
  | [d1, d2] => { results := [.lit (.bool false)], args := [d1, d2] }
  | _ => none }
def ObjLinWrongFalsely : Prop := objLinRow.holds Tryz.pinned (OpenSpec.ofChange objLinWrong)

/-- 'underwoodlaw24.ObjChannel': WHATEVER THE INPUT: true; the input reads as it did. -/
def objChannelSpec : ChangeSpec := { name := "objChannel", fn := fun _ => fun
  | [d] => { results := [.lit (.bool true)], args := [d] }
  | _ => none }
def objChannelRow : OpenClaim := { program := "ytcnefjfboagbmaagreat", sum := "68672bd519f1a1cd01c463cc9de140e6daebf4f986cd791b680d49083dc0decc", func := "underwood/underwoodlaw24.ObjChannel", spec := "objChannel", unfollowed := true, recurses := true, apart := false }
def ObjChannelSaid : Prop := objChannelRow.holds Tryz.pinned (OpenSpec.ofChange objChannelSpec)

/-- ITS FALSE NEIGHBOUR: 'it returns false'. Refute it at one input. -/
def objChannelWrong : ChangeSpec := { name := "objChannel", fn := fun _ => fun
  | [d] => { results := [.lit (.bool false)], args := [d] }
  | _ => none }
def ObjChannelWrongFalsely : Prop := objChannelRow.holds Tryz.pinned (OpenSpec.ofChange objChannelWrong)

/-- 'underwoodlaw24.ObjNew': WHATEVER THE INPUT: true; the input reads as it did. -/
def objNewSpec : ChangeSpec := { name := "objNew", fn := fun _ => fun
  | [d] => { results := [.lit (.bool true)], args := [d] }
  | _ => none }
def objNewRow : OpenClaim := { program := "ytcnefjfboagbmaagreat", sum := "68672bd519f1a1cd01c463cc9de140e6daebf4f986cd791b680d49083dc0decc", func := "underwood/underwoodlaw24.ObjNew", spec := "objNew", unfollowed := true, recurses := true, apart := false }
def ObjNewSaid : Prop := objNewRow.holds Tryz.pinned (OpenSpec.ofChange objNewSpec)

/-- ITS FALSE NEIGHBOUR: 'it returns false'. Refute it at one input. -/
def objNewWrong : ChangeSpec := { name := "objNew", fn := fun _ => fun
  | [d] => { results := [.lit (.bool false)], args := [d] }
  | _ => none }
def ObjNewWrongFalsely : Prop := objNewRow.holds Tryz.pinned (OpenSpec.ofChange objNewWrong)

/- THE SECOND FORM. 'bulk': how many values and letters a reading holds, each counted each time it is reached (what is shared counts as often as it is met; a slice's spare places count too). A statement '..UptoSaid' is the law's where the arguments, and the package variables that the reading takes, are together of bulk at most 1048576: NARROWER than '..Said'. Prove '..Said' where nothing that the law and all that it calls make is longer than what came in: it says more and counts as full. Else prove '..UptoSaid'. A law counts once. -/
mutual
def uptoBulk {H : Type} : DataW H → Nat
  | .lit (.string bytes) => bytes.length + 1
  | .lit _ => 1
  | .nil => 1
  | .ptr d => uptoBulk d + 1
  | .slice elems spare => uptoBulkAll elems + uptoBulkAll spare + 1
  | .agg parts => uptoBulkAll parts + 1
  | .iface _ d => uptoBulk d + 1
  | .map entries => uptoBulkEntries entries + 1
  | .held _ => 1
def uptoBulkAll {H : Type} : List (DataW H) → Nat
  | [] => 0
  | d :: r => uptoBulk d + uptoBulkAll r
def uptoBulkEntries {H : Type} : List (Lit × DataW H) → Nat
  | [] => 0
  | x :: r => uptoBulkEntry x + uptoBulkEntries r
def uptoBulkEntry {H : Type} : Lit × DataW H → Nat
  | (.string bytes, d) => bytes.length + uptoBulk d + 1
  | (_, d) => uptoBulk d + 1
 end
def uptoSmall : (H : Type) → List (DataW H) → Bool := fun _ ds => decide (uptoBulkAll ds ≤ 1048576)
def OpenSpec.upto (s : _root_.Go.ChangeSpec) : _root_.Go.OpenSpec := { _root_.Go.OpenSpec.ofChange s with cond := some uptoSmall }

/-- 'underwoodlaw24.ObjTells', WHERE WHAT IT READS IS OF BULK AT MOST 1048576: true; the input reads as it did. -/
def objTellsUptoRow : OpenClaim := { program := "ytcnefjfboagbmaagreat", sum := "68672bd519f1a1cd01c463cc9de140e6daebf4f986cd791b680d49083dc0decc", func := "underwood/underwoodlaw24.ObjTells", spec := "objTells", unfollowed := true, recurses := true, apart := false, narrowed := true }
def ObjTellsUptoSaid : Prop := objTellsUptoRow.holds Tryz.pinned (OpenSpec.upto objTellsSpec)

/-- 'underwoodlaw24.ObjSolo', WHERE WHAT IT READS IS OF BULK AT MOST 1048576: true; the input reads as it did. -/
def objSoloUptoRow : OpenClaim := { program := "ytcnefjfboagbmaagreat", sum := "68672bd519f1a1cd01c463cc9de140e6daebf4f986cd791b680d49083dc0decc", func := "underwood/underwoodlaw24.ObjSolo", spec := "objSolo", unfollowed := true, recurses := true, apart := false, narrowed := true }
def ObjSoloUptoSaid : Prop := objSoloUptoRow.holds Tryz.pinned (OpenSpec.upto objSoloSpec)

/-- 'underwoodlaw24.ObjLin', WHERE WHAT IT READS IS OF BULK AT MOST 1048576: true; the input reads as it did. -/
def objLinUptoRow : OpenClaim := { program := "ytcnefjfboagbmaagreat", sum := "68672bd519f1a1cd01c463cc9de140e6daebf4f986cd791b680d49083dc0decc", func := "underwood/underwoodlaw24.ObjLin", spec := "objLin", unfollowed := true, recurses := true, apart := false, narrowed := true }
def ObjLinUptoSaid : Prop := objLinUptoRow.holds Tryz.pinned (OpenSpec.upto objLinSpec)

/-- 'underwoodlaw24.ObjChannel', WHERE WHAT IT READS IS OF BULK AT MOST 1048576: true; the input reads as it did. -/
def objChannelUptoRow : OpenClaim := { program := "ytcnefjfboagbmaagreat", sum := "68672bd519f1a1cd01c463cc9de140e6daebf4f986cd791b680d49083dc0decc", func := "underwood/underwoodlaw24.ObjChannel", spec := "objChannel", unfollowed := true, recurses := true, apart := false, narrowed := true }
def ObjChannelUptoSaid : Prop := objChannelUptoRow.holds Tryz.pinned (OpenSpec.upto objChannelSpec)

/-- 'underwoodlaw24.ObjNew', WHERE WHAT IT READS IS OF BULK AT MOST 1048576: true; the input reads as it did. -/
def objNewUptoRow : OpenClaim := { program := "ytcnefjfboagbmaagreat", sum := "68672bd519f1a1cd01c463cc9de140e6daebf4f986cd791b680d49083dc0decc", func := "underwood/underwoodlaw24.ObjNew", spec := "objNew", unfollowed := true, recurses := true, apart := false, narrowed := true }
def ObjNewUptoSaid : Prop := objNewUptoRow.holds Tryz.pinned (OpenSpec.upto objNewSpec)

end Rows
end Go.Proofs.YtcnefjfboagbmaaGreat
