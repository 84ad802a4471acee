/-
  No cell of these rows narrows 'for every input' (looked for: loops, veiled, ifaces, maps, wideKeys, modest, calm, conditions, laid).
  DERIVED. THE GIVEN ROWS OF THIS SEAT. 5 by the template 'for every input the law returns true; each argument reads behind the call as it read before'; 0 by the template 'total and deterministic' (their statements: YtefagncaepallaaTotals.lean).
  GIVEN WITH THE SEED: the statements are not yours to turn. If you find one false, say at which input.
  Laid BY PROGRAM, IN A SANDBOX (cutbox-rows.mjs): the forced cells as the released guide's own fill.sh prints them over the translation 65799ad6f3d962d9… (all of the seat's roots in one cut). By AI agents, Wed Nov 11 2026. No macro, syntax, notation, axiom, sorry.
-/
import Derived.Test.YtefagncaepallaaChecked
import GoSem.Claim
import GoSem.ClaimJoined
import GoSem.ClaimMapViews
import Derived.JoinedTies
import Derived.KernelRfl
namespace Go.Proofs.Ytefagncaepallaa
/- THE CELL 'sum', in the pinned program and in every row, IS THE sha256 OF THE DUMP (.gsa) THAT YtefagncaepallaaProg.lean LOADS. Nothing in Lean hashes anything: it is a label: what it is worth is what the hold of that sum in a sandbox is worth. -/
noncomputable def Try.pinned : Pinned := { name := "ytefagncaepallaa", sum := "65799ad6f3d962d9de09dbd27e7183047705201e43cba95833a65b3aa91e5d95", checked := Try.checked }
namespace Rows
def none {H : Type} : Left H := { results := [], args := [] }

/-- 'underwoodlaw19.ListRises': WHATEVER THE INPUT: true; the input reads as it did. -/
def listRisesSpec : ChangeSpec := { name := "listRises", fn := fun _ => fun
  | [d] => { results := [.lit (.bool true)], args := [d] }
  | _ => none }
def listRisesRow : OpenClaim := { program := "ytefagncaepallaa", sum := "65799ad6f3d962d9de09dbd27e7183047705201e43cba95833a65b3aa91e5d95", func := "underwood/underwoodlaw19.ListRises", spec := "listRises", unfollowed := true, recurses := true, apart := false }
def ListRisesSaid : Prop := listRisesRow.holds Try.pinned (OpenSpec.ofChange listRisesSpec)

/-- ITS FALSE NEIGHBOUR: 'it returns false'. Refute it at one input. -/
def listRisesWrong : ChangeSpec := { name := "listRises", fn := fun _ => fun
  | [d] => { results := [.lit (.bool false)], args := [d] }
  | _ => none }
def ListRisesWrongFalsely : Prop := listRisesRow.holds Try.pinned (OpenSpec.ofChange listRisesWrong)

/-- 'underwoodlaw19.ListSafe': WHATEVER THE INPUT: true; the input reads as it did. -/
def listSafeSpec : ChangeSpec := { name := "listSafe", fn := fun _ => fun
  | [d] => { results := [.lit (.bool true)], args := [d] }
  | _ => none }
def listSafeRow : OpenClaim := { program := "ytefagncaepallaa", sum := "65799ad6f3d962d9de09dbd27e7183047705201e43cba95833a65b3aa91e5d95", func := "underwood/underwoodlaw19.ListSafe", spec := "listSafe", unfollowed := true, recurses := true, apart := false }
def ListSafeSaid : Prop := listSafeRow.holds Try.pinned (OpenSpec.ofChange listSafeSpec)

/-- ITS FALSE NEIGHBOUR: 'it returns false'. Refute it at one input. -/
def listSafeWrong : ChangeSpec := { name := "listSafe", fn := fun _ => fun
  | [d] => { results := [.lit (.bool false)], args := [d] }
  | _ => none }
def ListSafeWrongFalsely : Prop := listSafeRow.holds Try.pinned (OpenSpec.ofChange listSafeWrong)

/-- 'underwoodlaw19.ListKept': WHATEVER THE INPUT: true; the input reads as it did. -/
def listKeptSpec : ChangeSpec := { name := "listKept", fn := fun _ => fun
  | [d] => { results := [.lit (.bool true)], args := [d] }
  | _ => none }
def listKeptRow : OpenClaim := { program := "ytefagncaepallaa", sum := "65799ad6f3d962d9de09dbd27e7183047705201e43cba95833a65b3aa91e5d95", func := "underwood/underwoodlaw19.ListKept", spec := "listKept", unfollowed := true, recurses := true, apart := false }
def ListKeptSaid : Prop := listKeptRow.holds Try.pinned (OpenSpec.ofChange listKeptSpec)

/-- ITS FALSE NEIGHBOUR: 'it returns false'. Refute it at one input. -/
def listKeptWrong : ChangeSpec := { name := "listKept", fn := fun _ => fun
  | [d] => { results := [.lit (.bool false)], args := [d] }
  | _ => none }
def ListKeptWrongFalsely : Prop := listKeptRow.holds Try.pinned (OpenSpec.ofChange listKeptWrong)

/-- 'underwoodlaw19.ListAlone': WHATEVER THE INPUT: true; the input reads as it did. -/
def listAloneSpec : ChangeSpec := { name := "listAlone", fn := fun _ => fun
  | [d1, d2] => { results := [.lit (.bool true)], args := [d1, d2] }
  | _ => none }
def listAloneRow : OpenClaim := { program := "ytefagncaepallaa", sum := "65799ad6f3d962d9de09dbd27e7183047705201e43cba95833a65b3aa91e5d95", func := "underwood/underwoodlaw19.ListAlone", spec := "listAlone", unfollowed := true, recurses := true, apart := false }
def ListAloneSaid : Prop := listAloneRow.holds Try.pinned (OpenSpec.ofChange listAloneSpec)

/-- ITS FALSE NEIGHBOUR: 'it returns false'. Refute it at one input. -/
def listAloneWrong : ChangeSpec := { name := "listAlone", fn := fun _ => fun
  | [d1, d2] => { results := [.lit (.bool false)], args := [d1, d2] }
  | _ => none }
def ListAloneWrongFalsely : Prop := listAloneRow.holds Try.pinned (OpenSpec.ofChange listAloneWrong)

/-- 'underwoodlaw19.ListPoints': WHATEVER THE INPUT: true; the input reads as it did. -/
def listPointsSpec : ChangeSpec := { name := "listPoints", fn := fun _ => fun
  | [d] => { results := [.lit (.bool true)], args := [d] }
  | _ => none }
def listPointsRow : OpenClaim := { program := "ytefagncaepallaa", sum := "65799ad6f3d962d9de09dbd27e7183047705201e43cba95833a65b3aa91e5d95", func := "underwood/underwoodlaw19.ListPoints", spec := "listPoints", unfollowed := true, recurses := true, apart := false }
def ListPointsSaid : Prop := listPointsRow.holds Try.pinned (OpenSpec.ofChange listPointsSpec)

/-- ITS FALSE NEIGHBOUR: 'it returns false'. Refute it at one input. -/
def listPointsWrong : ChangeSpec := { name := "listPoints", fn := fun _ => fun
  | [d] => { results := [.lit (.bool false)], args := [d] }
  | _ => none }
def ListPointsWrongFalsely : Prop := listPointsRow.holds Try.pinned (OpenSpec.ofChange listPointsWrong)

/- THE SECOND FORM. 'bulk': how many values and letters a reading holds, each counted each time it is reached (what is shared counts as often as it is met; a slice's spare places count too). A statement '..UptoSaid' is the law's where the arguments, and the package variables that the reading takes, are together of bulk at most 1048576: NARROWER than '..Said'. Prove '..Said' where nothing that the law and all that it calls make is longer than what came in: it says more and counts as full. Else prove '..UptoSaid'. A law counts once. -/
mutual
def uptoBulk {H : Type} : DataW H → Nat
  | .lit (.string bytes) => bytes.length + 1
  | .lit _ => 1
  | .nil => 1
  | .ptr d => uptoBulk d + 1
  | .slice elems spare => uptoBulkAll elems + uptoBulkAll spare + 1
  | .agg parts => uptoBulkAll parts + 1
  | .iface _ d => uptoBulk d + 1
  | .map entries => uptoBulkEntries entries + 1
  | .held _ => 1
def uptoBulkAll {H : Type} : List (DataW H) → Nat
  | [] => 0
  | d :: r => uptoBulk d + uptoBulkAll r
def uptoBulkEntries {H : Type} : List (Lit × DataW H) → Nat
  | [] => 0
  | x :: r => uptoBulkEntry x + uptoBulkEntries r
def uptoBulkEntry {H : Type} : Lit × DataW H → Nat
  | (.string bytes, d) => bytes.length + uptoBulk d + 1
  | (_, d) => uptoBulk d + 1
 end
def uptoSmall : (H : Type) → List (DataW H) → Bool := fun _ ds => decide (uptoBulkAll ds ≤ 1048576)
def OpenSpec.upto (s : _root_.Go.ChangeSpec) : _root_.Go.OpenSpec := { _root_.Go.OpenSpec.ofChange s with cond := some uptoSmall }

/-- 'underwoodlaw19.ListRises', WHERE WHAT IT READS IS OF BULK AT MOST 1048576: true; the input reads as it did. -/
def listRisesUptoRow : OpenClaim := { program := "ytefagncaepallaa", sum := "65799ad6f3d962d9de09dbd27e7183047705201e43cba95833a65b3aa91e5d95", func := "underwood/underwoodlaw19.ListRises", spec := "listRises", unfollowed := true, recurses := true, apart := false, narrowed := true }
def ListRisesUptoSaid : Prop := listRisesUptoRow.holds Try.pinned (OpenSpec.upto listRisesSpec)

/-- 'underwoodlaw19.ListSafe', WHERE WHAT IT READS IS OF BULK AT MOST 1048576: true; the input reads as it did. -/
def listSafeUptoRow : OpenClaim := { program := "ytefagncaepallaa", sum := "65799ad6f3d962d9de09dbd27e7183047705201e43cba95833a65b3aa91e5d95", func := "underwood/underwoodlaw19.ListSafe", spec := "listSafe", unfollowed := true, recurses := true, apart := false, narrowed := true }
def ListSafeUptoSaid : Prop := listSafeUptoRow.holds Try.pinned (OpenSpec.upto listSafeSpec)

/-- 'underwoodlaw19.ListKept', WHERE WHAT IT READS IS OF BULK AT MOST 1048576: true; the input reads as it did. -/
def listKeptUptoRow : OpenClaim := { program := "ytefagncaepallaa", sum := "65799ad6f3d962d9de09dbd27e7183047705201e43cba95833a65b3aa91e5d95", func := "underwood/underwoodlaw19.ListKept", spec := "listKept", unfollowed := true, recurses := true, apart := false, narrowed := true }
def ListKeptUptoSaid : Prop := listKeptUptoRow.holds Try.pinned (OpenSpec.upto listKeptSpec)

/-- 'underwoodlaw19.ListAlone', WHERE WHAT IT READS IS OF BULK AT MOST 1048576: true; the input reads as it did. -/
def listAloneUptoRow : OpenClaim := { program := "ytefagncaepallaa", sum := "65799ad6f3d962d9de09dbd27e7183047705201e43cba95833a65b3aa91e5d95", func := "underwood/underwoodlaw19.ListAlone", spec := "listAlone", unfollowed := true, recurses := true, apart := false, narrowed := true }
def ListAloneUptoSaid : Prop := listAloneUptoRow.holds Try.pinned (OpenSpec.upto listAloneSpec)

/-- 'underwoodlaw19.ListPoints', WHERE WHAT IT READS IS OF BULK AT MOST 1048576: true; the input reads as it did. -/
def listPointsUptoRow : OpenClaim := { program := "ytefagncaepallaa", sum := "65799ad6f3d962d9de09dbd27e7183047705201e43cba95833a65b3aa91e5d95", func := "underwood/underwoodlaw19.ListPoints", spec := "listPoints", unfollowed := true, recurses := true, apart := false, narrowed := true }
def ListPointsUptoSaid : Prop := listPointsUptoRow.holds Try.pinned (OpenSpec.upto listPointsSpec)

end Rows
end Go.Proofs.Ytefagncaepallaa
