/- How a row of bytes is opened. -/
import Derived.Test.YtefagncaepallaaE13
import Derived.Test.YtefagncaepallaaOpen21
namespace Go.Proofs.Ytefagncaepallaa
open Go.ChangeShapes Go.WideShapes Go.ChangeAt Go.RowKit Go.Deep
set_option maxRecDepth 100000
section
variable {H : Type} {enc : TypeId × Value → H} {w : World} {base : Nat} {spare : Nat → Bool} {held : Bool} {v : Value} {r : Reach} {b0 : Nat}
theorem arg_u8s (hv : Value.okWide Try.prog w r b0 23 v) (h : Read enc Try.prog w base spare held 23 v.cells.toList) : ∃ l : List Int, (∀ x ∈ l, 0 ≤ x ∧ x ≤ 255) ∧ DRep (envA w) v (dTurns l) := by
  obtain ⟨a, len, cap, rfl⟩ := okWide_slice Try.underlying23 hv
  obtain ⟨l, h1, h2, h3, h4⟩ := rd_u8s (v := .slice a len cap) h
  exact ⟨l, h1, .p h3⟩
end
end Go.Proofs.Ytefagncaepallaa
