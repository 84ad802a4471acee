/- How a row of numbers of 32 bits is opened. -/
import Derived.Test.YtgoijmomglomlaaE13
namespace Go.Proofs.Ytgoijmomglomlaa
open Go.ChangeShapes Go.WideShapes Go.ChangeAt Go.RowKit Go.Deep
set_option maxRecDepth 100000
section
variable {H : Type} {enc : TypeId × Value → H} {w : World} {base : Nat} {spare : Nat → Bool} {held : Bool} {v : Value} {r : Reach} {b0 : Nat}
theorem arg_u32s (hv : Value.okWide Try.prog w r b0 67 v) (h : Read enc Try.prog w base spare held 67 v.cells.toList) : ∃ l : List Int, (∀ x ∈ l, 0 ≤ x ∧ x ≤ 4294967295) ∧ DRep (envA w) v (d32s l) := by
  obtain ⟨a, len, cap, rfl⟩ := okWide_slice Try.underlying67 hv
  obtain ⟨l, h1, h2, h3, h4⟩ := read_sl (e := 69) (sz := 1) (fun x : Int => [p32 x]) (fun x => 0 ≤ x ∧ x ≤ 4294967295) (by decide) (fun _ => rfl) Try.underlying67 (by kernel_rfl) (fun cs hlen hr => by
    obtain ⟨n, e, hn⟩ := read_u32 Try.underlying69 hr
    subst e
    exact ⟨n, hn, PReps.int (PReps.nil _)⟩) (v := .slice a len cap) h
  refine ⟨l, h1, .p ?_⟩
  rw [map_flat]; exact h3
end
end Go.Proofs.Ytgoijmomglomlaa
