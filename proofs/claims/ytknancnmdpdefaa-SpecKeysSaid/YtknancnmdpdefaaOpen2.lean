/- How slices and numbers that came in as arguments are opened. -/
import Derived.Test.YtknancnmdpdefaaOpen
namespace Go.Proofs.Ytknancnmdpdefaa
open Go.ChangeShapes Go.WideShapes Go.ChangeAt Go.RowKit Go.Deep
section
variable {H : Type} {enc : TypeId × Value → H} {w : World} {base : Nat} {spare : Nat → Bool} {held : Bool} {v : Value} {r : Reach} {b0 : Nat}

theorem open_opsIn (hv : Value.okWide Try.prog w r b0 33 v) (r0 : Read enc Try.prog w base spare held 33 v.cells.toList) : ∃ (A : Option Addr) (l : List OpT) (cap : Nat), v = .slice A l.length cap ∧ l.length ≤ cap ∧ cap ≤ maxLen ∧ (A = none → cap = 0) ∧ (∀ x ∈ l, x.Fits) ∧ RowIn opsT w A l := by
  obtain ⟨a, len, cap, rfl⟩ := okWide_slice Try.underlying33 hv
  exact open_ops r0
theorem open_intsIn (hv : Value.okWide Try.prog w r b0 22 v) (r0 : Read enc Try.prog w base spare held 22 v.cells.toList) : ∃ (A : Option Addr) (l : List Int) (cap : Nat), v = .slice A l.length cap ∧ l.length ≤ cap ∧ cap ≤ maxLen ∧ (A = none → cap = 0) ∧ (∀ x ∈ l, i64B x) ∧ RowIn ints w A l := by
  obtain ⟨a, len, cap, rfl⟩ := okWide_slice Try.underlying22 hv
  exact open_ints r0
theorem open_i64In (hv : Value.okWide Try.prog w r b0 3 v) (r0 : Read enc Try.prog w base spare held 3 v.cells.toList) : ∃ n : Int, v = .int .i64 n ∧ i64B n := by
  obtain ⟨n, rfl⟩ := okWide_int Try.underlying3 hv
  obtain ⟨m, e, hm⟩ := read_i64 Try.underlying3 r0
  simp [Value.cells] at e
  subst e
  exact ⟨n, rfl, hm⟩
end
end Go.Proofs.Ytknancnmdpdefaa
