/- Numbers as arguments. -/
import Derived.Test.YtkkldicehapklaaGreatShort
namespace Go.Proofs.YtkkldicehapklaaGreat
open Go.ChangeShapes Go.WideShapes Go.ChangeAt Go.RowKit Go.Deep
section
variable {H : Type} {enc : TypeId × Value → H} {P : Program} {w : World} {base : Nat} {spare : Nat → Bool} {held : Bool} {v : Value} {r : Reach} {b0 : Nat}
theorem arg_u8 {t : TypeId} (ht : P.underlying t = some (.int .u8)) (hv : Value.okWide P w r b0 t v) (h : Read enc P w base spare held t v.cells.toList) : ∃ n : Int, (0 ≤ n ∧ n ≤ 255) ∧ DRep (envA w) v (dK .u8 n) := by
  obtain ⟨n, rfl⟩ := okWide_int ht hv
  obtain ⟨m, e, hm⟩ := read_u8 ht h
  cases e
  exact ⟨_, hm, .p (.raw _)⟩
theorem arg_u16 {t : TypeId} (ht : P.underlying t = some (.int .u16)) (hv : Value.okWide P w r b0 t v) (h : Read enc P w base spare held t v.cells.toList) : ∃ n : Int, (0 ≤ n ∧ n ≤ 65535) ∧ DRep (envA w) v (dK .u16 n) := by
  obtain ⟨n, rfl⟩ := okWide_int ht hv
  obtain ⟨m, e, hm⟩ := read_u16 ht h
  cases e
  exact ⟨_, hm, .p (.raw _)⟩
end
end Go.Proofs.YtkkldicehapklaaGreat
