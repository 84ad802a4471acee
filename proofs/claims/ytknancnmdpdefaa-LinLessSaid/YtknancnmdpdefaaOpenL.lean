/- How calls are opened as arguments. -/
import Derived.Test.YtknancnmdpdefaaOpenK
import Derived.Test.YtknancnmdpdefaaL1
namespace Go.Proofs.Ytknancnmdpdefaa
open Go.ChangeShapes Go.WideShapes Go.ChangeAt Go.RowKit Go.Deep
section
variable {H : Type} {enc : TypeId × Value → H} {w : World} {base : Nat} {spare : Nat → Bool} {held : Bool} {v : Value} {r : Reach} {b0 : Nat}
def CallT.Fits (x : CallT) : Prop := i64B x.first ∧ i64B x.last
theorem rd_call (cs : List Value) (hl : cs.length = 10) (h : Read enc Try.prog w base spare held 50 cs) : ∃ x : CallT, x.Fits ∧ PReps (envA w) cs (pCall x) := by
  match cs, hl with
  | [c0, c1, c2, c3, c4, c5, c6, c7, c8, c9], _ =>
    obtain ⟨x0, e0, w0⟩ := read_i64 Try.underlying3 (read_field (i := 0) (ft := 3) (off := 0) (sz := 1) (by kernel_rfl) h)
    obtain ⟨o, eo, wo⟩ := open_op (cs := [c1, c2, c3, c4]) rfl (read_field (i := 1) (ft := 26) (off := 1) (sz := 4) (by kernel_rfl) h)
    obtain ⟨x2, e2, w2⟩ := read_i64 Try.underlying3 (read_field (i := 2) (ft := 3) (off := 5) (sz := 1) (by kernel_rfl) h)
    obtain ⟨x3, e3⟩ := read_bool Try.underlying4 (read_field (i := 3) (ft := 4) (off := 6) (sz := 1) (by kernel_rfl) h)
    obtain ⟨x4, e4, w4⟩ := read_i64 Try.underlying3 (read_field (i := 4) (ft := 3) (off := 7) (sz := 1) (by kernel_rfl) h)
    obtain ⟨x5, e5, w5⟩ := read_i64 Try.underlying3 (read_field (i := 5) (ft := 3) (off := 8) (sz := 1) (by kernel_rfl) h)
    obtain ⟨x6, e6, w6⟩ := read_i64 Try.underlying3 (read_field (i := 6) (ft := 3) (off := 9) (sz := 1) (by kernel_rfl) h)
    simp at e0 eo e2 e3 e4 e5 e6
    obtain ⟨rfl, rfl, rfl, rfl⟩ := eo
    subst e0 e2 e3 e4 e5 e6
    exact ⟨⟨x0, o, x2, x3, x4, x5, x6⟩, ⟨w4, w5⟩, PReps.int (PReps.int (PReps.int (PReps.int (PReps.int (PReps.int (PReps.bool (PReps.int (PReps.int (PReps.int (PReps.nil _))))))))))⟩
theorem arg_calls (hv : Value.okWide Try.prog w r b0 47 v) (h : Read enc Try.prog w base spare held 47 v.cells.toList) : ∃ l : List CallT, (∀ x ∈ l, x.Fits) ∧ l.length ≤ maxLen ∧ DRep (envA w) v (dCalls l) := by
  obtain ⟨a, len, cap, rfl⟩ := okWide_slice Try.underlying47 hv
  obtain ⟨l, h1, h2, h3, _⟩ := read_sl (e := 50) (sz := 10) pCall CallT.Fits (by decide) (fun _ => rfl) Try.underlying47 (by kernel_rfl) (fun cs hlen hr => rd_call cs hlen hr) h
  exact ⟨l, h1, h2, .p h3⟩
end
end Go.Proofs.Ytknancnmdpdefaa
