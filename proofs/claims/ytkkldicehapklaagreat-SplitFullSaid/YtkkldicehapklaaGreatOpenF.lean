/- How the arguments of this seat's laws are opened. -/
import Derived.Test.YtkkldicehapklaaGreatEA
import Derived.Test.YtkkldicehapklaaGreatShort
namespace Go.Proofs.YtkkldicehapklaaGreat
open Go.ChangeShapes Go.WideShapes Go.ChangeAt Go.RowKit Go.Deep
set_option maxRecDepth 100000
def i64B (n : Int) : Prop := -9223372036854775808 ≤ n ∧ n ≤ 9223372036854775807
section
variable {H : Type} {enc : TypeId × Value → H} {w : World} {base : Nat} {spare : Nat → Bool} {held : Bool} {v : Value} {r : Reach} {b0 : Nat}
def OpT.Fits (o : OpT) : Prop := i64B o.kind ∧ i64B o.obj ∧ i64B o.a ∧ i64B o.b
theorem rd_op (cs : List Value) (hl : cs.length = 4) (h : Read enc Tryz.prog w base spare held 62 cs) : ∃ o : OpT, o.Fits ∧ PReps (envA w) cs (pOp o) := by
 match cs, hl with
 | [c0, c1, c2, c3], _ =>
  obtain ⟨x0, e0, w0⟩ := jW6 Tryz.underlying3 (jO1 (i := 0) (ft := 3) (off := 0) (sz := 1) (by kernel_rfl) h)
  obtain ⟨x1, e1, w1⟩ := jW6 Tryz.underlying3 (jO1 (i := 1) (ft := 3) (off := 1) (sz := 1) (by kernel_rfl) h)
  obtain ⟨x2, e2, w2⟩ := jW6 Tryz.underlying3 (jO1 (i := 2) (ft := 3) (off := 2) (sz := 1) (by kernel_rfl) h)
  obtain ⟨x3, e3, w3⟩ := jW6 Tryz.underlying3 (jO1 (i := 3) (ft := 3) (off := 3) (sz := 1) (by kernel_rfl) h)
  simp at e0 e1 e2 e3
  subst e0 e1 e2 e3
  exact ⟨⟨x0, x1, x2, x3⟩, ⟨w0, w1, w2, w3⟩, PReps.int (PReps.int (PReps.int (PReps.int (PReps.nil _))))⟩
theorem rd_ops {v : Value} (h : Read enc Tryz.prog w base spare held 41 [v]) : ∃ l : List OpT, (∀ x ∈ l, x.Fits) ∧ l.length ≤ maxLen ∧ PRep (envA w) v (jS8 l) ∧ jA2 v = true :=
 read_sl (e := 62) (sz := 4) pOp OpT.Fits (by decide) (fun _ => rfl) Tryz.underlying41 (by kernel_rfl) (fun cs hlen hr => rd_op cs hlen hr) h
theorem arg_ops (hv : Value.okWide Tryz.prog w r b0 41 v) (h : Read enc Tryz.prog w base spare held 41 v.cells.toList) : ∃ l : List OpT, l.length ≤ 9223372036854775807 ∧ (∀ x ∈ l, x.Fits) ∧ DRep (envA w) v (dOps l) := by
 obtain ⟨a, len, cap, rfl⟩ := okWide_slice Tryz.underlying41 hv
 obtain ⟨l, h1, h2, h3, h4⟩ := rd_ops (v := .slice a len cap) h
 exact ⟨l, h2, h1, .p h3⟩
end
end Go.Proofs.YtkkldicehapklaaGreat
