/- How the arguments of this seat's laws are opened. -/
import Derived.Test.YtdmnjoidfjidbaaE12
import Derived.Test.YtdmnjoidfjidbaaShort
namespace Go.Proofs.Ytdmnjoidfjidbaa
open Go.ChangeShapes Go.WideShapes Go.ChangeAt Go.RowKit Go.Deep
set_option maxRecDepth 100000
def i64B (n : Int) : Prop := -9223372036854775808 ≤ n ∧ n ≤ 9223372036854775807
section
variable {H : Type} {enc : TypeId × Value → H} {w : World} {base : Nat} {spare : Nat → Bool} {held : Bool} {v : Value} {r : Reach} {b0 : Nat}
def OpT.Fits (o : OpT) : Prop := i64B o.kind ∧ i64B o.obj ∧ i64B o.a ∧ i64B o.b
theorem rd_op (cs : List Value) (hl : cs.length = 4) (h : Read enc Try.prog w base spare held 52 cs) : ∃ o : OpT, o.Fits ∧ PReps (envA w) cs (pOp o) := by
  match cs, hl with
  | [c0, c1, c2, c3], _ =>
    obtain ⟨x0, e0, w0⟩ := read_i64 Try.underlying3 (read_field (i := 0) (ft := 3) (off := 0) (sz := 1) (by kernel_rfl) h)
    obtain ⟨x1, e1, w1⟩ := read_i64 Try.underlying3 (read_field (i := 1) (ft := 3) (off := 1) (sz := 1) (by kernel_rfl) h)
    obtain ⟨x2, e2, w2⟩ := read_i64 Try.underlying3 (read_field (i := 2) (ft := 3) (off := 2) (sz := 1) (by kernel_rfl) h)
    obtain ⟨x3, e3, w3⟩ := read_i64 Try.underlying3 (read_field (i := 3) (ft := 3) (off := 3) (sz := 1) (by kernel_rfl) h)
    simp at e0 e1 e2 e3
    subst e0 e1 e2 e3
    exact ⟨⟨x0, x1, x2, x3⟩, ⟨w0, w1, w2, w3⟩, PReps.int (PReps.int (PReps.int (PReps.int (PReps.nil _))))⟩
theorem rd_ops {v : Value} (h : Read enc Try.prog w base spare held 38 [v]) : ∃ l : List OpT, (∀ x ∈ l, x.Fits) ∧ l.length ≤ maxLen ∧ PRep (envA w) v (plOps l) ∧ leafV v = true :=
  read_sl (e := 52) (sz := 4) pOp OpT.Fits (by decide) (fun _ => rfl) Try.underlying38 (by kernel_rfl) (fun cs hlen hr => rd_op cs hlen hr) h
theorem arg_ops (hv : Value.okWide Try.prog w r b0 38 v) (h : Read enc Try.prog w base spare held 38 v.cells.toList) : ∃ l : List OpT, l.length ≤ 9223372036854775807 ∧ DRep (envA w) v (dOps l) := by
  obtain ⟨a, len, cap, rfl⟩ := okWide_slice Try.underlying38 hv
  obtain ⟨l, h1, h2, h3, h4⟩ := rd_ops (v := .slice a len cap) h
  exact ⟨l, h2, .p h3⟩
structure FourT where
  v : Int
  a : Int
  b : Int
  c : Int
def FourT.Fits (x : FourT) : Prop := (0 ≤ x.v ∧ x.v ≤ 4294967295) ∧ (0 ≤ x.a ∧ x.a ≤ 4294967295) ∧ (0 ≤ x.b ∧ x.b ≤ 4294967295) ∧ (0 ≤ x.c ∧ x.c ≤ 4294967295)
def pFour (x : FourT) : List Pl := [.raw (.int .u32 x.v), .raw (.int .u32 x.a), .raw (.int .u32 x.b), .raw (.int .u32 x.c)]
theorem arg_four (hv : Value.okWide Try.prog w r b0 57 v) (h : Read enc Try.prog w base spare held 57 v.cells.toList) : ∃ x : FourT, x.Fits ∧ DRep (envA w) v (.agg [dK .u32 x.v, dK .u32 x.a, dK .u32 x.b, dK .u32 x.c]) :=
  arg_agg pFour FourT.Fits Try.underlying57 hv h fun cs hl hr => by
    match cs, hl.trans (show Try.prog.cellsOf 57 = 4 by kernel_rfl) with
    | [c0, c1, c2, c3], _ =>
      obtain ⟨x0, e0, w0⟩ := read_u32 Try.underlying55 (read_field (i := 0) (ft := 55) (off := 0) (sz := 1) (by kernel_rfl) hr)
      obtain ⟨x1, e1, w1⟩ := read_u32 Try.underlying55 (read_field (i := 1) (ft := 55) (off := 1) (sz := 1) (by kernel_rfl) hr)
      obtain ⟨x2, e2, w2⟩ := read_u32 Try.underlying55 (read_field (i := 2) (ft := 55) (off := 2) (sz := 1) (by kernel_rfl) hr)
      obtain ⟨x3, e3, w3⟩ := read_u32 Try.underlying55 (read_field (i := 3) (ft := 55) (off := 3) (sz := 1) (by kernel_rfl) hr)
      simp at e0 e1 e2 e3
      subst e0 e1 e2 e3
      exact ⟨⟨x0, x1, x2, x3⟩, ⟨w0, w1, w2, w3⟩, PReps.int (PReps.int (PReps.int (PReps.int (PReps.nil _))))⟩
end
end Go.Proofs.Ytdmnjoidfjidbaa
