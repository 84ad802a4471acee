/- How the arguments of this seat's laws are opened. -/
import Derived.Test.YtknancnmdpdefaaA5
import Derived.Test.YtknancnmdpdefaaOpenD
namespace Go.Proofs.Ytknancnmdpdefaa
open Go.ChangeShapes Go.WideShapes Go.ChangeAt Go.RowKit Go.Deep
theorem pInts_flat : ∀ l : List Int, pInts l = l.flatMap fun x => [pI x]
  | [] => rfl
  | x :: l => by
    have := pInts_flat l
    unfold pInts at this ⊢
    rw [List.map_cons, List.flatMap_cons, this]; rfl
section
variable {H : Type} {enc : TypeId × Value → H} {w : World} {base : Nat} {spare : Nat → Bool} {held : Bool} {v : Value} {r : Reach} {b0 : Nat}

theorem open_op {cs : List Value} (hl : cs.length = 4) (h : Read enc Try.prog w base spare held 26 cs) : ∃ o : OpT, cs = [.int .i64 o.kind, .int .i64 o.obj, .int .i64 o.a, .int .i64 o.b] ∧ o.Fits := by
  match cs, hl with
  | [c0, c1, c2, c3], _ =>
    obtain ⟨x0, e0, w0⟩ := read_i64 Try.underlying3 (read_field (i := 0) (ft := 3) (off := 0) (sz := 1) (by kernel_rfl) h)
    obtain ⟨x1, e1, w1⟩ := read_i64 Try.underlying3 (read_field (i := 1) (ft := 3) (off := 1) (sz := 1) (by kernel_rfl) h)
    obtain ⟨x2, e2, w2⟩ := read_i64 Try.underlying3 (read_field (i := 2) (ft := 3) (off := 2) (sz := 1) (by kernel_rfl) h)
    obtain ⟨x3, e3, w3⟩ := read_i64 Try.underlying3 (read_field (i := 3) (ft := 3) (off := 3) (sz := 1) (by kernel_rfl) h)
    simp at e0 e1 e2 e3
    subst e0 e1 e2 e3
    exact ⟨⟨x0, x1, x2, x3⟩, rfl, w0, w1, w2, w3⟩
theorem rd_op (cs : List Value) (hl : cs.length = 4) (h : Read enc Try.prog w base spare held 26 cs) : ∃ o : OpT, o.Fits ∧ PReps (envA w) cs (pOp o) := by
  obtain ⟨o, rfl, ho⟩ := open_op hl h
  exact ⟨o, ho, PReps.int (PReps.int (PReps.int (PReps.int (PReps.nil _))))⟩
theorem rd_ints {v : Value} (h : Read enc Try.prog w base spare held 22 [v]) : ∃ l : List Int, (∀ x ∈ l, i64B x) ∧ l.length ≤ maxLen ∧ PRep (envA w) v (.sl false l.length (pInts l)) ∧ leafV v = true := by
  obtain ⟨l, h1, h2, h3, h4⟩ := read_sl (e := 3) (sz := 1) (fun x : Int => [pI x]) i64B (by decide) (fun _ => rfl) Try.underlying22 (by kernel_rfl) (fun cs hlen hr => by
    obtain ⟨n, e, hn⟩ := read_i64 Try.underlying3 hr
    subst e
    exact ⟨n, hn, PReps.int (PReps.nil _)⟩) h
  refine ⟨l, h1, h2, ?_, h4⟩
  rw [pInts_flat]; exact h3
theorem rd_ops {v : Value} (h : Read enc Try.prog w base spare held 33 [v]) : ∃ l : List OpT, (∀ x ∈ l, x.Fits) ∧ l.length ≤ maxLen ∧ PRep (envA w) v (.sl false l.length (pOps l)) ∧ leafV v = true :=
  read_sl (e := 26) (sz := 4) pOp OpT.Fits (by decide) (fun _ => rfl) Try.underlying33 (by kernel_rfl) (fun cs hlen hr => rd_op cs hlen hr) h
def Cont.Fits (c : Cont) : Prop := i64B c.kind ∧ (∀ x ∈ c.keys, i64B x) ∧ (∀ x ∈ c.vals, i64B x)
def pCont (c : Cont) : List Pl := [pI c.kind, .sl false c.keys.length (pInts c.keys), .sl false c.vals.length (pInts c.vals)]
theorem rd_cont (cs : List Value) (hl : cs.length = 3) (h : Read enc Try.prog w base spare held 24 cs) : ∃ c : Cont, c.Fits ∧ PReps (envA w) cs (pCont c) := by
  match cs, hl with
  | [c0, c1, c2], _ =>
    obtain ⟨x0, e0, w0⟩ := read_i64 Try.underlying3 (read_field (i := 0) (ft := 3) (off := 0) (sz := 1) (by kernel_rfl) h)
    obtain ⟨l1, h1, _, h3, h4⟩ := rd_ints (v := c1) (read_field (i := 1) (ft := 22) (off := 1) (sz := 1) (by kernel_rfl) h)
    obtain ⟨l2, g1, _, g3, g4⟩ := rd_ints (v := c2) (read_field (i := 2) (ft := 22) (off := 2) (sz := 1) (by kernel_rfl) h)
    simp at e0
    subst e0
    exact ⟨⟨x0, l1, l2⟩, ⟨w0, h1, g1⟩, PReps.int (PReps.cons h3 h4 (PReps.cons g3 g4 (PReps.nil _)))⟩
theorem arg_cont (hv : Value.okWide Try.prog w r b0 24 v) (h : Read enc Try.prog w base spare held 24 v.cells.toList) : ∃ c : Cont, c.Fits ∧ DRep (envA w) v (dCont c) :=
  arg_agg pCont Cont.Fits Try.underlying24 hv h fun cs hl => rd_cont cs (hl.trans (show Try.prog.cellsOf 24 = 3 by kernel_rfl))
theorem arg_op (hv : Value.okWide Try.prog w r b0 26 v) (h : Read enc Try.prog w base spare held 26 v.cells.toList) : ∃ o : OpT, o.Fits ∧ DRep (envA w) v (dOp o) :=
  arg_agg pOp OpT.Fits Try.underlying26 hv h fun cs hl => rd_op cs (hl.trans (show Try.prog.cellsOf 26 = 4 by kernel_rfl))
theorem arg_ints (hv : Value.okWide Try.prog w r b0 22 v) (h : Read enc Try.prog w base spare held 22 v.cells.toList) : ∃ l : List Int, (∀ x ∈ l, i64B x) ∧ l.length ≤ maxLen ∧ DRep (envA w) v (dInts l) := by
  obtain ⟨a, len, cap, rfl⟩ := okWide_slice Try.underlying22 hv
  obtain ⟨l, h1, h2, h3, _⟩ := rd_ints (v := .slice a len cap) h
  exact ⟨l, h1, h2, .p h3⟩
end
end Go.Proofs.Ytknancnmdpdefaa
