/- Orders that explain, by the document: their walk. -/
import Derived.Test.YtdmnjoidfjidbaaGreatE18
import Derived.Test.YtdmnjoidfjidbaaGreatE20
namespace Go.Proofs.YtdmnjoidfjidbaaGreat
open Go.RowKit
set_option maxRecDepth 100000

theorem calls_idx {l : List CallT} {i : Int} {x : CallT} (h : l[i.toNat]? = some x) : ∀ (m : Nat) q, [pI x.who, pI x.op.kind, pI x.op.obj, pI x.op.a, pI x.op.b, pI x.val, pB x.is, pI x.first, pI x.last, pI x.point][m]? = some q → (pCalls l)[i.toNat * 10 + m]? = some q := flat_idx (f := pCall) (k := 10) (fun _ => rfl) h
theorem stkDo_len (vs : List Int) (o : OpT) : (stkDo vs o).1.length ≤ vs.length + 1 := by
  unfold stkDo
  split
  · simp
  · cases vs <;> simp
    omega
end Go.Proofs.YtdmnjoidfjidbaaGreat
