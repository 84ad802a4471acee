/- No cell of a free node is touched: the law's walk. -/
import Derived.Test.YtefagncaepallaaE8
import Derived.Test.YtefagncaepallaaPB
import Derived.Test.YtefagncaepallaaOpen21
namespace Go.Proofs.Ytefagncaepallaa
open Go.RowKit
set_option maxRecDepth 100000

theorem few_play {p : PlayT} (hf : PlayFits p) (h : fewF p = true) : PlayG p := by
  unfold fewF at h
  simp only [Bool.and_eq_true, decide_eq_true_eq, List.all_eq_true, okOps] at h
  obtain ⟨⟨⟨h1, h2⟩, h3⟩, h4⟩ := h
  refine ⟨⟨h1, h2, h3, hf.n.1, hf.ts, fun w hw => (h4 w hw).1⟩, fun ws hw o ho => ?_, fun ws hw o ho => ?_⟩
  · have := (h4 ws hw).2 o ho
    simp only [okOp, Bool.and_eq_true, decide_eq_true_eq] at this
    omega
  · have := (hf.ws ws hw).2 o ho
    obtain ⟨_, _, k1, k2⟩ := this
    unfold i64B at k1 k2
    omega
abbrev intsC (l : List Int) : List Dt := l.map dI
theorem intsC_plain (l : List Int) : PlainC (intsC l) := by
  intro B G
  induction l with
  | nil => rfl
  | cons a l ih => exact ih
theorem intsC_get {l : List Int} {i : Int} (h0 : 0 ≤ i) (h1 : i < l.length) : (intsC l)[i.toNat]? = some (dI (cellAt l i)) := by
  have : i.toNat < l.length := by omega
  simp [intsC, cellAt, this]
theorem intsC_set (l : List Int) (i : Nat) (v : Int) : (intsC l).set i (dI v) = intsC (l.set i v) := by simp [intsC]
theorem intsC_zero (n : Nat) : List.replicate n (constLeaf (.int .i64 0)) = intsC (List.replicate n 0) := by simp [intsC]; exact .inr rfl
def memZ (m0 : List Int) (steps : List StepT) (i : Nat) : List Int := (steps.take i).foldl memS m0
theorem memZ_next (m0 : List Int) {steps : List StepT} {i : Nat} {s : StepT} (h : steps[i]? = some s) : memZ m0 steps (i + 1) = memS (memZ m0 steps i) s := by
  unfold memZ
  rw [List.take_add_one, h]
  simp [List.foldl_append]
end Go.Proofs.Ytefagncaepallaa
