/- No cell of a free node is touched: the law's walk. -/
import Derived.Test.YtpecgpmdchejdaaE10
import Derived.Test.YtpecgpmdchejdaaM12
namespace Go.Proofs.Ytpecgpmdchejdaa
open Go.RowKit
set_option maxRecDepth 100000

theorem few_playB {p : PlayT} (hf : PlayFits p) (h : fewF p = true) : PlayB p :=
  ⟨few_play hf h, fun ws hw o ho => by have := ((hf.ws ws hw).2 o ho).2.2.1.2; omega⟩
def memZ (m0 : List Int) (steps : List StepT) (i : Nat) : List Int := (steps.take i).foldl memS m0
theorem memZ_next (m0 : List Int) {steps : List StepT} {i : Nat} {s : StepT} (h : steps[i]? = some s) : memZ m0 steps (i + 1) = memS (memZ m0 steps i) s := by
  unfold memZ
  rw [List.take_add_one, h]
  simp [List.foldl_append]
end Go.Proofs.Ytpecgpmdchejdaa
