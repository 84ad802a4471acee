/- A new memory; the document's layouts: their walks. -/
import Derived.Test.YtkkldicehapklaaGreatD19
namespace Go.Proofs.YtkkldicehapklaaGreat
open Go.RowKit
set_option maxRecDepth 100000
theorem jW3 (n : Int) (b : Bool) : kA Tryz.prog 102 [dI n, dB b] (dI (if b then n else -1)) := by
 refine jO jB Tryz.func102 rfl Tryz.ntmps102 rfl rfl rfl fun w cl => ?_
 refine go ?_
 cases b
 ·refine go ?_
  first | refine jF rfl ?_ | refine jC rfl ?_
  rfl
 ·refine go ?_
  first | refine jF rfl ?_ | refine jC rfl ?_
  rfl
theorem jF8 (n a b : Int) : kA Tryz.prog 34 [dI n, dI a, dI b] (dB (decide (a ≤ n) && decide (n ≤ b))) := by
 refine jO jB Tryz.func34 rfl Tryz.ntmps34 rfl rfl rfl fun w cl => ?_
 refine go ?_
 generalize h1 : decide (a ≤ n) = cc; cases cc
 ·refine go ?_
  first | refine jF rfl ?_ | refine jC rfl ?_
  rfl
 ·refine go ?_
  first | refine jF rfl ?_ | refine jC rfl ?_
  rfl
theorem memNew_c (n : Nat) (hn : n ≤ 100000) : kA Tryz.prog 51 [dI n] (jM4 (List.replicate n 0)) := by
 refine jO jB Tryz.func51 rfl Tryz.ntmps51 rfl rfl rfl fun w cl => ?_
 refine go ?_
 refine a_b (kH9 jB 1 (c := n) rfl rfl rfl rfl rfl rfl rfl rfl rfl (by show _ * 8 ≤ _; omega) (by unfold maxLen; omega)) rfl rfl rfl rfl ?_
 refine qW (jO7 4 1 (kD (List.replicate n 0)) rfl rfl rfl rfl (by simp) (Nat.le_refl _) (by rw [jG1]; simp) (by rw [List.take_of_length_le (by simp)]; simp [kD]; exact .inr rfl) (by unfold maxLen; omega) (ints_lf _)) ?_
 refine go ?_
 first | refine jF rfl ?_ | refine jC rfl ?_
 simp only [jM4, kK, List.length_replicate]
end Go.Proofs.YtkkldicehapklaaGreat
