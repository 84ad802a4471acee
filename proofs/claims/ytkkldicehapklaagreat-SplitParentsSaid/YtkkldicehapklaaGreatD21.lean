/- A new memory; the document's layouts: their walks. -/
import Derived.Test.YtkkldicehapklaaGreatD19
namespace Go.Proofs.YtkkldicehapklaaGreat
open Go.RowKit
set_option maxRecDepth 100000

theorem refat_c (n : Int) (b : Bool) : PureC Tryz.prog 102 [dI n, dB b] (dI (if b then n else -1)) := by
  refine pure_fin tabOk Tryz.func102 rfl Tryz.ntmps102 rfl rfl rfl fun w cl => ?_
  refine go ?_
  cases b
  · refine go ?_
    first | refine fin_ret rfl ?_ | refine fin_normal rfl ?_
    rfl
  · refine go ?_
    first | refine fin_ret rfl ?_ | refine fin_normal rfl ?_
    rfl
theorem refin_c (n a b : Int) : PureC Tryz.prog 34 [dI n, dI a, dI b] (dB (decide (a ≤ n) && decide (n ≤ b))) := by
  refine pure_fin tabOk Tryz.func34 rfl Tryz.ntmps34 rfl rfl rfl fun w cl => ?_
  refine go ?_
  generalize h1 : decide (a ≤ n) = cc; cases cc
  · refine go ?_
    first | refine fin_ret rfl ?_ | refine fin_normal rfl ?_
    rfl
  · refine go ?_
    first | refine fin_ret rfl ?_ | refine fin_normal rfl ?_
    rfl
theorem memNew_c (n : Nat) (hn : n ≤ 100000) : PureC Tryz.prog 51 [dI n] (dMem (List.replicate n 0)) := by
  refine pure_fin tabOk Tryz.func51 rfl Tryz.ntmps51 rfl rfl rfl fun w cl => ?_
  refine go ?_
  refine a_b (makeA_step tabOk 1 (c := n) rfl rfl rfl rfl rfl rfl rfl rfl rfl (by show _ * 8 ≤ _; omega) (by unfold maxLen; omega)) rfl rfl rfl rfl ?_
  refine aops_ghost (freeze_ghost 4 1 (pInts (List.replicate n 0)) rfl rfl rfl rfl (by simp) (Nat.le_refl _) (by rw [pInts_len]; simp) (by rw [List.take_of_length_le (by simp)]; simp [pInts]; exact .inr rfl) (by unfold maxLen; omega) (ints_lf _)) ?_
  refine go ?_
  first | refine fin_ret rfl ?_ | refine fin_normal rfl ?_
  simp only [dMem, dInts, List.length_replicate]
end Go.Proofs.YtkkldicehapklaaGreat
