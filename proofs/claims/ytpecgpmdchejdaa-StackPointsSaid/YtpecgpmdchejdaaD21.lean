/- A new memory; the document's layouts: their walks. -/
import Derived.Test.YtpecgpmdchejdaaD20
namespace Go.Proofs.Ytpecgpmdchejdaa
open Go.RowKit
set_option maxRecDepth 100000

theorem memNew_c (n : Nat) (hn : n ≤ 100000) : PureC Try.prog 39 [dI n] (dMem (List.replicate n 0)) := by
  refine pure_fin tabOk Try.func39 rfl Try.ntmps39 rfl rfl rfl fun w cl => ?_
  repeat (first | refine zA ?_ | refine zB ?_ | refine zC ?_ | refine zD ?_ | refine zE ?_ | refine zF ?_ | refine zG ?_ | refine zH ?_ | refine zI ?_ | refine zJ ?_ | refine zK ?_ | refine zL ?_ | refine zT ?_ | refine zU ?_ | refine zV ?_ | refine zW ?_ | refine zM ?_ | refine zN ?_ | refine zO ?_ | refine zP ?_ | refine zQ ?_ | refine zR ?_ | refine zS ?_ | refine z0 ?_ | refine z1 ?_ | refine z2 ?_ | refine z3 ?_ | refine z4 ?_ | refine z5 ?_ | refine z6 ?_ | refine z7 ?_ | refine z8 ?_ | refine z9 ?_)
  refine a_b (makeA_step tabOk 1 (c := n) rfl rfl rfl rfl rfl rfl rfl rfl rfl (by show _ * 8 ≤ _; omega) (by unfold maxLen; omega)) rfl rfl rfl rfl ?_
  refine aops_ghost (freeze_ghost 4 1 (pInts (List.replicate n 0)) rfl rfl rfl rfl (by simp) (Nat.le_refl _) (by rw [pInts_len]; simp) (by rw [List.take_of_length_le (by simp)]; simp [pInts]; exact .inr rfl) (by unfold maxLen; omega) (ints_lf _)) ?_
  repeat (first | refine zA ?_ | refine zB ?_ | refine zC ?_ | refine zD ?_ | refine zE ?_ | refine zF ?_ | refine zG ?_ | refine zH ?_ | refine zI ?_ | refine zJ ?_ | refine zK ?_ | refine zL ?_ | refine zT ?_ | refine zU ?_ | refine zV ?_ | refine zW ?_ | refine zM ?_ | refine zN ?_ | refine zO ?_ | refine zP ?_ | refine zQ ?_ | refine zR ?_ | refine zS ?_ | refine z0 ?_ | refine z1 ?_ | refine z2 ?_ | refine z3 ?_ | refine z4 ?_ | refine z5 ?_ | refine z6 ?_ | refine z7 ?_ | refine z8 ?_ | refine z9 ?_)
  first | refine fin_ret rfl ?_ | refine fin_normal rfl ?_
  simp only [dMem, dInts, List.length_replicate]
end Go.Proofs.Ytpecgpmdchejdaa
