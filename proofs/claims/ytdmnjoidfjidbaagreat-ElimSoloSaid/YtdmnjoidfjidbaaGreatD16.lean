/- Memory: which accesses may be; an access done in cells of our own: their walks. -/
import Derived.Test.YtdmnjoidfjidbaaGreatD9
namespace Go.Proofs.YtdmnjoidfjidbaaGreat
open Go.RowKit
set_option maxRecDepth 100000

set_option maxHeartbeats 4000000 in
theorem memRight_c (a : AccT) : PureC Tryz.prog 76 [dAcc a] (dB (rightA a)) := by
  generalize hE : rightA a = E
  unfold rightA at hE
  refine pure_fin tabOk Tryz.func76 rfl Tryz.ntmps76 rfl rfl rfl fun w cl => ?_
  refine go ?_
  generalize h0 : decide (a.cell < 0) = cc; cases cc
  · rw [decide_eq_true (show 0 ≤ a.cell by have := of_decide_eq_false h0; omega), Bool.true_and] at hE
    refine go ?_
    generalize h1 : decide (a.kind = 1) = cc; cases cc
    · have h1' := of_decide_eq_false h1
      rw [if_neg h1'] at hE
      refine go ?_
      generalize h2 : decide (a.kind = 2) = cc; cases cc
      · have h2' := of_decide_eq_false h2
        refine go ?_
        generalize h4 : decide (a.kind = 4) = cc; cases cc
        · have h4' := of_decide_eq_false h4
          refine go ?_
          generalize h5 : decide (a.kind = 5) = cc; cases cc
          · have h5' := of_decide_eq_false h5
            rw [if_neg (by omega)] at hE
            refine go ?_
            generalize h3 : decide (a.kind = 3) = cc; cases cc
            · rw [h3] at hE
              refine go ?_
              first | refine fin_ret rfl ?_ | refine fin_normal rfl ?_
              rw [← hE]
            · rw [h3] at hE
              refine go ?_
              first | refine fin_ret rfl ?_ | refine fin_normal rfl ?_
              rw [← hE]
          · rw [if_pos (by have := of_decide_eq_true h5; omega)] at hE
            refine go ?_
            first | refine fin_ret rfl ?_ | refine fin_normal rfl ?_
            rw [← hE]
        · rw [if_pos (by have := of_decide_eq_true h4; omega)] at hE
          refine go ?_
          first | refine fin_ret rfl ?_ | refine fin_normal rfl ?_
          rw [← hE]
      · rw [if_pos (by have := of_decide_eq_true h2; omega)] at hE
        refine go ?_
        first | refine fin_ret rfl ?_ | refine fin_normal rfl ?_
        rw [← hE]
    · rw [if_pos (of_decide_eq_true h1)] at hE
      refine go ?_
      generalize h2 : decide (a.new = 0) = cc; cases cc
      · rw [h2] at hE
        refine go ?_
        first | refine fin_ret rfl ?_ | refine fin_normal rfl ?_
        rw [← hE]; rfl
      · rw [h2] at hE
        refine go ?_
        first | refine fin_ret rfl ?_ | refine fin_normal rfl ?_
        rw [← hE]; rfl
  · rw [decide_eq_false (show ¬ 0 ≤ a.cell by have := of_decide_eq_true h0; omega)] at hE
    refine go ?_
    first | refine fin_ret rfl ?_ | refine fin_normal rfl ?_
    rw [← hE]; rfl
theorem fault_c (n : Int) (a : AccT) : PureC Tryz.prog 37 [dI n, dAcc a] (dI (faultF n a)) := by
  generalize hE : faultF n a = E
  unfold faultF at hE
  refine pure_fin tabOk Tryz.func37 rfl Tryz.ntmps37 rfl rfl rfl fun w cl => ?_
  refine go ?_
  refine a_q (call_step (memRight_c a) rfl (fun a w => Tryz.call76 a w) rfl) rfl rfl rfl ?_
  refine go ?_
  generalize h1 : rightA a = cc; cases cc
  · rw [h1, if_neg (by decide)] at hE
    refine go ?_
    first | refine fin_ret rfl ?_ | refine fin_normal rfl ?_
    rw [← hE]
  · rw [h1, if_pos rfl] at hE
    refine go ?_
    generalize h2 : decide (n ≤ a.cell) = cc; cases cc
    · rw [if_neg (of_decide_eq_false h2)] at hE
      refine go ?_
      first | refine fin_ret rfl ?_ | refine fin_normal rfl ?_
      rw [← hE]
    · rw [if_pos (of_decide_eq_true h2)] at hE
      refine go ?_
      first | refine fin_ret rfl ?_ | refine fin_normal rfl ?_
      rw [← hE]
end Go.Proofs.YtdmnjoidfjidbaaGreat
