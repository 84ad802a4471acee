/- Where a stack's top and its slots lie, and where a seat meets others: their walks. -/
import Derived.Test.YtdmnjoidfjidbaaGreatD2
import Derived.Test.YtdmnjoidfjidbaaGreatPB
namespace Go.Proofs.YtdmnjoidfjidbaaGreat
open Go.RowKit
set_option maxRecDepth 100000

theorem top_c (l : LayT) (hl : LayOk l) (s : Int) : PureC Tryz.prog 29 [dLay l, dI s] (dI (topF l s)) := by
  have hs := hl.slots
  refine pure_fin tabOk Tryz.func29 rfl Tryz.ntmps29 rfl rfl rfl fun w cl => ?_
  refine go ?_
  refine a_q (call_step (within_c l.stack l.stacks (1 + l.slots) s 0 hl.stack hl.stacks (by omega) (by omega)) rfl (fun a w => Tryz.call60 a w) rfl) rfl rfl rfl ?_
  refine go ?_
  first | refine fin_ret rfl ?_ | refine fin_normal rfl ?_
  rfl
theorem slotL_c (l : LayT) (hl : LayOk l) (s i : Int) : PureC Tryz.prog 50 [dLay l, dI s, dI i] (dI (slotF l s i)) := by
  have hs := hl.slots
  refine pure_fin tabOk Tryz.func50 rfl Tryz.ntmps50 rfl rfl rfl fun w cl => ?_
  refine go ?_
  generalize k1 : decide (i < 0) = cc; cases cc
  · have k1' := of_decide_eq_false k1
    refine go ?_
    generalize k2 : decide (i ≥ l.slots) = cc; cases cc
    · have k2' := of_decide_eq_false k2
      refine go ?_
      refine a_q (call_step (within_c l.stack l.stacks (1 + l.slots) s (1 + i) hl.stack hl.stacks (by omega) (by omega)) rfl (fun a w => Tryz.call60 a w) rfl) rfl rfl rfl ?_
      refine go ?_
      first | refine fin_ret rfl ?_ | refine fin_normal rfl ?_
      rw [slotF, if_neg (by omega)]
    · refine go ?_
      first | refine fin_ret rfl ?_ | refine fin_normal rfl ?_
      have := of_decide_eq_true k2
      rw [slotF, if_pos (by omega)]
  · refine go ?_
    first | refine fin_ret rfl ?_ | refine fin_normal rfl ?_
    have := of_decide_eq_true k1
    rw [slotF, if_pos (by omega)]
theorem slot_c (l : LayT) (hl : LayOk l) (me s : Int) (h0 : 0 ≤ me) (h1 : me ≤ 1000000) : PureC Tryz.prog 18 [dLay l, dI me, dI s] (dI (slotOf l me s)) := by
  have hs := hl.slots
  refine pure_fin tabOk Tryz.func18 rfl Tryz.ntmps18 rfl rfl rfl fun w cl => ?_
  refine go ?_
  generalize k1 : decide (l.slots < 1) = cc; cases cc
  · have k1' := of_decide_eq_false k1
    have r0 : 0 ≤ me % l.slots := Int.emod_nonneg _ (by omega)
    have r1 : me % l.slots < l.slots := Int.emod_lt_of_pos _ (by omega)
    refine go ?_
    refine awp_region_w 9 [] rfl rfl (by kernel_rfl) (by kernel_rfl) (by kernel_rfl) ?_
    refine goQ ?_
    refine r_q (rem_step rfl rfl rfl h0 (by omega)) rfl rfl ?_
    refine goQ ?_
    refine r_q (rem_step rfl rfl rfl (by omega) (by omega)) rfl rfl ?_
    refine goQ ?_
    refine a_q (call_step (slotL_c l hl s ((me % l.slots + l.slots) % l.slots)) rfl (fun a w => Tryz.call50 a w) rfl) rfl rfl rfl ?_
    refine go ?_
    first | refine fin_ret rfl ?_ | refine fin_normal rfl ?_
    rw [slotOf, if_neg k1']
  · refine go ?_
    first | refine fin_ret rfl ?_ | refine fin_normal rfl ?_
    rw [slotOf, if_pos (of_decide_eq_true k1)]
end Go.Proofs.YtdmnjoidfjidbaaGreat
