/- A program is begun: its walk. -/
import Derived.Test.YtdmnjoidfjidbaaGreatD9
namespace Go.Proofs.YtdmnjoidfjidbaaGreat
open Go.RowKit
set_option maxRecDepth 100000
theorem begin_i (l : LayT) (me : Int) (g : List (Int × Int)) (log : List ResT) : ImpC Tryz.prog 44 [] [dLay l, dI me, dGone g, dLog log] [] (fun d bs => d = .ptr 11 0 ∧ bs = pieceB l me log ⟨0, g, 0, 0, 0⟩) := by
  refine imp_fin tabOk Tryz.func44 rfl Tryz.ntmps44 rfl rfl rfl (by (repeat (first | exact trivial | refine ⟨rfl, ?_⟩))) fun w cl own kf => ?_
  refine goC ?_
  refine a_b (box_step 0 rfl rfl rfl rfl) rfl rfl rfl rfl ?_
  refine a_b (box_step 13 rfl rfl rfl rfl) rfl rfl rfl rfl ?_
  refine a_ax tabOk rfl rfl rfl rfl ?_
  refine aops_nil ?_
  refine goC ?_
  refine a_ax tabOk rfl rfl rfl rfl ?_
  refine a_ax tabOk rfl rfl rfl rfl ?_
  refine a_ax tabOk rfl rfl rfl rfl ?_
  refine a_q (build_step tabOk rfl rfl rfl) rfl rfl rfl ?_
  refine a_b (box_step 11 rfl rfl rfl rfl) rfl rfl rfl rfl ?_
  refine a_b (alloc_step tabOk 12 rfl rfl rfl rfl) rfl rfl rfl rfl ?_
  refine go ?_
  refine finI_ret (pieceB l me log ⟨0, g, 0, 0, 0⟩) rfl rfl (by (repeat (first | exact trivial | refine ⟨⟨rfl, rfl⟩, ?_⟩))) trivial ?_
  exact ⟨rfl, rfl⟩
end Go.Proofs.YtdmnjoidfjidbaaGreat
