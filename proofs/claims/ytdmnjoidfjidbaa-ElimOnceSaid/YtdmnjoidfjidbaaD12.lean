/- A program is begun: its walk. -/
import Derived.Test.YtdmnjoidfjidbaaD9
namespace Go.Proofs.Ytdmnjoidfjidbaa
open Go.RowKit
set_option maxRecDepth 100000
theorem begin_i (l : LayT) (me : Int) (g : List (Int × Int)) (log : List ResT) : ImpC Try.prog 40 [] [dLay l, dI me, dGone g, dLog log] [] (fun d bs => d = .ptr 11 0 ∧ bs = pieceB l me log ⟨0, g, 0, 0, 0⟩) := by
  refine imp_fin tabOk Try.func40 rfl Try.ntmps40 rfl rfl rfl (by (repeat (first | exact trivial | refine ⟨rfl, ?_⟩))) fun w cl own kf => ?_
  refine goC ?_
  refine a_b (box_step 0 rfl rfl rfl rfl) rfl rfl rfl rfl ?_
  refine a_b (box_step 13 rfl rfl rfl rfl) rfl rfl rfl rfl ?_
  refine a_ax tabOk rfl rfl rfl rfl ?_
  refine aops_nil ?_
  refine goC ?_
  refine a_ax tabOk rfl rfl rfl rfl ?_
  refine a_ax tabOk rfl rfl rfl rfl ?_
  refine a_ax tabOk rfl rfl rfl rfl ?_
  refine a_q (build_step tabOk rfl rfl rfl) rfl rfl rfl ?_
  refine a_b (box_step 11 rfl rfl rfl rfl) rfl rfl rfl rfl ?_
  refine a_b (alloc_step tabOk 12 rfl rfl rfl rfl) rfl rfl rfl rfl ?_
  refine go ?_
  refine finI_ret (pieceB l me log ⟨0, g, 0, 0, 0⟩) rfl rfl (by (repeat (first | exact trivial | refine ⟨⟨rfl, rfl⟩, ?_⟩))) trivial ?_
  exact ⟨rfl, rfl⟩
end Go.Proofs.Ytdmnjoidfjidbaa
