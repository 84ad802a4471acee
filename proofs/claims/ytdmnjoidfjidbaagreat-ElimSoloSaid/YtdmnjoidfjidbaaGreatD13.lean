/- What ends a program that is run again: the deferred call's walks. -/
import Derived.Test.YtdmnjoidfjidbaaGreatD12

namespace Go.Proofs.YtdmnjoidfjidbaaGreat
open Go.RowKit
set_option maxRecDepth 100000

abbrev playB (a : AccT) (od : List Dt) (dn : Bool) : Bxs := [(22, [dI a.kind, dI a.cell, dI a.old, dI a.new]), (21, [.any]), (23, od), (24, [dB dn])]
abbrev outC (o : OutT) : List Dt := [dI o.val, dB o.is, dI o.err, dI o.point, dGone o.gone]
theorem play1_no {e : Env} {vs : List Value} (a : AccT) (o : OutT) (dn : Bool) (hI : InOk (playB a (outC o) dn) e) (hv : DReps e vs [.ptr 22 0, .ptr 21 0, .ptr 23 0, .ptr 24 0]) :
    CallsD Tryz.prog 78 vs.toArray .returning e.w fun r u2 w' => ∃ e' bs', r = .returned (.tuple #[]) ∧ u2 = .returning ∧ e'.w = w' ∧ InOk bs' e' ∧ Left [21, 22, 23, 24] e e' ∧ bs' = playB a (outC o) dn := by
  refine recover_calls (T := tb) Tryz.func78 rfl Tryz.ntmps78 rfl rfl rfl (by (repeat (first | exact trivial | refine ⟨rfl, ?_⟩))) (fun _ _ => rfl) (fun _ => rfl) rfl rfl .no (fun w cl own kf => ?_) hI hv
  refine go ?_
  refine a_q (ifaceNil_step Tryz.underlying20 rfl rfl) rfl rfl rfl ?_
  refine go ?_
  refine finI_normal (playB a (outC o) dn) rfl rfl (by (repeat (first | exact trivial | refine ⟨⟨rfl, rfl⟩, ?_⟩))) (by (repeat (first | exact trivial | refine ⟨rfl, ?_⟩))) rfl
theorem play1_yes {e : Env} {vs : List Value} (a a' : AccT) (od : List Dt) (ho : od = [dI 0, dB false, dI 0, dI 0, .p (.sl true 0 [])]) (dn : Bool) (hI : InOk (playB a od dn) e) (hv : DReps e vs [.ptr 22 0, .ptr 21 0, .ptr 23 0, .ptr 24 0]) :
    CallsD Tryz.prog 78 vs.toArray (.panicking [pe (askedV a')]) e.w fun r u2 w' => ∃ e' bs', r = .returned (.tuple #[]) ∧ u2 = .panicking [{ v := askedV a', recovered := true }] ∧ e'.w = w' ∧ InOk bs' e' ∧ Left [21, 22, 23, 24] e e' ∧ bs' = playB a' od dn := by
  subst ho
  refine recover_calls (T := tb) Tryz.func78 rfl Tryz.ntmps78 rfl rfl rfl (by (repeat (first | exact trivial | refine ⟨rfl, ?_⟩))) (fun _ _ => rfl) (fun _ => rfl) rfl rfl (.yes (askedV a')) (fun w cl own kf => ?_) hI hv
  refine go ?_
  refine a_q (ifaceSome_step Tryz.underlying20 rfl rfl) rfl rfl rfl ?_
  refine go ?_
  refine a_q (assert_step tabOk rfl rfl rfl rfl) rfl rfl rfl ?_
  refine go ?_
  refine finI_normal (playB a' _ dn) rfl rfl (by (repeat (first | exact trivial | refine ⟨⟨rfl, rfl⟩, ?_⟩))) (by (repeat (first | exact trivial | refine ⟨rfl, ?_⟩))) rfl
end Go.Proofs.YtdmnjoidfjidbaaGreat
