/- The statement of ObjSolo is proved: the law returns true for every input, and its argument reads afterwards as it did. No condition. -/
import Derived.Test.YtcnefjfboagbmaaGreatRows
import Derived.Test.YtcnefjfboagbmaaGreatYC
import Derived.Test.YtcnefjfboagbmaaGreatOpenS
import Derived.WalkKit
import Derived.ProofKit
import Derived.OpenShut
import Derived.ShutString
import Derived.ChangeOld
import Derived.Below
namespace Go.Proofs.YtcnefjfboagbmaaGreat
open Go.ChangeShapes Go.WideShapes Go.ChangeAt Go.RowKit
namespace objSoloLaw

theorem own : ownKnob Tryz.prog.godebug = none := by kernel_rfl
theorem laidOut : laidOutB Tryz.prog = true := by kernel_rfl

set_option maxRecDepth 100000 in
theorem lifted (os : Os) (started : os.Started) (H : Type) (enc : TypeId × Value → H) :
    ReturnsInHanded {} Tryz.checked os 4 .any (Rows.objSoloSpec.pre6 enc Tryz.prog Tryz.f4 Rows.objSoloRow.domain false) (Rows.objSoloSpec.post enc Tryz.prog Tryz.f4 false true false false) := by
  refine returnsInHanded_of_change (C := Tryz.checked) own started (by kernel_rfl) Tryz.func4
    (ChangeSpec.witness6 (enc := enc) (C := Tryz.checked) false ⟨#[], #[.slice none 0 0, .int .u8 0], []⟩ 8 (by kernel_rfl) (by kernel_rfl) (by kernel_rfl) (by kernel_rfl)) ?_
  intro W base args ds gs before hval0 hW hcnd _
  have hval : ∀ (j : Nat) t v, Tryz.f4.params[j]? = some t → args[j]? = some v → Value.okWide Tryz.prog W .any base t v := hval0
  have hW' := hW
  obtain ⟨p, q, hA0, hV, rfl, hfz, hnd⟩ := hW
  have hA : DataW.TrodAll enc Tryz.prog W 0 (fun _ => true) true Tryz.f4.params.toList args.toList ds p := hA0
  rw [Tryz.params4] at hA hval
  obtain ⟨v0, v1, d0, d1, p0, p1, rfl, rfl, rfl, h0, h1⟩ := trodAll_two hA
  obtain ⟨rfl, rfl⟩ := trodVars_none hV
  have lt0 : ∀ x ∈ p0, x.block < W.heap.size := by obtain ⟨m, hm⟩ := h0; exact DataW.trod_lt m _ _ _ hm
  have r0 : Read enc Tryz.prog W 0 (fun _ => true) true 43 (Value.cells v0).toList := by obtain ⟨m, hm⟩ := h0; exact ⟨m, _, hm⟩
  have lt1 : ∀ x ∈ p1, x.block < W.heap.size := by obtain ⟨m, hm⟩ := h1; exact DataW.trod_lt m _ _ _ hm
  have r1 : Read enc Tryz.prog W 0 (fun _ => true) true 5 (Value.cells v1).toList := by obtain ⟨m, hm⟩ := h1; exact ⟨m, _, hm⟩
  obtain ⟨ops, k0, k1, q0⟩ := arg_ops (hval 0 43 v0 rfl rfl) r0
  obtain ⟨n, k2, q1⟩ := arg_u8 Tryz.underlying5 (hval 1 5 v1 rfl rfl) r1
  clear hA0 hval0
  refine (run_law (solo_w ops n k2 k0 (fun o ho => by have := (k1 o ho).2.2.2; unfold i64B at this; omega)) (DReps.cons q0 (DReps.cons q1 (DReps.nil _)))).mono fun e W' ⟨he, bel⟩ => ?_
  subst he
  exact ⟨_, rfl, _, _, _, [], _, [], hW', trodAll_mk1 (shut_bool Tryz.underlying4 _), (trodAll_cons_mk (Below.trod laidOut (by kernel_rfl) (of_decide_eq_true (by kernel_rfl)) h0 bel lt0) (trodAll_cons_mk (Below.trod laidOut (by kernel_rfl) (of_decide_eq_true (by kernel_rfl)) h1 bel lt1) trodAll_mk0)), rfl, bel.frame _, fun h => by cases h⟩

theorem over : Rows.objSoloRow.holds Tryz.pinned (OpenSpec.ofChange Rows.objSoloSpec) :=
  OpenClaim.holds_of_wide 4 Tryz.f4 rfl rfl rfl rfl rfl rfl rfl ⟨rfl, rfl, rfl, rfl, rfl⟩ rfl rfl rfl rfl rfl (by kernel_rfl) Tryz.func4 (by kernel_rfl)
    (of_decide_eq_true (by kernel_rfl)) (by unfold Func.isWrapper; first | (rw [if_pos (by decide +kernel)]; kernel_rfl) | (rw [if_neg (by decide +kernel)]; exact ⟨rfl, rfl⟩))
    (fun os started H enc _ => lifted os started H enc)

end objSoloLaw

theorem objSolo_holds : Rows.ObjSoloSaid := objSoloLaw.over
#print axioms objSolo_holds
end Go.Proofs.YtcnefjfboagbmaaGreat
