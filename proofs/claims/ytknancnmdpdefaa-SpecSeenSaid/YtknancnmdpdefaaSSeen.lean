/- The statement of SpecSeen is proved: the law returns true for every input, and its argument reads afterwards as it did. No condition. -/
import Derived.Test.YtknancnmdpdefaaRows
import Derived.Test.YtknancnmdpdefaaA7
import Derived.Test.YtknancnmdpdefaaOpenK
import Derived.WalkKit
import Derived.ProofKit
import Derived.OpenShut
import Derived.ShutString
import Derived.ChangeOld
import Derived.Below
namespace Go.Proofs.Ytknancnmdpdefaa
open Go.ChangeShapes Go.WideShapes Go.ChangeAt Go.RowKit
namespace specSeenLaw

theorem own : ownKnob Try.prog.godebug = none := by kernel_rfl
theorem laidOut : laidOutB Try.prog = true := by kernel_rfl

set_option maxRecDepth 100000 in
theorem lifted (os : Os) (started : os.Started) (H : Type) (enc : TypeId × Value → H) :
    ReturnsInHanded {} Try.checked os 7 .any (Rows.specSeenSpec.pre6 enc Try.prog Try.f7 Rows.specSeenRow.domain false) (Rows.specSeenSpec.post enc Try.prog Try.f7 false true false false) := by
  refine returnsInHanded_of_change (C := Try.checked) own started (by kernel_rfl) Try.func7
    (ChangeSpec.witness6 (enc := enc) (C := Try.checked) false ⟨#[], #[.int .u16 0, .int .u32 0, .int .u32 0, .int .u8 0, .int .u8 0], []⟩ 8 (by kernel_rfl) (by kernel_rfl) (by kernel_rfl) (by kernel_rfl)) ?_
  intro W base args ds gs before hval0 hW hcnd _
  have hval : ∀ (j : Nat) t v, Try.f7.params[j]? = some t → args[j]? = some v → Value.okWide Try.prog W .any base t v := hval0
  have hW' := hW
  obtain ⟨p, q, hA0, hV, rfl, hfz, hnd⟩ := hW
  have hA : DataW.TrodAll enc Try.prog W 0 (fun _ => true) true Try.f7.params.toList args.toList ds p := hA0
  rw [Try.params7] at hA hval
  obtain ⟨v0, v1, v2, v3, v4, d0, d1, d2, d3, d4, p0, p1, p2, p3, p4, rfl, rfl, rfl, h0, h1, h2, h3, h4⟩ := trodAll_five hA
  obtain ⟨rfl, rfl⟩ := trodVars_none hV
  have lt0 : ∀ x ∈ p0, x.block < W.heap.size := by obtain ⟨m, hm⟩ := h0; exact DataW.trod_lt m _ _ _ hm
  have r0 : Read enc Try.prog W 0 (fun _ => true) true 44 (Value.cells v0).toList := by obtain ⟨m, hm⟩ := h0; exact ⟨m, _, hm⟩
  have lt1 : ∀ x ∈ p1, x.block < W.heap.size := by obtain ⟨m, hm⟩ := h1; exact DataW.trod_lt m _ _ _ hm
  have r1 : Read enc Try.prog W 0 (fun _ => true) true 45 (Value.cells v1).toList := by obtain ⟨m, hm⟩ := h1; exact ⟨m, _, hm⟩
  have lt2 : ∀ x ∈ p2, x.block < W.heap.size := by obtain ⟨m, hm⟩ := h2; exact DataW.trod_lt m _ _ _ hm
  have r2 : Read enc Try.prog W 0 (fun _ => true) true 45 (Value.cells v2).toList := by obtain ⟨m, hm⟩ := h2; exact ⟨m, _, hm⟩
  have lt3 : ∀ x ∈ p3, x.block < W.heap.size := by obtain ⟨m, hm⟩ := h3; exact DataW.trod_lt m _ _ _ hm
  have r3 : Read enc Try.prog W 0 (fun _ => true) true 5 (Value.cells v3).toList := by obtain ⟨m, hm⟩ := h3; exact ⟨m, _, hm⟩
  have lt4 : ∀ x ∈ p4, x.block < W.heap.size := by obtain ⟨m, hm⟩ := h4; exact DataW.trod_lt m _ _ _ hm
  have r4 : Read enc Try.prog W 0 (fun _ => true) true 5 (Value.cells v4).toList := by obtain ⟨m, hm⟩ := h4; exact ⟨m, _, hm⟩
  obtain ⟨x0, k0, q0⟩ := arg_u16 Try.underlying44 (hval 0 44 v0 rfl rfl) r0
  obtain ⟨x1, k1, q1⟩ := arg_u32 Try.underlying45 (hval 1 45 v1 rfl rfl) r1
  obtain ⟨x2, k2, q2⟩ := arg_u32 Try.underlying45 (hval 2 45 v2 rfl rfl) r2
  obtain ⟨x3, k3, q3⟩ := arg_u8 Try.underlying5 (hval 3 5 v3 rfl rfl) r3
  obtain ⟨x4, k4, q4⟩ := arg_u8 Try.underlying5 (hval 4 5 v4 rfl rfl) r4
  clear hA0 hval0
  refine (run_law (specSeen_c x0 x1 x2 x3 x4 k0 k1 k2 k3 k4) (DReps.cons q0 (DReps.cons q1 (DReps.cons q2 (DReps.cons q3 (DReps.cons q4 (DReps.nil _))))))).mono fun e W' ⟨he, bel⟩ => ?_
  subst he
  exact ⟨_, rfl, _, _, _, [], _, [], hW', trodAll_mk1 (shut_bool Try.underlying4 _), (trodAll_cons_mk (Below.trod laidOut (by kernel_rfl) (of_decide_eq_true (by kernel_rfl)) h0 bel lt0) (trodAll_cons_mk (Below.trod laidOut (by kernel_rfl) (of_decide_eq_true (by kernel_rfl)) h1 bel lt1) (trodAll_cons_mk (Below.trod laidOut (by kernel_rfl) (of_decide_eq_true (by kernel_rfl)) h2 bel lt2) (trodAll_cons_mk (Below.trod laidOut (by kernel_rfl) (of_decide_eq_true (by kernel_rfl)) h3 bel lt3) (trodAll_cons_mk (Below.trod laidOut (by kernel_rfl) (of_decide_eq_true (by kernel_rfl)) h4 bel lt4) trodAll_mk0))))), rfl, bel.frame _, fun h => by cases h⟩

theorem over : Rows.specSeenRow.holds Try.pinned (OpenSpec.ofChange Rows.specSeenSpec) :=
  OpenClaim.holds_of_wide 7 Try.f7 rfl rfl rfl rfl rfl rfl rfl ⟨rfl, rfl, rfl, rfl, rfl⟩ rfl rfl rfl rfl rfl (by kernel_rfl) Try.func7 (by kernel_rfl)
    (of_decide_eq_true (by kernel_rfl)) (by unfold Func.isWrapper; first | (rw [if_pos (by decide +kernel)]; kernel_rfl) | (rw [if_neg (by decide +kernel)]; exact ⟨rfl, rfl⟩))
    (fun os started H enc _ => lifted os started H enc)

end specSeenLaw

theorem specSeen_holds : Rows.SpecSeenSaid := specSeenLaw.over
#print axioms specSeen_holds
end Go.Proofs.Ytknancnmdpdefaa
