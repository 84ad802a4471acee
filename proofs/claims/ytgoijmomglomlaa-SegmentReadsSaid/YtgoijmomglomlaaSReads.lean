/- The statement of SegmentReads is proved: the law returns true for every input, and its argument reads afterwards as it did. No condition. -/
import Derived.Test.YtgoijmomglomlaaRows
import Derived.Test.YtgoijmomglomlaaE9
import Derived.Test.YtgoijmomglomlaaOpen21
import Derived.WalkKit
import Derived.ProofKit
import Derived.OpenShut
import Derived.ShutString
import Derived.ChangeOld
import Derived.Below
namespace Go.Proofs.Ytgoijmomglomlaa
open Go.ChangeShapes Go.WideShapes Go.ChangeAt Go.RowKit
namespace segmentReadsLaw

theorem own : ownKnob Try.prog.godebug = none := by kernel_rfl
theorem laidOut : laidOutB Try.prog = true := by kernel_rfl

set_option maxRecDepth 100000 in
theorem lifted (os : Os) (started : os.Started) (H : Type) (enc : TypeId × Value → H) :
    ReturnsInHanded {} Try.checked os 3 .any (Rows.segmentReadsSpec.pre6 enc Try.prog Try.f3 Rows.segmentReadsRow.domain false) (Rows.segmentReadsSpec.post enc Try.prog Try.f3 false true false false) := by
  refine returnsInHanded_of_change (C := Try.checked) own started (by kernel_rfl) Try.func3
    (ChangeSpec.witness6 (enc := enc) (C := Try.checked) false ⟨#[], #[.int .u8 0, .agg #[.slice none 0 0], .int .i64 0, .int .i64 0], []⟩ 8 (by kernel_rfl) (by kernel_rfl) (by kernel_rfl) (by kernel_rfl)) ?_
  intro W base args ds gs before hval0 hW hcnd _
  have hval : ∀ (j : Nat) t v, Try.f3.params[j]? = some t → args[j]? = some v → Value.okWide Try.prog W .any base t v := hval0
  have hW' := hW
  obtain ⟨p, q, hA0, hV, rfl, hfz, hnd⟩ := hW
  have hA : DataW.TrodAll enc Try.prog W 0 (fun _ => true) true Try.f3.params.toList args.toList ds p := hA0
  rw [Try.params3] at hA hval
  obtain ⟨v0, v1, v2, v3, d0, d1, d2, d3, p0, p1, p2, p3, rfl, rfl, rfl, h0, h1, h2, h3⟩ := trodAll_four hA
  obtain ⟨rfl, rfl⟩ := trodVars_none hV
  have lt0 : ∀ x ∈ p0, x.block < W.heap.size := by obtain ⟨m, hm⟩ := h0; exact DataW.trod_lt m _ _ _ hm
  have r0 : Read enc Try.prog W 0 (fun _ => true) true 5 (Value.cells v0).toList := by obtain ⟨m, hm⟩ := h0; exact ⟨m, _, hm⟩
  have lt1 : ∀ x ∈ p1, x.block < W.heap.size := by obtain ⟨m, hm⟩ := h1; exact DataW.trod_lt m _ _ _ hm
  have r1 : Read enc Try.prog W 0 (fun _ => true) true 24 (Value.cells v1).toList := by obtain ⟨m, hm⟩ := h1; exact ⟨m, _, hm⟩
  have lt2 : ∀ x ∈ p2, x.block < W.heap.size := by obtain ⟨m, hm⟩ := h2; exact DataW.trod_lt m _ _ _ hm
  have r2 : Read enc Try.prog W 0 (fun _ => true) true 3 (Value.cells v2).toList := by obtain ⟨m, hm⟩ := h2; exact ⟨m, _, hm⟩
  have lt3 : ∀ x ∈ p3, x.block < W.heap.size := by obtain ⟨m, hm⟩ := h3; exact DataW.trod_lt m _ _ _ hm
  have r3 : Read enc Try.prog W 0 (fun _ => true) true 3 (Value.cells v3).toList := by obtain ⟨m, hm⟩ := h3; exact ⟨m, _, hm⟩
  obtain ⟨x0, k0, q0⟩ := arg_u8 Try.underlying5 (hval 0 5 v0 rfl rfl) r0
  obtain ⟨m, k1, q1⟩ := arg_mem (hval 1 24 v1 rfl rfl) r1
  obtain ⟨s, _, q2⟩ := arg_int Try.underlying3 (hval 2 3 v2 rfl rfl) r2
  obtain ⟨n, k3, q3⟩ := arg_int Try.underlying3 (hval 3 3 v3 rfl rfl) r3
  clear hA0 hval0
  refine (run_law (segmentReads_c x0 m s n k0.1 (fun x hx => by have := (k1 x hx).2; omega) (by omega)) (DReps.cons q0 (DReps.cons q1 (DReps.cons q2 (DReps.cons q3 (DReps.nil _)))))).mono fun e W' ⟨he, bel⟩ => ?_
  subst he
  exact ⟨_, rfl, _, _, _, [], _, [], hW', trodAll_mk1 (shut_bool Try.underlying4 _), (trodAll_cons_mk (Below.trod laidOut (by kernel_rfl) (of_decide_eq_true (by kernel_rfl)) h0 bel lt0) (trodAll_cons_mk (Below.trod laidOut (by kernel_rfl) (of_decide_eq_true (by kernel_rfl)) h1 bel lt1) (trodAll_cons_mk (Below.trod laidOut (by kernel_rfl) (of_decide_eq_true (by kernel_rfl)) h2 bel lt2) (trodAll_cons_mk (Below.trod laidOut (by kernel_rfl) (of_decide_eq_true (by kernel_rfl)) h3 bel lt3) trodAll_mk0)))), rfl, bel.frame _, fun h => by cases h⟩

theorem over : Rows.segmentReadsRow.holds Try.pinned (OpenSpec.ofChange Rows.segmentReadsSpec) :=
  OpenClaim.holds_of_wide 3 Try.f3 rfl rfl rfl rfl rfl rfl rfl ⟨rfl, rfl, rfl, rfl, rfl⟩ rfl rfl rfl rfl rfl (by kernel_rfl) Try.func3 (by kernel_rfl)
    (of_decide_eq_true (by kernel_rfl)) (by unfold Func.isWrapper; first | (rw [if_pos (by decide +kernel)]; kernel_rfl) | (rw [if_neg (by decide +kernel)]; exact ⟨rfl, rfl⟩))
    (fun os started H enc _ => lifted os started H enc)

end segmentReadsLaw

theorem segmentReads_holds : Rows.SegmentReadsSaid := segmentReadsLaw.over
#print axioms segmentReads_holds
end Go.Proofs.Ytgoijmomglomlaa
