/- The statement of LinLess is proved: the law returns true for every input, and its argument reads afterwards as it did. No condition. -/
import Derived.Test.YtknancnmdpdefaaRows
import Derived.Test.YtknancnmdpdefaaL13
import Derived.Test.YtknancnmdpdefaaOpenL
import Derived.WalkKit
import Derived.ProofKit
import Derived.OpenShut
import Derived.ShutString
import Derived.ChangeOld
import Derived.Below
namespace Go.Proofs.Ytknancnmdpdefaa
open Go.ChangeShapes Go.WideShapes Go.ChangeAt Go.RowKit
namespace linLessLaw

theorem own : ownKnob Try.prog.godebug = none := by kernel_rfl
theorem laidOut : laidOutB Try.prog = true := by kernel_rfl

set_option maxRecDepth 100000 in
theorem lifted (os : Os) (started : os.Started) (H : Type) (enc : TypeId × Value → H) :
    ReturnsInHanded {} Try.checked os 9 .any (Rows.linLessSpec.pre6 enc Try.prog Try.f9 Rows.linLessRow.domain false) (Rows.linLessSpec.post enc Try.prog Try.f9 false true false false) := by
  refine returnsInHanded_of_change (C := Try.checked) own started (by kernel_rfl) Try.func9
    (ChangeSpec.witness6 (enc := enc) (C := Try.checked) false ⟨#[], #[.agg #[.int .i64 0, .slice none 0 0, .slice none 0 0], .slice none 0 0, .agg #[.int .i64 0, .int .i64 0, .int .i64 0, .int .i64 0]], []⟩ 8 (by kernel_rfl) (by kernel_rfl) (by kernel_rfl) (by kernel_rfl)) ?_
  intro W base args ds gs before hval0 hW hcnd _
  have hval : ∀ (j : Nat) t v, Try.f9.params[j]? = some t → args[j]? = some v → Value.okWide Try.prog W .any base t v := hval0
  have hW' := hW
  obtain ⟨p, q, hA0, hV, rfl, hfz, hnd⟩ := hW
  have hA : DataW.TrodAll enc Try.prog W 0 (fun _ => true) true Try.f9.params.toList args.toList ds p := hA0
  rw [Try.params9] at hA hval
  obtain ⟨v0, v1, v2, d0, d1, d2, p0, p1, p2, rfl, rfl, rfl, h0, h1, h2⟩ := trodAll_three hA
  obtain ⟨rfl, rfl⟩ := trodVars_none hV
  have lt0 : ∀ x ∈ p0, x.block < W.heap.size := by obtain ⟨m, hm⟩ := h0; exact DataW.trod_lt m _ _ _ hm
  have r0 : Read enc Try.prog W 0 (fun _ => true) true 24 (Value.cells v0).toList := by obtain ⟨m, hm⟩ := h0; exact ⟨m, _, hm⟩
  have lt1 : ∀ x ∈ p1, x.block < W.heap.size := by obtain ⟨m, hm⟩ := h1; exact DataW.trod_lt m _ _ _ hm
  have r1 : Read enc Try.prog W 0 (fun _ => true) true 47 (Value.cells v1).toList := by obtain ⟨m, hm⟩ := h1; exact ⟨m, _, hm⟩
  have lt2 : ∀ x ∈ p2, x.block < W.heap.size := by obtain ⟨m, hm⟩ := h2; exact DataW.trod_lt m _ _ _ hm
  have r2 : Read enc Try.prog W 0 (fun _ => true) true 26 (Value.cells v2).toList := by obtain ⟨m, hm⟩ := h2; exact ⟨m, _, hm⟩
  obtain ⟨c, _, q0⟩ := arg_cont (hval 0 24 v0 rfl rfl) r0
  obtain ⟨l, _, _, q1⟩ := arg_calls (hval 1 47 v1 rfl rfl) r1
  obtain ⟨o, _, q2⟩ := arg_op (hval 2 26 v2 rfl rfl) r2
  clear hA0 hval0
  refine (run_law (linLess_c c l o) (DReps.cons q0 (DReps.cons q1 (DReps.cons q2 (DReps.nil _))))).mono fun e W' ⟨he, bel⟩ => ?_
  subst he
  exact ⟨_, rfl, _, _, _, [], _, [], hW', trodAll_mk1 (shut_bool Try.underlying4 _), (trodAll_cons_mk (Below.trod laidOut (by kernel_rfl) (of_decide_eq_true (by kernel_rfl)) h0 bel lt0) (trodAll_cons_mk (Below.trod laidOut (by kernel_rfl) (of_decide_eq_true (by kernel_rfl)) h1 bel lt1) (trodAll_cons_mk (Below.trod laidOut (by kernel_rfl) (of_decide_eq_true (by kernel_rfl)) h2 bel lt2) trodAll_mk0))), rfl, bel.frame _, fun h => by cases h⟩

theorem over : Rows.linLessRow.holds Try.pinned (OpenSpec.ofChange Rows.linLessSpec) :=
  OpenClaim.holds_of_wide 9 Try.f9 rfl rfl rfl rfl rfl rfl rfl ⟨rfl, rfl, rfl, rfl, rfl⟩ rfl rfl rfl rfl rfl (by kernel_rfl) Try.func9 (by kernel_rfl)
    (of_decide_eq_true (by kernel_rfl)) (by unfold Func.isWrapper; first | (rw [if_pos (by decide +kernel)]; kernel_rfl) | (rw [if_neg (by decide +kernel)]; exact ⟨rfl, rfl⟩))
    (fun os started H enc _ => lifted os started H enc)

end linLessLaw

theorem linLess_holds : Rows.LinLessSaid := linLessLaw.over
#print axioms linLess_holds
end Go.Proofs.Ytknancnmdpdefaa
