/- The statement of LinLonger is proved: the law returns true for every input, and its argument reads afterwards as it did. No condition. -/
import Derived.Test.YtknancnmdpdefaaRows
import Derived.Test.YtknancnmdpdefaaL11
import Derived.Test.YtknancnmdpdefaaOpenA
import Derived.WalkKit
import Derived.ProofKit
import Derived.OpenShut
import Derived.ShutString
import Derived.ChangeOld
import Derived.Below
namespace Go.Proofs.Ytknancnmdpdefaa
open Go.ChangeShapes Go.WideShapes Go.ChangeAt Go.RowKit
namespace linLongerLaw

theorem own : ownKnob Try.prog.godebug = none := by kernel_rfl
theorem laidOut : laidOutB Try.prog = true := by kernel_rfl

set_option maxRecDepth 100000 in
theorem lifted (os : Os) (started : os.Started) (H : Type) (enc : TypeId × Value → H) :
    ReturnsInHanded {} Try.checked os 11 .any (Rows.linLongerSpec.pre6 enc Try.prog Try.f11 Rows.linLongerRow.domain false) (Rows.linLongerSpec.post enc Try.prog Try.f11 false true false false) := by
  refine returnsInHanded_of_change (C := Try.checked) own started (by kernel_rfl) Try.func11
    (ChangeSpec.witness6 (enc := enc) (C := Try.checked) false ⟨#[], #[.agg #[.int .i64 0, .slice none 0 0, .slice none 0 0], .slice none 0 0, .agg #[.int .u16 0, .int .u16 0, .int .u16 0, .int .u16 0, .int .u16 0, .int .u16 0], .agg #[.int .u16 0, .int .u16 0, .int .u16 0, .int .u16 0, .int .u16 0, .int .u16 0]], []⟩ 8 (by kernel_rfl) (by kernel_rfl) (by kernel_rfl) (by kernel_rfl)) ?_
  intro W base args ds gs before hval0 hW hcnd _
  have hval : ∀ (j : Nat) t v, Try.f11.params[j]? = some t → args[j]? = some v → Value.okWide Try.prog W .any base t v := hval0
  have hW' := hW
  obtain ⟨p, q, hA0, hV, rfl, hfz, hnd⟩ := hW
  have hA : DataW.TrodAll enc Try.prog W 0 (fun _ => true) true Try.f11.params.toList args.toList ds p := hA0
  rw [Try.params11] at hA hval
  obtain ⟨v0, v1, v2, v3, d0, d1, d2, d3, p0, p1, p2, p3, rfl, rfl, rfl, h0, h1, h2, h3⟩ := trodAll_four hA
  obtain ⟨rfl, rfl⟩ := trodVars_none hV
  have lt0 : ∀ x ∈ p0, x.block < W.heap.size := by obtain ⟨m, hm⟩ := h0; exact DataW.trod_lt m _ _ _ hm
  have r0 : Read enc Try.prog W 0 (fun _ => true) true 24 (Value.cells v0).toList := by obtain ⟨m, hm⟩ := h0; exact ⟨m, _, hm⟩
  have lt1 : ∀ x ∈ p1, x.block < W.heap.size := by obtain ⟨m, hm⟩ := h1; exact DataW.trod_lt m _ _ _ hm
  have r1 : Read enc Try.prog W 0 (fun _ => true) true 47 (Value.cells v1).toList := by obtain ⟨m, hm⟩ := h1; exact ⟨m, _, hm⟩
  have lt2 : ∀ x ∈ p2, x.block < W.heap.size := by obtain ⟨m, hm⟩ := h2; exact DataW.trod_lt m _ _ _ hm
  have r2 : Read enc Try.prog W 0 (fun _ => true) true 55 (Value.cells v2).toList := by obtain ⟨m, hm⟩ := h2; exact ⟨m, _, hm⟩
  have lt3 : ∀ x ∈ p3, x.block < W.heap.size := by obtain ⟨m, hm⟩ := h3; exact DataW.trod_lt m _ _ _ hm
  have r3 : Read enc Try.prog W 0 (fun _ => true) true 55 (Value.cells v3).toList := by obtain ⟨m, hm⟩ := h3; exact ⟨m, _, hm⟩
  obtain ⟨c, _, q0⟩ := arg_cont (hval 0 24 v0 rfl rfl) r0
  obtain ⟨l, _, _, q1⟩ := arg_calls (hval 1 47 v1 rfl rfl) r1
  obtain ⟨m0, m1, m2, m3, m4, m5, hm, q2⟩ := arg_six (hval 2 55 v2 rfl rfl) r2
  obtain ⟨s0, s1, s2, s3, s4, s5, hs, q3⟩ := arg_six (hval 3 55 v3 rfl rfl) r3
  clear hA0 hval0
  refine (run_law (linLonger_c c l m0 m1 m2 m3 m4 m5 s0 s1 s2 s3 s4 s5 hm hs) (DReps.cons q0 (DReps.cons q1 (DReps.cons q2 (DReps.cons q3 (DReps.nil _)))))).mono fun e W' ⟨he, bel⟩ => ?_
  subst he
  exact ⟨_, rfl, _, _, _, [], _, [], hW', trodAll_mk1 (shut_bool Try.underlying4 _), (trodAll_cons_mk (Below.trod laidOut (by kernel_rfl) (of_decide_eq_true (by kernel_rfl)) h0 bel lt0) (trodAll_cons_mk (Below.trod laidOut (by kernel_rfl) (of_decide_eq_true (by kernel_rfl)) h1 bel lt1) (trodAll_cons_mk (Below.trod laidOut (by kernel_rfl) (of_decide_eq_true (by kernel_rfl)) h2 bel lt2) (trodAll_cons_mk (Below.trod laidOut (by kernel_rfl) (of_decide_eq_true (by kernel_rfl)) h3 bel lt3) trodAll_mk0)))), rfl, bel.frame _, fun h => by cases h⟩

theorem over : Rows.linLongerRow.holds Try.pinned (OpenSpec.ofChange Rows.linLongerSpec) :=
  OpenClaim.holds_of_wide 11 Try.f11 rfl rfl rfl rfl rfl rfl rfl ⟨rfl, rfl, rfl, rfl, rfl⟩ rfl rfl rfl rfl rfl (by kernel_rfl) Try.func11 (by kernel_rfl)
    (of_decide_eq_true (by kernel_rfl)) (by unfold Func.isWrapper; first | (rw [if_pos (by decide +kernel)]; kernel_rfl) | (rw [if_neg (by decide +kernel)]; exact ⟨rfl, rfl⟩))
    (fun os started H enc _ => lifted os started H enc)

end linLongerLaw

theorem linLonger_holds : Rows.LinLongerSaid := linLongerLaw.over
#print axioms linLonger_holds
end Go.Proofs.Ytknancnmdpdefaa
