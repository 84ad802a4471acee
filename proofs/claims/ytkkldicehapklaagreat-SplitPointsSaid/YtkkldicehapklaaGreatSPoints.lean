/- The statement of SplitPoints is proved: the law returns true for every input, and its argument reads afterwards as it did. No condition. -/
import Derived.Test.YtkkldicehapklaaGreatRows
import Derived.Test.YtkkldicehapklaaGreatWI
import Derived.Test.YtkkldicehapklaaGreatWG
import Derived.WalkKit
import Derived.ProofKit
import Derived.OpenShut
import Derived.ShutString
import Derived.ChangeOld
import Derived.Below
import Derived.SizedLaws
namespace Go.Proofs.YtkkldicehapklaaGreat
open Go.ChangeShapes Go.WideShapes Go.ChangeAt Go.RowKit
namespace splitPointsLaw

theorem own : ownKnob Tryz.prog.godebug = none := by kernel_rfl
theorem laidOut : laidOutB Tryz.prog = true := by kernel_rfl

set_option maxRecDepth 100000 in
theorem lifted (os : Os) (started : os.Started) (H : Type) (enc : TypeId × Value → H) :
    ReturnsInHanded {} Tryz.checked os 5 .any (Rows.splitPointsSpec.pre6 enc Tryz.prog Tryz.f5 Rows.splitPointsRow.domain false) (Rows.splitPointsSpec.post enc Tryz.prog Tryz.f5 false true false false) := by
  refine returnsInHanded_of_change_sized (C := Tryz.checked) own started (by kernel_rfl) Tryz.func5
    (ChangeSpec.witness6 (enc := enc) (C := Tryz.checked) false ⟨#[], #[.agg #[.slice none 0 0, .slice none 0 0], .int .u8 0], []⟩ 8 (by kernel_rfl) (by kernel_rfl) (by kernel_rfl) (by kernel_rfl)) ?_
  intro W base args ds gs before hval0 hW hcnd hsz _
  have hval : ∀ (j : Nat) t v, Tryz.f5.params[j]? = some t → args[j]? = some v → Value.okWide Tryz.prog W .any base t v := hval0
  have hW' := hW
  obtain ⟨p, q, hA0, hV, rfl, hfz, hnd⟩ := hW
  have hA : DataW.TrodAll enc Tryz.prog W 0 (fun _ => true) true Tryz.f5.params.toList args.toList ds p := hA0
  rw [Tryz.params5] at hA hval
  obtain ⟨v0, v1, d0, d1, p0, p1, rfl, rfl, rfl, h0, h1⟩ := trodAll_two hA
  obtain ⟨rfl, rfl⟩ := trodVars_none hV
  have lt0 : ∀ x ∈ p0, x.block < W.heap.size := by obtain ⟨m, hm⟩ := h0; exact DataW.trod_lt m _ _ _ hm
  have r0 : Read enc Tryz.prog W 0 (fun _ => true) true 29 (Value.cells v0).toList := by obtain ⟨m, hm⟩ := h0; exact ⟨m, _, hm⟩
  have lt1 : ∀ x ∈ p1, x.block < W.heap.size := by obtain ⟨m, hm⟩ := h1; exact DataW.trod_lt m _ _ _ hm
  have r1 : Read enc Tryz.prog W 0 (fun _ => true) true 5 (Value.cells v1).toList := by obtain ⟨m, hm⟩ := h1; exact ⟨m, _, hm⟩
  obtain ⟨want, turns, k0, q0⟩ := arg_play (hval 0 29 v0 rfl rfl) r0
  obtain ⟨s, k1, q1⟩ := arg_u8 Tryz.underlying5 (hval 1 5 v1 rfl rfl) r1
  have hz : want.length ≤ 3 → (want.map List.length).sum ≤ 9223372036854775807 := by
    obtain ⟨m, hm⟩ := h0
    exact sum_sized (want_sized hm (fun k hk => by simpa using List.all_eq_true.1 hsz k (DataW.weights_mem_each (j := 0) rfl rfl k hk)) q0)
  clear hA0 hval0
  refine (run_law (points_w want turns s k1 (fun x hx => ⟨(k0.2 x hx).1, by have := (k0.2 x hx).2; omega⟩) hz (fun w hw o ho => by have := (k0.1 w hw o ho).2.2.2; unfold i64B at this; omega)) (DReps.cons q0 (DReps.cons q1 (DReps.nil _)))).mono fun e W' ⟨he, bel⟩ => ?_
  subst he
  exact ⟨_, rfl, _, _, _, [], _, [], hW', trodAll_mk1 (shut_bool Tryz.underlying4 _), (trodAll_cons_mk (Below.trod laidOut (by kernel_rfl) (of_decide_eq_true (by kernel_rfl)) h0 bel lt0) (trodAll_cons_mk (Below.trod laidOut (by kernel_rfl) (of_decide_eq_true (by kernel_rfl)) h1 bel lt1) trodAll_mk0)), rfl, bel.frame _, fun h => by cases h⟩

theorem over : Rows.splitPointsRow.holds Tryz.pinned (OpenSpec.ofChange Rows.splitPointsSpec) :=
  OpenClaim.holds_of_wide 5 Tryz.f5 rfl rfl rfl rfl rfl rfl rfl ⟨rfl, rfl, rfl, rfl, rfl⟩ rfl rfl rfl rfl rfl (by kernel_rfl) Tryz.func5 (by kernel_rfl)
    (of_decide_eq_true (by kernel_rfl)) (by unfold Func.isWrapper; first | (rw [if_pos (by decide +kernel)]; kernel_rfl) | (rw [if_neg (by decide +kernel)]; exact ⟨rfl, rfl⟩))
    (fun os started H enc _ => lifted os started H enc)

end splitPointsLaw

theorem splitPoints_holds : Rows.SplitPointsSaid := splitPointsLaw.over
#print axioms splitPoints_holds
end Go.Proofs.YtkkldicehapklaaGreat
