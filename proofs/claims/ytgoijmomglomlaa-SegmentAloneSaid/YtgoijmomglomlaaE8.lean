/- The chapter's example: its walk. -/
import Derived.Test.YtgoijmomglomlaaE7
import Derived.Test.YtgoijmomglomlaaE4
import Derived.Test.YtgoijmomglomlaaShort
namespace Go.Proofs.Ytgoijmomglomlaa
open Go.RowKit
set_option maxRecDepth 100000

theorem steps_idx {l : List StepT} {i : Int} {s : StepT} (h : l[i.toNat]? = some s) : ∀ (m : Nat) q, (pStep s)[m]? = some q → (pSteps l)[i.toNat * 19 + m]? = some q := flat_idx (f := pStep) (k := 19) (fun _ => rfl) h
def awL (q : Int × Int) (s : StepT) : Int × Int := (if s.done then q.1 else q.1 + 1, if s.done && decide (s.op.kind = 7) then s.out.val else q.2)
def awakeB (R : PlayedT) (l : LayT) : Bool := R.ends && decide (R.steps.foldl awL (0, -1) = (25, 5)) && decide (rowF l R.m 0 = [7]) && decide (R.gone = [[]]) && decide ((listF l R.m).length = 2) && R.m.all (fun x => decide (x < 9223372036854775808)) && decide (R.steps.length ≤ 1000) && decide (nodesF l R.m 0 = [1])
theorem awake_true : awakeB (playedF plainP) (layP plainP) = true := by kernel_rfl
theorem awL_le (l : List StepT) : ∀ q : Int × Int, (l.foldl awL q).1 ≤ q.1 + l.length ∧ q.1 ≤ (l.foldl awL q).1 := by
  induction l with
  | nil => intro q; simp
  | cons s l ih =>
    intro q
    rw [List.foldl_cons]
    have h := ih (awL q s)
    have h1 : (awL q s).1 ≤ q.1 + 1 ∧ q.1 ≤ (awL q s).1 := by unfold awL; simp only; split <;> omega
    simp only [List.length_cons]
    omega
theorem plain_ok : PlayG plainP := ⟨⟨by decide, by decide, by decide, by decide, by simp [plainP], by decide⟩, by simp [plainP, VOk]⟩
set_option maxHeartbeats 8000000 in
theorem awake_c : PureC Try.prog 9 [] (dB true) := by
  have hB := awake_true
  have hP := played_c plainP plain_ok
  have hW := where_c plainP (by decide) (by decide) (by decide)
  have hL : LayOk (layP plainP) := layP_ok (by decide) (by decide)
  generalize layP plainP = l at *
  generalize playedF plainP = R at *
  unfold awakeB at hB
  simp only [Bool.and_eq_true, decide_eq_true_eq, List.all_eq_true] at hB
  obtain ⟨⟨⟨⟨⟨⟨⟨b1, b2⟩, b3⟩, b4⟩, b5⟩, b6⟩, b7⟩, b8⟩ := hB
  obtain ⟨steps, m, gone, ends⟩ := R
  simp only at b1 b2 b3 b4 b5 b6 b7 b8
  subst b1
  subst b4
  have hRow := row_c l hL m 0 b6
  rw [b3] at hRow
  have hNo := nodes_c l hL m 0 b6
  rw [b8] at hNo
  have hLi := list_c l hL m b6
  generalize listF l m = ls at *
  have hpc := plain_c
  generalize plainP = pp at *
  refine pure_fin tabOk Try.func9 rfl Try.ntmps9 rfl rfl rfl fun w cl => ?_
  refine go ?_
  refine a_q (call_step (hpc) rfl (fun a w => Try.call32 a w) rfl) rfl rfl rfl ?_
  refine go ?_
  refine a_q (call_step (hW) rfl (fun a w => Try.call10 a w) rfl) rfl rfl rfl ?_
  refine go ?_
  refine a_q (call_step (hpc) rfl (fun a w => Try.call32 a w) rfl) rfl rfl rfl ?_
  refine go ?_
  refine a_q (call_step (hP) rfl (fun a w => Try.call20 a w) rfl) rfl rfl rfl ?_
  refine go ?_
  refine awp_loop_ok (fun i : Nat => i ≤ steps.length) (fun i => ⟨[(8, dI i), (6, dI ((steps.take i).foldl awL (0, -1)).1), (7, dI ((steps.take i).foldl awL (0, -1)).2), (2, dSteps steps), (1, .ptr 0 0), (3, .ptr 2 0), (4, dGones [[]]), (5, dB true)], [(0, layD l), (2, [dInts m])], []⟩) (fun i => steps.length - i) 0 (by omega) (zX) ?_
  intro i hi
  refine go ?_
  refine ck_b (fun h1 => ?_) (fun h1 => ?_) <;> try rw [h1]
  · have h1' := of_decide_eq_true h1
    obtain ⟨s, hs⟩ := getI (l := steps) (i := i) (by omega) h1'
    have hs' := hs
    simp only [Int.toNat_natCast] at hs'
    have ht : (steps.take (i + 1)).foldl awL (0, -1) = awL ((steps.take i).foldl awL (0, -1)) s := by
      rw [List.take_add_one, hs', List.foldl_append]; rfl
    have hb := awL_le (steps.take i) (0, -1)
    simp only [List.length_take] at hb
    generalize (steps.take i).foldl awL (0, -1) = q at *
    refine go ?_
    refine a_q (indexAddr_step tabOk (pStep s) rfl rfl rfl rfl rfl rfl (by first | omega | (simp; done) | (simp; omega)) (by first | omega | (simp; done) | (simp; omega)) (by first | (simp; done) | exact List.cons_ne_nil _ _) (steps_idx hs)) rfl rfl rfl ?_
    refine go ?_
    generalize h2 : s.done = cc; cases cc
    · refine go ?_
      refine a_q (indexAddr_step tabOk (pStep s) rfl rfl rfl rfl rfl rfl (by first | omega | (simp; done) | (simp; omega)) (by first | omega | (simp; done) | (simp; omega)) (by first | (simp; done) | exact List.cons_ne_nil _ _) (steps_idx hs)) rfl rfl rfl ?_
      refine go ?_
      rw [h2]
      refine go ?_
      refine ⟨i + 1, by omega, by omega, ?_⟩
      rw [ht, awL, h2]
      exact zX
    · refine go ?_
      refine a_q (indexAddr_step tabOk (pStep s) rfl rfl rfl rfl rfl rfl (by first | omega | (simp; done) | (simp; omega)) (by first | omega | (simp; done) | (simp; omega)) (by first | (simp; done) | exact List.cons_ne_nil _ _) (steps_idx hs)) rfl rfl rfl ?_
      refine go ?_
      rw [h2]
      refine go ?_
      refine a_q (indexAddr_step tabOk (pStep s) rfl rfl rfl rfl rfl rfl (by first | omega | (simp; done) | (simp; omega)) (by first | omega | (simp; done) | (simp; omega)) (by first | (simp; done) | exact List.cons_ne_nil _ _) (steps_idx hs)) rfl rfl rfl ?_
      refine go ?_
      generalize h3 : decide (s.op.kind = 7) = cc; cases cc
      · refine go ?_
        refine ⟨i + 1, by omega, by omega, ?_⟩
        rw [ht, awL, h2, h3]
        exact zX
      · refine go ?_
        refine a_q (indexAddr_step tabOk (pStep s) rfl rfl rfl rfl rfl rfl (by first | omega | (simp; done) | (simp; omega)) (by first | omega | (simp; done) | (simp; omega)) (by first | (simp; done) | exact List.cons_ne_nil _ _) (steps_idx hs)) rfl rfl rfl ?_
        refine go ?_
        refine ⟨i + 1, by omega, by omega, ?_⟩
        rw [ht, awL, h2, h3]
        exact zX
  · have h1' := of_decide_eq_false h1
    rw [List.take_of_length_le (by omega), b2]
    refine go ?_
    refine a_q (call_step (hRow) rfl (fun a w => Try.call14 a w) rfl) rfl rfl rfl ?_
    refine go ?_
    refine a_q (call_step (ints_c [7] [7] (by simp)) rfl (fun a w => Try.call11 a w) rfl) rfl rfl rfl ?_
    refine go ?_
    refine a_q (indexAddr_step tabOk [plGone []] rfl rfl rfl rfl rfl rfl (by first | omega | (simp; done) | (simp; omega)) (by first | omega | (simp; done) | (simp; omega)) (by first | (simp; done) | exact List.cons_ne_nil _ _) (map_idx (l := [[]]) (i := 0) rfl)) rfl rfl rfl ?_
    refine go ?_
    refine a_q (call_step (hLi) rfl (fun a w => Try.call22 a w) rfl) rfl rfl rfl ?_
    refine go ?_
    rw [b5]
    refine go ?_
    refine a_q (call_step (hNo) rfl (fun a w => Try.call12 a w) rfl) rfl rfl rfl ?_
    refine go ?_
    refine a_q (call_step (ints_c [1] [1] (by simp)) rfl (fun a w => Try.call11 a w) rfl) rfl rfl rfl ?_
    refine go ?_
    first | refine fin_ret rfl ?_ | refine fin_normal rfl ?_
    rfl
end Go.Proofs.Ytgoijmomglomlaa
