/- What an operation's program does next: its walk. -/
import Derived.Test.YtgoijmomglomlaaG5
namespace Go.Proofs.Ytgoijmomglomlaa
open Go.RowKit
set_option maxRecDepth 100000

abbrev dNx (r : AccT × OutT × Bool) : Dt := .tup [dAcc r.1, dOut r.2.1, dB r.2.2]
set_option maxHeartbeats 8000000 in
theorem next_c (l : LayT) (hL : LayOk l) (me : Int) (gone : List (Int × Int)) (op : OpT) (log : List ResT) (hv : op.kind = 6 → 0 ≤ op.a ∧ op.a < 4294967296) (hgo : GoneOk gone) (hgl : gone.length + log.length ≤ 10000) : PureC Try.prog 44 [dLay l, dI me, dGone gone, dOp op, dLog log] (dNx (nextF l me gone op log)) := by
  generalize hE : nextF l me gone op log = E
  unfold nextF at hE
  have hl : log.length ≤ 1000000 := by omega
  refine pure_fin tabOk Try.func44 rfl Try.ntmps44 rfl rfl rfl fun w cl => ?_
  refine goC ?_
  refine a_b (box_step 0 rfl rfl rfl rfl) rfl rfl rfl rfl ?_
  refine a_b (box_step 1 rfl rfl rfl rfl) rfl rfl rfl rfl ?_
  refine a_b (alloc_step tabOk 2 rfl rfl rfl rfl) rfl rfl rfl rfl ?_
  refine a_b (alloc_step tabOk 3 rfl rfl rfl rfl) rfl rfl rfl rfl ?_
  refine go ?_
  refine awp_region_q [] rfl (by kernel_rfl) (by kernel_rfl) ?_
  refine goQ ?_
  refine r_q (call_step (head_c l hL op.obj) rfl (fun a w => Try.call34 a w) rfl) rfl rfl ?_
  refine goQ ?_
  refine r_q (call_step (tail_c l hL op.obj) rfl (fun a w => Try.call27 a w) rfl) rfl rfl ?_
  refine goQ ?_
  refine go ?_
  generalize h1 : decide (headF l op.obj < 0) = cc; cases cc
  · rw [if_neg (of_decide_eq_false h1)] at hE
    refine go ?_
    refine a_callI (begin_i l me gone log) rfl (fun a w => Try.call66 a w) rfl rfl trivial trivial rfl rfl rfl rfl ?_ ?_
    · rintro d bs ⟨rfl, rfl⟩; exact ⟨.inr rfl, .inr rfl, .inr rfl, trivial⟩
    rintro d bs ⟨rfl, rfl⟩
    refine goO ?_
    refine goC ?_
    refine a_b (alloc_step tabOk 18 rfl rfl rfl rfl) rfl rfl rfl rfl ?_
    refine go ?_
    generalize h2 : decide (op.kind = 6) = cc; cases cc
    · rw [if_neg (of_decide_eq_false h2)] at hE
      refine go ?_
      generalize h3 : decide (op.kind = 7) = cc; cases cc
      · rw [if_neg (of_decide_eq_false h3)] at hE
        refine go ?_
        refine a_q (call_step (refuse_c gone (by omega)) rfl (fun a w => Try.call65 a w) rfl) rfl rfl rfl ?_
        refine go ?_
        first | refine fin_ret rfl ?_ | refine fin_normal rfl ?_
        rw [← hE]
      · rw [if_pos (of_decide_eq_true h3)] at hE
        refine go ?_
        refine a_callI (receives_i l me log ⟨0, gone, 0, 0, 0⟩ (headF l op.obj) (tailF l op.obj)) rfl (fun a w => Try.call68 a w) rfl rfl (by (repeat (first | exact trivial | refine ⟨⟨rfl, rfl⟩, ?_⟩))) (by (repeat (first | exact trivial | refine ⟨.inr rfl, ?_⟩ | refine ⟨.inl rfl, ?_⟩))) rfl rfl rfl rfl ?_ ?_
        · rintro d bs ⟨rfl, rfl⟩; exact ⟨.inl rfl, .inl rfl, .inl rfl, .inr rfl, .inr rfl, .inr rfl, trivial⟩
        rintro d bs ⟨rfl, rfl⟩
        refine go ?_
        refine a_callI (play_recv l me log ⟨0, gone, 0, 0, 0⟩ (headF l op.obj) (tailF l op.obj) _ (by simp only; omega) (next1r_x l hL me log ⟨0, gone, 0, 0, 0⟩ (headF l op.obj) (tailF l op.obj) hgo hgl (Nat.zero_le _) hl)) rfl (fun a w => Try.call69 a w) rfl rfl (by (repeat (first | exact trivial | refine ⟨⟨rfl, rfl⟩, ?_⟩))) trivial rfl rfl rfl rfl ?_ ?_
        · rintro d bs ⟨rfl, _⟩; exact trivial
        rintro d bs ⟨rfl, ⟨x, s', hm, rfl⟩ | ⟨a, hm, rfl⟩⟩
        · rw [hm] at hE
          refine go ?_
          first | refine fin_ret rfl ?_ | refine fin_normal rfl ?_
          rw [← hE]; rfl
        · rw [hm] at hE
          refine go ?_
          first | refine fin_ret rfl ?_ | refine fin_normal rfl ?_
          rw [← hE]; rfl
    · rw [if_pos (of_decide_eq_true h2)] at hE
      have hva := hv (of_decide_eq_true h2)
      refine go ?_
      refine a_callI (sends_i l me log ⟨0, gone, 0, 0, 0⟩ (tailF l op.obj) op.a) rfl (fun a w => Try.call67 a w) rfl rfl (by (repeat (first | exact trivial | refine ⟨⟨rfl, rfl⟩, ?_⟩))) (by (repeat (first | exact trivial | refine ⟨.inr rfl, ?_⟩ | refine ⟨.inl rfl, ?_⟩))) rfl rfl rfl rfl ?_ ?_
      · rintro d bs ⟨rfl, rfl⟩; exact ⟨.inl rfl, .inl rfl, .inl rfl, .inr rfl, .inr rfl, .inr rfl, .inr rfl, trivial⟩
      rintro d bs ⟨rfl, rfl⟩
      refine go ?_
      refine a_callI (play_send l me log ⟨0, gone, 0, 0, 0⟩ (tailF l op.obj) op.a _ (by simp only; omega) (next1s_x l hL me log ⟨0, gone, 0, 0, 0⟩ (tailF l op.obj) op.a hva.1 hva.2 (Nat.zero_le _) hl)) rfl (fun a w => Try.call69 a w) rfl rfl (by (repeat (first | exact trivial | refine ⟨⟨rfl, rfl⟩, ?_⟩))) trivial rfl rfl rfl rfl ?_ ?_
      · rintro d bs ⟨rfl, _⟩; exact trivial
      rintro d bs ⟨rfl, ⟨x, s', hm, rfl⟩ | ⟨a, hm, rfl⟩⟩
      · rw [hm] at hE
        refine go ?_
        first | refine fin_ret rfl ?_ | refine fin_normal rfl ?_
        rw [← hE]; rfl
      · rw [hm] at hE
        refine go ?_
        first | refine fin_ret rfl ?_ | refine fin_normal rfl ?_
        rw [← hE]; rfl
  · rw [if_pos (of_decide_eq_true h1)] at hE
    refine go ?_
    refine a_q (call_step (refuse_c gone (by omega)) rfl (fun a w => Try.call65 a w) rfl) rfl rfl rfl ?_
    refine go ?_
    first | refine fin_ret rfl ?_ | refine fin_normal rfl ?_
    rw [← hE]
end Go.Proofs.Ytgoijmomglomlaa
