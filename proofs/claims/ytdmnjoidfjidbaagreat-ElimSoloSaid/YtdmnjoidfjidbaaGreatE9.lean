/- The document's readers of stacks: their walks. -/
import Derived.Test.YtdmnjoidfjidbaaGreatE3
namespace Go.Proofs.YtdmnjoidfjidbaaGreat
open Go.RowKit
set_option maxRecDepth 100000

theorem refmod_c (m n : Int) (hn : 0 < n) (hb : n < 4611686018427387904) : PureC Tryz.prog 108 [dI m, dI n] (dI (m % n)) := by
  have h := tmod_fix m n hn
  have h0 := Int.emod_nonneg m (show n ≠ 0 by omega)
  have h1 := Int.emod_lt_of_pos m hn
  refine pure_fin tabOk Tryz.func108 rfl Tryz.ntmps108 rfl rfl rfl fun w cl => ?_
  refine go ?_
  refine a_q (remT_step rfl rfl rfl hn) rfl rfl rfl ?_
  generalize m.tmod n = k at h
  refine go ?_
  generalize h2 : decide (k < 0) = cc; cases cc
  · have h2' := of_decide_eq_false h2
    refine go ?_
    first | refine fin_ret rfl ?_ | refine fin_normal rfl ?_
    rw [h.2 h2']
  · have h2' := of_decide_eq_true h2
    have h3 := h.1 h2'
    refine go ?_
    first | refine fin_ret rfl ?_ | refine fin_normal rfl ?_
    rw [← h3]
theorem refof_c (n : Int) : PureC Tryz.prog 105 [dI n] (dRef (ofW n)) := by
  have h0 := Int.emod_nonneg n (show (35184372088832 : Int) ≠ 0 by omega)
  have h1 := Int.emod_lt_of_pos n (show (0 : Int) < 35184372088832 by omega)
  have hE : ofW n = ⟨n % 35184372088832 % 65536, decide (n % 35184372088832 / 65536 % 2 = 1), n % 35184372088832 / 131072⟩ := by
    unfold ofW
    congr 1
    · omega
    · rw [decide_eq_decide]; omega
    · omega
  rw [hE]
  refine pure_fin tabOk Tryz.func105 rfl Tryz.ntmps105 rfl rfl rfl fun w cl => ?_
  refine go ?_
  refine a_q (call_step (refmod_c n 35184372088832 (by omega) (by omega)) rfl (fun a w => Tryz.call108 a w) rfl) rfl rfl rfl ?_
  generalize n % 35184372088832 = k at *
  refine goK ?_
  refine a_q (quo_step rfl rfl rfl (by omega) (by omega) (by omega)) rfl rfl rfl ?_
  refine goK ?_
  refine a_q (quo_step rfl rfl rfl (by omega) (by omega) (by omega)) rfl rfl rfl ?_
  refine goK ?_
  first | refine fin_ret rfl ?_ | refine fin_normal rfl ?_
  rfl
theorem refnode_c (l : LayT) (hL : LayOk l) (n i : Int) (hi : 0 ≤ i ∧ i ≤ 7) : PureC Tryz.prog 59 [dLay l, dI n, dI i] (dI (nodeF l n i)) := by
  obtain ⟨a1, a2⟩ := hL.node
  obtain ⟨b1, b2⟩ := hL.nodes
  have hE : nodeF l n i = if (decide (1 ≤ n) && decide (n ≤ l.nodes)) then IntKind.i64.wrap (IntKind.i64.wrap (l.node + IntKind.i64.wrap (8 * IntKind.i64.wrap (n - 1))) + i) else -1 := by
    unfold nodeF withinF
    split
    · rw [if_neg]
      simp only [Bool.and_eq_true, decide_eq_true_eq]
      omega
    · split
      · rw [if_neg]
        simp only [Bool.and_eq_true, decide_eq_true_eq]
        omega
      · rw [if_pos (by simp only [Bool.and_eq_true, decide_eq_true_eq]; omega)]
        rw [wrap_id (n := n - 1) (by omega) (by omega), wrap_id (n := 8 * (n - 1)) (by omega) (by omega), wrap_id (n := l.node + 8 * (n - 1)) (by omega) (by omega), wrap_id (by omega) (by omega)]
        omega
  have hin : (decide (0 ≤ i) && decide (i ≤ 7)) = true := by simp only [Bool.and_eq_true, decide_eq_true_eq]; omega
  rw [hE]
  refine pure_fin tabOk Tryz.func59 rfl Tryz.ntmps59 rfl rfl rfl fun w cl => ?_
  refine go ?_
  by_cases h0 : 1 ≤ n ∧ n ≤ l.nodes
  · have hc : (decide (1 ≤ n) && decide (n ≤ l.nodes)) = true := by simp only [Bool.and_eq_true, decide_eq_true_eq]; omega
    have e1 := wrap_id (n := n - 1) (by omega) (by omega)
    have e2 := wrap_id (n := 8 * (n - 1)) (by omega) (by omega)
    have e3 := wrap_id (n := l.node + 8 * (n - 1)) (by omega) (by omega)
    have e4 := wrap_id (n := l.node + 8 * (n - 1) + i) (by omega) (by omega)
    rw [hc, e1, e2, e3, e4]
    refine awp_region_q [] rfl (by kernel_rfl) (by kernel_rfl) ?_
    refine goQ ?_
    rw [e2]
    refine goQ ?_
    refine r_q (call_step (refin_c n 1 l.nodes) rfl (fun a w => Tryz.call52 a w) rfl) rfl rfl ?_
    rw [hc]
    refine goQ ?_
    refine r_q (call_step (refin_c i 0 7) rfl (fun a w => Tryz.call52 a w) rfl) rfl rfl ?_
    rw [hin]
    refine goQ ?_
    refine r_q (call_step (refat_c _ true) rfl (fun a w => Tryz.call51 a w) rfl) rfl rfl ?_
    refine goQ ?_
    refine go ?_
    first | refine fin_ret rfl ?_ | refine fin_normal rfl ?_
    rfl
  · have hc : (decide (1 ≤ n) && decide (n ≤ l.nodes)) = false := by rw [Bool.eq_false_iff]; simp only [ne_eq, Bool.and_eq_true, decide_eq_true_eq]; omega
    rw [hc]
    refine awp_region_q [] rfl (by kernel_rfl) (by kernel_rfl) ?_
    refine goQ ?_
    refine r_q (call_step (refin_c n 1 l.nodes) rfl (fun a w => Tryz.call52 a w) rfl) rfl rfl ?_
    rw [hc]
    refine goQ ?_
    refine r_q (call_step (refat_c _ false) rfl (fun a w => Tryz.call51 a w) rfl) rfl rfl ?_
    refine goQ ?_
    refine go ?_
    first | refine fin_ret rfl ?_ | refine fin_normal rfl ?_
    rfl
end Go.Proofs.YtdmnjoidfjidbaaGreat
