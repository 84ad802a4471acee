/- The document's readers of stacks: their walks. -/
import Derived.Test.YtdmnjoidfjidbaaE3
namespace Go.Proofs.Ytdmnjoidfjidbaa
open Go.RowKit
set_option maxRecDepth 100000

theorem refmod_c (m n : Int) (hn : 0 < n) (hb : n < 4611686018427387904) : PureC Try.prog 81 [dI m, dI n] (dI (m % n)) := by
  have h := tmod_fix m n hn
  have h0 := Int.emod_nonneg m (show n ≠ 0 by omega)
  have h1 := Int.emod_lt_of_pos m hn
  refine pure_fin tabOk Try.func81 rfl Try.ntmps81 rfl rfl rfl fun w cl => ?_
  refine go ?_
  refine a_q (remT_step rfl rfl rfl hn) rfl rfl rfl ?_
  generalize m.tmod n = k at h
  refine go ?_
  generalize h2 : decide (k < 0) = cc; cases cc
  · have h2' := of_decide_eq_false h2
    refine go ?_
    first | refine fin_ret rfl ?_ | refine fin_normal rfl ?_
    rw [h.2 h2']
  · have h2' := of_decide_eq_true h2
    have h3 := h.1 h2'
    refine go ?_
    first | refine fin_ret rfl ?_ | refine fin_normal rfl ?_
    rw [← h3]
theorem refof_c (n : Int) : PureC Try.prog 55 [dI n] (dRef (ofW n)) := by
  have h0 := Int.emod_nonneg n (show (35184372088832 : Int) ≠ 0 by omega)
  have h1 := Int.emod_lt_of_pos n (show (0 : Int) < 35184372088832 by omega)
  have hE : ofW n = ⟨n % 35184372088832 % 65536, decide (n % 35184372088832 / 65536 % 2 = 1), n % 35184372088832 / 131072⟩ := by
    unfold ofW
    congr 1
    · omega
    · rw [decide_eq_decide]; omega
    · omega
  rw [hE]
  refine pure_fin tabOk Try.func55 rfl Try.ntmps55 rfl rfl rfl fun w cl => ?_
  refine go ?_
  refine a_q (call_step (refmod_c n 35184372088832 (by omega) (by omega)) rfl (fun a w => Try.call81 a w) rfl) rfl rfl rfl ?_
  generalize n % 35184372088832 = k at *
  refine goK ?_
  refine a_q (quo_step rfl rfl rfl (by omega) (by omega) (by omega)) rfl rfl rfl ?_
  refine goK ?_
  refine a_q (quo_step rfl rfl rfl (by omega) (by omega) (by omega)) rfl rfl rfl ?_
  refine goK ?_
  first | refine fin_ret rfl ?_ | refine fin_normal rfl ?_
  rfl
theorem reftop_c (l : LayT) (hL : LayOk l) (s : Int) : PureC Try.prog 54 [dLay l, dI s] (dI (topF l s)) := by
  obtain ⟨a1, a2⟩ := hL.stack
  obtain ⟨b1, b2⟩ := hL.stacks
  obtain ⟨c1, c2⟩ := hL.slots
  have hE : topF l s = if (decide (0 ≤ s) && decide (s ≤ l.stacks - 1)) then IntKind.i64.wrap (l.stack + IntKind.i64.wrap ((l.slots + 1) * s)) else -1 := by
    unfold topF withinF
    split
    · rw [if_neg]
      simp only [Bool.and_eq_true, decide_eq_true_eq]
      omega
    · rename_i hn
      have hm0 : 0 ≤ s * (1 + l.slots) := Int.mul_nonneg (by omega) (by omega)
      have hm1 : s * (1 + l.slots) ≤ 1000000 * 9 := Int.mul_le_mul (by omega) (by omega) (by omega) (by omega)
      rw [if_pos (by simp only [Bool.and_eq_true, decide_eq_true_eq]; omega), Int.mul_comm, Int.add_comm 1 l.slots] at *
      rw [wrap_id (n := (l.slots + 1) * s) (by omega) (by omega), wrap_id (by omega) (by omega)]
      omega
  rw [hE]
  refine pure_fin tabOk Try.func54 rfl Try.ntmps54 rfl rfl rfl fun w cl => ?_
  refine go ?_
  refine awp_region_q [] rfl (by kernel_rfl) (by kernel_rfl) ?_
  refine goQ ?_
  refine r_q (call_step (refin_c s 0 (l.stacks - 1)) rfl (fun a w => Try.call31 a w) rfl) rfl rfl ?_
  refine goQ ?_
  refine r_q (call_step (refat_c _ (decide (0 ≤ s) && decide (s ≤ l.stacks - 1))) rfl (fun a w => Try.call47 a w) rfl) rfl rfl ?_
  refine goQ ?_
  refine go ?_
  first | refine fin_ret rfl ?_ | refine fin_normal rfl ?_
  rfl
theorem refnode_c (l : LayT) (hL : LayOk l) (n i : Int) (hi : 0 ≤ i ∧ i ≤ 7) : PureC Try.prog 26 [dLay l, dI n, dI i] (dI (nodeF l n i)) := by
  obtain ⟨a1, a2⟩ := hL.node
  obtain ⟨b1, b2⟩ := hL.nodes
  have hE : nodeF l n i = if (decide (1 ≤ n) && decide (n ≤ l.nodes)) then IntKind.i64.wrap (IntKind.i64.wrap (l.node + IntKind.i64.wrap (8 * IntKind.i64.wrap (n - 1))) + i) else -1 := by
    unfold nodeF withinF
    split
    · rw [if_neg]
      simp only [Bool.and_eq_true, decide_eq_true_eq]
      omega
    · split
      · rw [if_neg]
        simp only [Bool.and_eq_true, decide_eq_true_eq]
        omega
      · rw [if_pos (by simp only [Bool.and_eq_true, decide_eq_true_eq]; omega)]
        rw [wrap_id (n := n - 1) (by omega) (by omega), wrap_id (n := 8 * (n - 1)) (by omega) (by omega), wrap_id (n := l.node + 8 * (n - 1)) (by omega) (by omega), wrap_id (by omega) (by omega)]
        omega
  have hin : (decide (0 ≤ i) && decide (i ≤ 7)) = true := by simp only [Bool.and_eq_true, decide_eq_true_eq]; omega
  rw [hE]
  refine pure_fin tabOk Try.func26 rfl Try.ntmps26 rfl rfl rfl fun w cl => ?_
  refine go ?_
  by_cases h0 : 1 ≤ n ∧ n ≤ l.nodes
  · have hc : (decide (1 ≤ n) && decide (n ≤ l.nodes)) = true := by simp only [Bool.and_eq_true, decide_eq_true_eq]; omega
    have e1 := wrap_id (n := n - 1) (by omega) (by omega)
    have e2 := wrap_id (n := 8 * (n - 1)) (by omega) (by omega)
    have e3 := wrap_id (n := l.node + 8 * (n - 1)) (by omega) (by omega)
    have e4 := wrap_id (n := l.node + 8 * (n - 1) + i) (by omega) (by omega)
    rw [hc, e1, e2, e3, e4]
    refine awp_region_q [] rfl (by kernel_rfl) (by kernel_rfl) ?_
    refine goQ ?_
    rw [e2]
    refine goQ ?_
    refine r_q (call_step (refin_c n 1 l.nodes) rfl (fun a w => Try.call31 a w) rfl) rfl rfl ?_
    rw [hc]
    refine goQ ?_
    refine r_q (call_step (refin_c i 0 7) rfl (fun a w => Try.call31 a w) rfl) rfl rfl ?_
    rw [hin]
    refine goQ ?_
    refine r_q (call_step (refat_c _ true) rfl (fun a w => Try.call47 a w) rfl) rfl rfl ?_
    refine goQ ?_
    refine go ?_
    first | refine fin_ret rfl ?_ | refine fin_normal rfl ?_
    rfl
  · have hc : (decide (1 ≤ n) && decide (n ≤ l.nodes)) = false := by rw [Bool.eq_false_iff]; simp only [ne_eq, Bool.and_eq_true, decide_eq_true_eq]; omega
    rw [hc]
    refine awp_region_q [] rfl (by kernel_rfl) (by kernel_rfl) ?_
    refine goQ ?_
    refine r_q (call_step (refin_c n 1 l.nodes) rfl (fun a w => Try.call31 a w) rfl) rfl rfl ?_
    rw [hc]
    refine goQ ?_
    refine r_q (call_step (refat_c _ false) rfl (fun a w => Try.call47 a w) rfl) rfl rfl ?_
    refine goQ ?_
    refine go ?_
    first | refine fin_ret rfl ?_ | refine fin_normal rfl ?_
    rfl
set_option maxHeartbeats 4000000 in
theorem refnodes_c (l : LayT) (hL : LayOk l) (m : List Int) (s : Int) : PureC Try.prog 24 [dLay l, dMem m, dI s] (dInts (nodesF l m s)) := by
  generalize hE : nodesF l m s = E
  unfold nodesF at hE
  obtain ⟨hn0, hn1⟩ := hL.nodes
  refine pure_fin tabOk Try.func24 rfl Try.ntmps24 rfl rfl rfl fun w cl => ?_
  refine go ?_
  refine a_q (call_step (reftop_c l hL s) rfl (fun a w => Try.call54 a w) rfl) rfl rfl rfl ?_
  refine go ?_
  generalize h1 : decide (topF l s < 0) = cc; cases cc
  · rw [if_neg (of_decide_eq_false h1)] at hE
    refine go ?_
    refine a_q (call_step (cell_c m (topF l s)) rfl (fun a w => Try.call25 a w) rfl) rfl rfl rfl ?_
    refine go ?_
    refine a_q (call_step (refof_c (atF m (topF l s))) rfl (fun a w => Try.call55 a w) rfl) rfl rfl rfl ?_
    refine go ?_
    generalize (ofW (atF m (topF l s))).idx = n0 at hE
    refine awp_ghost (tip_ghost 8 0 3 1 rfl rfl rfl) ?_
    refine awp_loop_ok (fun p : Nat × List Int × Int => p.1 + p.2.1.length = l.nodes.toNat + 1 ∧ chainF (fun n => atF m (nodeF l n 0)) l.nodes p.1 p.2.1 p.2.2 = E) (fun p => ⟨[(10, dI p.2.2), (8, .tip 0 p.2.1.length (pInts p.2.1)), (3, .ptr 0 0), (4, .ptr 1 0)], [(1, [dInts m]), (0, layD l)], [(0, ⟨3, 1, p.2.1.length⟩)]⟩) (fun p => p.1) (l.nodes.toNat + 1, [], n0) ⟨by simp, hE⟩ (zX) ?_
    rintro ⟨k, acc, n⟩ ⟨hk, hE⟩
    simp only at hk hE
    refine (show AWP _ _ _ _ ⟨[(10, dI n), (8, .tip 0 acc.length (pInts acc)), (3, .ptr 0 0), (4, .ptr 1 0)], [(1, [dInts m]), (0, layD l)], [(0, ⟨3, 1, acc.length⟩)]⟩ from ?_)
    refine go ?_
    refine ck_b (fun h2 => ?_) (fun h2 => ?_) <;> try rw [h2]
    · have h2' := of_decide_eq_true h2
      obtain ⟨k, rfl⟩ : ∃ j, k = j + 1 := ⟨k - 1, by omega⟩
      rw [chainF] at hE
      refine go ?_
      refine a_q (call_step (in_c acc n (by omega)) rfl (fun a w => Try.call56 a w) rfl) rfl rfl rfl ?_
      refine go ?_
      generalize h3 : decide (n < 1) = cc; cases cc
      · have h3' := of_decide_eq_false h3
        refine go ?_
        generalize h4 : decide (n > l.nodes) = cc; cases cc
        · have h4' := of_decide_eq_false h4
          refine go ?_
          generalize h5 : decide (n ∈ acc) = cc; cases cc
          · rw [if_pos ⟨by omega, by omega, of_decide_eq_false h5⟩] at hE
            refine go ?_
            refine a_append tabOk rfl rfl rfl rfl rfl rfl rfl rfl rfl rfl rfl rfl rfl (by unfold maxLen; omega) (by show (_ + _) * 8 ≤ _; omega) ?_
            rw [pInts_snoc, show acc.length + 1 = (acc ++ [n]).length by simp]
            refine go ?_
            refine awp_region_q [] rfl (by kernel_rfl) (by kernel_rfl) ?_
            refine goQ ?_
            refine r_q (call_step (refnode_c l hL n 0 (by omega)) rfl (fun a w => Try.call26 a w) rfl) rfl rfl ?_
            refine goQ ?_
            refine r_q (call_step (cell_c m (nodeF l n 0)) rfl (fun a w => Try.call25 a w) rfl) rfl rfl ?_
            refine goQ ?_
            refine go ?_
            exact ⟨(k, acc ++ [n], atF m (nodeF l n 0)), ⟨by simp; omega, hE⟩, by simp only; omega, zX⟩
          · rw [if_neg (fun hh => hh.2.2 (of_decide_eq_true h5))] at hE
            refine go ?_
            first | refine fin_ret rfl ?_ | refine fin_normal rfl ?_
            rw [← hE]
        · have h4' := of_decide_eq_true h4
          rw [if_neg (fun hh => by omega)] at hE
          refine go ?_
          first | refine fin_ret rfl ?_ | refine fin_normal rfl ?_
          rw [← hE]
      · have h3' := of_decide_eq_true h3
        rw [if_neg (fun hh => by omega)] at hE
        refine go ?_
        first | refine fin_ret rfl ?_ | refine fin_normal rfl ?_
        rw [← hE]
    · have h2' := of_decide_eq_false h2
      obtain rfl : k = 0 := by omega
      rw [chainF] at hE
      refine go ?_
      first | refine fin_ret rfl ?_ | refine fin_normal rfl ?_
      rw [← hE]
  · rw [if_pos (of_decide_eq_true h1)] at hE
    refine go ?_
    first | refine fin_ret rfl ?_ | refine fin_normal rfl ?_
    rw [← hE]
    rfl
set_option maxHeartbeats 4000000 in
theorem refrow_c (l : LayT) (hL : LayOk l) (m : List Int) (s : Int) : PureC Try.prog 13 [dLay l, dMem m, dI s] (dInts (rowF l m s)) := by
  have hln := nodesF_len l m s
  have hC := refnodes_c l hL m s
  unfold rowF
  obtain ⟨hn0, hn1⟩ := hL.nodes
  generalize nodesF l m s = ns at *
  refine pure_fin tabOk Try.func13 rfl Try.ntmps13 rfl rfl rfl fun w cl => ?_
  refine go ?_
  refine a_q (call_step (hC) rfl (fun a w => Try.call24 a w) rfl) rfl rfl rfl ?_
  refine go ?_
  refine awp_ghost (tip_ghost 8 0 3 1 rfl rfl rfl) ?_
  refine awp_loop_ok (fun i : Nat => i ≤ ns.length) (fun i => ⟨[(9, dI i), (7, dInts ns), (8, .tip 0 i (pInts ((ns.take i).map fun n => atF m (nodeF l n 1)))), (3, .ptr 0 0), (4, .ptr 1 0)], [(1, [dInts m]), (0, layD l)], [(0, ⟨3, 1, i⟩)]⟩) (fun i => ns.length - i) 0 (by omega) (zX) ?_
  intro i hi
  refine go ?_
  refine ck_b (fun h1 => ?_) (fun h1 => ?_) <;> try rw [h1]
  · have h1' := of_decide_eq_true h1
    obtain ⟨n, hn⟩ := getI (l := ns) (i := i) (by omega) h1'
    refine go ?_
    refine awp_region_q [] rfl (by kernel_rfl) (by kernel_rfl) ?_
    refine goQ ?_
    refine r_q (indexAddr_step tabOk [pI n] rfl rfl rfl rfl rfl rfl (by first | omega | (simp; done) | (simp; omega)) (by first | omega | (simp; done) | (simp; omega)) (by first | (simp; done) | exact List.cons_ne_nil _ _) (ints_idx hn)) rfl rfl ?_
    refine goQ ?_
    refine r_q (call_step (refnode_c l hL n 1 (by omega)) rfl (fun a w => Try.call26 a w) rfl) rfl rfl ?_
    refine goQ ?_
    refine r_q (call_step (cell_c m (nodeF l n 1)) rfl (fun a w => Try.call25 a w) rfl) rfl rfl ?_
    refine goQ ?_
    refine r_append tabOk rfl rfl rfl rfl rfl rfl rfl rfl rfl rfl rfl rfl rfl (by unfold maxLen; omega) (by show (_ + _) * 8 ≤ _; omega) ?_
    have ht : ns.take (i + 1) = ns.take i ++ [n] := by
      rw [List.take_add_one]
      simp only [Int.toNat_natCast] at hn
      rw [hn]; rfl
    rw [pInts_snoc, show (ns.take i).map (fun n => atF m (nodeF l n 1)) ++ [atF m (nodeF l n 1)] = (ns.take (i + 1)).map (fun n => atF m (nodeF l n 1)) by rw [ht]; simp]
    refine goQ ?_
    refine go ?_
    exact ⟨i + 1, by omega, by omega, zX⟩
  · have h1' := of_decide_eq_false h1
    refine go ?_
    first | refine fin_ret rfl ?_ | refine fin_normal rfl ?_
    rw [List.take_of_length_le (by omega)]
    simp only [dInts, List.length_map]
    rw [show ns.length = i by omega]
end Go.Proofs.Ytdmnjoidfjidbaa
