/- The document's readers of stacks, and the statement on readers: their walks. -/
import Derived.Test.YtgoijmomglomlaaE8
import Derived.Test.YtgoijmomglomlaaShort
namespace Go.Proofs.Ytgoijmomglomlaa
open Go.RowKit
set_option maxRecDepth 100000

theorem refmod_c (m n : Int) (hn : 0 < n) (hb : n < 4611686018427387904) : PureC Try.prog 63 [dI m, dI n] (dI (m % n)) := by
  have h := tmod_fix m n hn
  have h0 := Int.emod_nonneg m (show n ≠ 0 by omega)
  have h1 := Int.emod_lt_of_pos m hn
  refine pure_fin tabOk Try.func63 rfl Try.ntmps63 rfl rfl rfl fun w cl => ?_
  refine go ?_
  refine a_q (remT_step rfl rfl rfl hn) rfl rfl rfl ?_
  generalize m.tmod n = k at h
  refine go ?_
  generalize h2 : decide (k < 0) = cc; cases cc
  · have h2' := of_decide_eq_false h2
    refine go ?_
    first | refine fin_ret rfl ?_ | refine fin_normal rfl ?_
    rw [h.2 h2']
  · have h2' := of_decide_eq_true h2
    have h3 := h.1 h2'
    refine go ?_
    first | refine fin_ret rfl ?_ | refine fin_normal rfl ?_
    rw [← h3]
theorem refof_c (n : Int) : PureC Try.prog 38 [dI n] (dRef (ofW n)) := by
  have h0 := Int.emod_nonneg n (show (35184372088832 : Int) ≠ 0 by omega)
  have h1 := Int.emod_lt_of_pos n (show (0 : Int) < 35184372088832 by omega)
  have hE : ofW n = ⟨n % 35184372088832 % 65536, decide (n % 35184372088832 / 65536 % 2 = 1), n % 35184372088832 / 131072⟩ := by
    unfold ofW
    congr 1
    · omega
    · rw [decide_eq_decide]; omega
    · omega
  rw [hE]
  refine pure_fin tabOk Try.func38 rfl Try.ntmps38 rfl rfl rfl fun w cl => ?_
  refine go ?_
  refine a_q (call_step (refmod_c n 35184372088832 (by omega) (by omega)) rfl (fun a w => Try.call63 a w) rfl) rfl rfl rfl ?_
  generalize n % 35184372088832 = k at *
  refine goK ?_
  refine a_q (quo_step rfl rfl rfl (by omega) (by omega) (by omega)) rfl rfl rfl ?_
  refine goK ?_
  refine a_q (quo_step rfl rfl rfl (by omega) (by omega) (by omega)) rfl rfl rfl ?_
  refine goK ?_
  first | refine fin_ret rfl ?_ | refine fin_normal rfl ?_
  rfl
theorem refhead_c (l : LayT) (hL : LayOk l) (c : Int) : PureC Try.prog 37 [dLay l, dI c] (dI (headF l c)) := by
  obtain ⟨a1, a2⟩ := hL.chan
  obtain ⟨b1, b2⟩ := hL.chans
  have hE : headF l c = if (decide (0 ≤ c) && decide (c ≤ l.chans - 1)) then IntKind.i64.wrap (l.chan + IntKind.i64.wrap (2 * c)) else -1 := by
    unfold headF withinF
    split
    · rw [if_neg]
      simp only [Bool.and_eq_true, decide_eq_true_eq]
      omega
    · rw [if_pos (by simp only [Bool.and_eq_true, decide_eq_true_eq]; omega)]
      rw [wrap_id (n := 2 * c) (by omega) (by omega), wrap_id (by omega) (by omega)]
      omega
  rw [hE]
  by_cases h0 : 0 ≤ c ∧ c ≤ l.chans - 1
  · have hc : (decide (0 ≤ c) && decide (c ≤ l.chans - 1)) = true := by simp only [Bool.and_eq_true, decide_eq_true_eq]; exact h0
    have e1 := wrap_id (n := 2 * c) (by omega) (by omega)
    rw [hc, e1]
    refine pure_fin tabOk Try.func37 rfl Try.ntmps37 rfl rfl rfl fun w cl => ?_
    refine go ?_
    refine awp_region_q [] rfl (by kernel_rfl) (by kernel_rfl) ?_
    refine goQ ?_
    rw [e1]
    refine goQ ?_
    refine r_q (call_step (refin_c c 0 (l.chans - 1)) rfl (fun a w => Try.call62 a w) rfl) rfl rfl ?_
    rw [hc]
    refine goQ ?_
    refine r_q (call_step (refat_c _ true) rfl (fun a w => Try.call61 a w) rfl) rfl rfl ?_
    refine goQ ?_
    refine go ?_
    first | refine fin_ret rfl ?_ | refine fin_normal rfl ?_
    rw [wrap_id (n := l.chan + 2 * c) (by omega) (by omega)]
  · have hc : (decide (0 ≤ c) && decide (c ≤ l.chans - 1)) = false := by rw [Bool.eq_false_iff]; simp only [ne_eq, Bool.and_eq_true, decide_eq_true_eq]; omega
    rw [hc]
    refine pure_fin tabOk Try.func37 rfl Try.ntmps37 rfl rfl rfl fun w cl => ?_
    refine go ?_
    refine awp_region_q [] rfl (by kernel_rfl) (by kernel_rfl) ?_
    refine goQ ?_
    refine r_q (call_step (refin_c c 0 (l.chans - 1)) rfl (fun a w => Try.call62 a w) rfl) rfl rfl ?_
    rw [hc]
    refine goQ ?_
    refine r_q (call_step (refat_c _ false) rfl (fun a w => Try.call61 a w) rfl) rfl rfl ?_
    refine goQ ?_
    refine go ?_
    first | refine fin_ret rfl ?_ | refine fin_normal rfl ?_
    rfl
theorem reftail_c (l : LayT) (hL : LayOk l) (c : Int) : PureC Try.prog 43 [dLay l, dI c] (dI (tailF l c)) := by
  obtain ⟨a1, a2⟩ := hL.chan
  obtain ⟨b1, b2⟩ := hL.chans
  have hE : tailF l c = if (decide (0 ≤ c) && decide (c ≤ l.chans - 1)) then IntKind.i64.wrap (IntKind.i64.wrap (l.chan + IntKind.i64.wrap (2 * c)) + 1) else -1 := by
    unfold tailF withinF
    split
    · rw [if_neg]
      simp only [Bool.and_eq_true, decide_eq_true_eq]
      omega
    · rw [if_pos (by simp only [Bool.and_eq_true, decide_eq_true_eq]; omega)]
      rw [wrap_id (n := 2 * c) (by omega) (by omega), wrap_id (n := l.chan + 2 * c) (by omega) (by omega), wrap_id (by omega) (by omega)]
      omega
  rw [hE]
  by_cases h0 : 0 ≤ c ∧ c ≤ l.chans - 1
  · have hc : (decide (0 ≤ c) && decide (c ≤ l.chans - 1)) = true := by simp only [Bool.and_eq_true, decide_eq_true_eq]; exact h0
    have e1 := wrap_id (n := 2 * c) (by omega) (by omega)
    rw [hc, e1]
    refine pure_fin tabOk Try.func43 rfl Try.ntmps43 rfl rfl rfl fun w cl => ?_
    refine go ?_
    refine awp_region_q [] rfl (by kernel_rfl) (by kernel_rfl) ?_
    refine goQ ?_
    rw [e1]
    refine goQ ?_
    refine r_q (call_step (refin_c c 0 (l.chans - 1)) rfl (fun a w => Try.call62 a w) rfl) rfl rfl ?_
    rw [hc]
    refine goQ ?_
    refine r_q (call_step (refat_c _ true) rfl (fun a w => Try.call61 a w) rfl) rfl rfl ?_
    refine goQ ?_
    refine go ?_
    first | refine fin_ret rfl ?_ | refine fin_normal rfl ?_
    rw [wrap_id (n := l.chan + 2 * c) (by omega) (by omega), wrap_id (by omega) (by omega)]
  · have hc : (decide (0 ≤ c) && decide (c ≤ l.chans - 1)) = false := by rw [Bool.eq_false_iff]; simp only [ne_eq, Bool.and_eq_true, decide_eq_true_eq]; omega
    rw [hc]
    refine pure_fin tabOk Try.func43 rfl Try.ntmps43 rfl rfl rfl fun w cl => ?_
    refine go ?_
    refine awp_region_q [] rfl (by kernel_rfl) (by kernel_rfl) ?_
    refine goQ ?_
    refine r_q (call_step (refin_c c 0 (l.chans - 1)) rfl (fun a w => Try.call62 a w) rfl) rfl rfl ?_
    rw [hc]
    refine goQ ?_
    refine r_q (call_step (refat_c _ false) rfl (fun a w => Try.call61 a w) rfl) rfl rfl ?_
    refine goQ ?_
    refine go ?_
    first | refine fin_ret rfl ?_ | refine fin_normal rfl ?_
    rfl
theorem refnode_c (l : LayT) (hL : LayOk l) (n i : Int) (hi : 0 ≤ i ∧ i ≤ 7) : PureC Try.prog 39 [dLay l, dI n, dI i] (dI (nodeF l n i)) := by
  obtain ⟨a1, a2⟩ := hL.node
  obtain ⟨b1, b2⟩ := hL.nodes
  have hE : nodeF l n i = if (decide (1 ≤ n) && decide (n ≤ l.nodes)) then IntKind.i64.wrap (IntKind.i64.wrap (l.node + IntKind.i64.wrap (8 * IntKind.i64.wrap (n - 1))) + i) else -1 := by
    unfold nodeF withinF
    split
    · rw [if_neg]
      simp only [Bool.and_eq_true, decide_eq_true_eq]
      omega
    · split
      · rw [if_neg]
        simp only [Bool.and_eq_true, decide_eq_true_eq]
        omega
      · rw [if_pos (by simp only [Bool.and_eq_true, decide_eq_true_eq]; omega)]
        rw [wrap_id (n := n - 1) (by omega) (by omega), wrap_id (n := 8 * (n - 1)) (by omega) (by omega), wrap_id (n := l.node + 8 * (n - 1)) (by omega) (by omega), wrap_id (by omega) (by omega)]
        omega
  have hin : (decide (0 ≤ i) && decide (i ≤ 7)) = true := by simp only [Bool.and_eq_true, decide_eq_true_eq]; omega
  rw [hE]
  refine pure_fin tabOk Try.func39 rfl Try.ntmps39 rfl rfl rfl fun w cl => ?_
  refine go ?_
  by_cases h0 : 1 ≤ n ∧ n ≤ l.nodes
  · have hc : (decide (1 ≤ n) && decide (n ≤ l.nodes)) = true := by simp only [Bool.and_eq_true, decide_eq_true_eq]; omega
    have e1 := wrap_id (n := n - 1) (by omega) (by omega)
    have e2 := wrap_id (n := 8 * (n - 1)) (by omega) (by omega)
    have e3 := wrap_id (n := l.node + 8 * (n - 1)) (by omega) (by omega)
    have e4 := wrap_id (n := l.node + 8 * (n - 1) + i) (by omega) (by omega)
    rw [hc, e1, e2, e3, e4]
    refine awp_region_q [] rfl (by kernel_rfl) (by kernel_rfl) ?_
    refine goQ ?_
    rw [e2]
    refine goQ ?_
    refine r_q (call_step (refin_c n 1 l.nodes) rfl (fun a w => Try.call62 a w) rfl) rfl rfl ?_
    rw [hc]
    refine goQ ?_
    refine r_q (call_step (refin_c i 0 7) rfl (fun a w => Try.call62 a w) rfl) rfl rfl ?_
    rw [hin]
    refine goQ ?_
    refine r_q (call_step (refat_c _ true) rfl (fun a w => Try.call61 a w) rfl) rfl rfl ?_
    refine goQ ?_
    refine go ?_
    first | refine fin_ret rfl ?_ | refine fin_normal rfl ?_
    rfl
  · have hc : (decide (1 ≤ n) && decide (n ≤ l.nodes)) = false := by rw [Bool.eq_false_iff]; simp only [ne_eq, Bool.and_eq_true, decide_eq_true_eq]; omega
    rw [hc]
    refine awp_region_q [] rfl (by kernel_rfl) (by kernel_rfl) ?_
    refine goQ ?_
    refine r_q (call_step (refin_c n 1 l.nodes) rfl (fun a w => Try.call62 a w) rfl) rfl rfl ?_
    rw [hc]
    refine goQ ?_
    refine r_q (call_step (refat_c _ false) rfl (fun a w => Try.call61 a w) rfl) rfl rfl ?_
    refine goQ ?_
    refine go ?_
    first | refine fin_ret rfl ?_ | refine fin_normal rfl ?_
    rfl
set_option maxHeartbeats 4000000 in
theorem refnodes_c (l : LayT) (hL : LayOk l) (m : List Int) (s : Int) : PureC Try.prog 13 [dLay l, dMem m, dI s] (dInts (nodesF l m s)) := by
  generalize hE : nodesF l m s = E
  unfold nodesF at hE
  obtain ⟨hn0, hn1⟩ := hL.nodes
  refine pure_fin tabOk Try.func13 rfl Try.ntmps13 rfl rfl rfl fun w cl => ?_
  refine go ?_
  refine a_q (call_step (refhead_c l hL s) rfl (fun a w => Try.call37 a w) rfl) rfl rfl rfl ?_
  refine go ?_
  generalize h1 : decide (headF l s < 0) = cc; cases cc
  · rw [if_neg (of_decide_eq_false h1)] at hE
    refine go ?_
    refine a_q (call_step (cell_c m (headF l s)) rfl (fun a w => Try.call25 a w) rfl) rfl rfl rfl ?_
    refine go ?_
    refine a_q (call_step (refof_c (atF m (headF l s))) rfl (fun a w => Try.call38 a w) rfl) rfl rfl rfl ?_
    refine go ?_
    generalize (ofW (atF m (headF l s))).idx = n0 at hE
    refine awp_ghost (tip_ghost 8 0 3 1 rfl rfl rfl) ?_
    refine awp_loop_ok (fun p : Nat × List Int × Int => p.1 + p.2.1.length = l.nodes.toNat + 1 ∧ chainF (fun n => atF m (nodeF l n 0)) l.nodes p.1 p.2.1 p.2.2 = E) (fun p => ⟨[(10, dI p.2.2), (8, .tip 0 p.2.1.length (pInts p.2.1)), (3, .ptr 0 0), (4, .ptr 1 0)], [(1, [dInts m]), (0, layD l)], [(0, ⟨3, 1, p.2.1.length⟩)]⟩) (fun p => p.1) (l.nodes.toNat + 1, [], n0) ⟨by simp, hE⟩ (zX) ?_
    rintro ⟨k, acc, n⟩ ⟨hk, hE⟩
    simp only at hk hE
    refine (show AWP _ _ _ _ ⟨[(10, dI n), (8, .tip 0 acc.length (pInts acc)), (3, .ptr 0 0), (4, .ptr 1 0)], [(1, [dInts m]), (0, layD l)], [(0, ⟨3, 1, acc.length⟩)]⟩ from ?_)
    refine go ?_
    refine ck_b (fun h2 => ?_) (fun h2 => ?_) <;> try rw [h2]
    · have h2' := of_decide_eq_true h2
      obtain ⟨k, rfl⟩ : ∃ j, k = j + 1 := ⟨k - 1, by omega⟩
      rw [chainF] at hE
      refine go ?_
      refine a_q (call_step (in_c acc n (by omega)) rfl (fun a w => Try.call28 a w) rfl) rfl rfl rfl ?_
      refine go ?_
      generalize h3 : decide (n < 1) = cc; cases cc
      · have h3' := of_decide_eq_false h3
        refine go ?_
        generalize h4 : decide (n > l.nodes) = cc; cases cc
        · have h4' := of_decide_eq_false h4
          refine go ?_
          generalize h5 : decide (n ∈ acc) = cc; cases cc
          · rw [if_pos ⟨by omega, by omega, of_decide_eq_false h5⟩] at hE
            refine go ?_
            refine a_append tabOk rfl rfl rfl rfl rfl rfl rfl rfl rfl rfl rfl rfl rfl (by unfold maxLen; omega) (by show (_ + _) * 8 ≤ _; omega) ?_
            rw [pInts_snoc, show acc.length + 1 = (acc ++ [n]).length by simp]
            refine go ?_
            refine awp_region_q [] rfl (by kernel_rfl) (by kernel_rfl) ?_
            refine goQ ?_
            refine r_q (call_step (refnode_c l hL n 0 (by omega)) rfl (fun a w => Try.call39 a w) rfl) rfl rfl ?_
            refine goQ ?_
            refine r_q (call_step (cell_c m (nodeF l n 0)) rfl (fun a w => Try.call25 a w) rfl) rfl rfl ?_
            refine goQ ?_
            refine go ?_
            exact ⟨(k, acc ++ [n], atF m (nodeF l n 0)), ⟨by simp; omega, hE⟩, by simp only; omega, zX⟩
          · rw [if_neg (fun hh => hh.2.2 (of_decide_eq_true h5))] at hE
            refine go ?_
            first | refine fin_ret rfl ?_ | refine fin_normal rfl ?_
            rw [← hE]
        · have h4' := of_decide_eq_true h4
          rw [if_neg (fun hh => by omega)] at hE
          refine go ?_
          first | refine fin_ret rfl ?_ | refine fin_normal rfl ?_
          rw [← hE]
      · have h3' := of_decide_eq_true h3
        rw [if_neg (fun hh => by omega)] at hE
        refine go ?_
        first | refine fin_ret rfl ?_ | refine fin_normal rfl ?_
        rw [← hE]
    · have h2' := of_decide_eq_false h2
      obtain rfl : k = 0 := by omega
      rw [chainF] at hE
      refine go ?_
      first | refine fin_ret rfl ?_ | refine fin_normal rfl ?_
      rw [← hE]
  · rw [if_pos (of_decide_eq_true h1)] at hE
    refine go ?_
    first | refine fin_ret rfl ?_ | refine fin_normal rfl ?_
    rw [← hE]
    rfl
set_option maxHeartbeats 4000000 in
theorem refrow_c (l : LayT) (hL : LayOk l) (m : List Int) (c : Int) (hm : ∀ x ∈ m, x < 9223372036854775808) : PureC Try.prog 15 [dLay l, dMem m, dI c] (dInts (rowF l m c)) := by
  have hln := nodesF_len l m c
  have hC := refnodes_c l hL m c
  have hE : rowF l m c = rowG ((nodesF l m c).flatMap (placesF l m)) := rfl
  rw [hE]
  obtain ⟨hn0, hn1⟩ := hL.nodes
  generalize nodesF l m c = ns at *
  refine pure_fin tabOk Try.func15 rfl Try.ntmps15 rfl rfl rfl fun w cl => ?_
  refine go ?_
  refine a_q (call_step (hC) rfl (fun a w => Try.call13 a w) rfl) rfl rfl rfl ?_
  refine go ?_
  refine awp_ghost (tip_ghost 8 0 3 1 rfl rfl rfl) ?_
  refine awp_loop_ok (fun i : Nat => i ≤ ns.length) (fun i => ⟨[(9, dI i), (7, dInts ns), (8, .tip 0 (rowG ((ns.take i).flatMap (placesF l m))).length (pInts (rowG ((ns.take i).flatMap (placesF l m))))), (3, .ptr 0 0), (4, .ptr 1 0)], [(1, [dInts m]), (0, layD l)], [(0, ⟨3, 1, (rowG ((ns.take i).flatMap (placesF l m))).length⟩)]⟩) (fun i => ns.length - i) 0 (by omega) (zX) ?_
  intro i hi
  refine go ?_
  refine ck_b (fun h1 => ?_) (fun h1 => ?_) <;> try rw [h1]
  · have h1' := of_decide_eq_true h1
    obtain ⟨n, hn⟩ := getI (l := ns) (i := i) (by omega) h1'
    have hn' := hn
    simp only [Int.toNat_natCast] at hn'
    have ht : (ns.take (i + 1)).flatMap (placesF l m) = (ns.take i).flatMap (placesF l m) ++ placesF l m n := by
      rw [List.take_add_one, hn']
      simp
    have hfl := flat5_len l m (ns.take i)
    rw [List.length_take] at hfl
    generalize (ns.take i).flatMap (placesF l m) = A at *
    refine go ?_
    refine awp_loop_ok (fun k : Nat => k ≤ 5) (fun k => ⟨[(10, dI (1 + (k : Int))), (9, dI i), (7, dInts ns), (8, .tip 0 (rowG (A ++ (placesF l m n).take k)).length (pInts (rowG (A ++ (placesF l m n).take k)))), (3, .ptr 0 0), (4, .ptr 1 0)], [(1, [dInts m]), (0, layD l)], [(0, ⟨3, 1, (rowG (A ++ (placesF l m n).take k)).length⟩)]⟩) (fun k => 5 - k) 0 (by omega) (by rw [List.take_zero, List.append_nil]; exact zX) ?_
    intro k hk
    refine go ?_
    refine ck_b (fun h2 => ?_) (fun h2 => ?_) <;> try rw [h2]
    · have h2' : k < 5 := by have := of_decide_eq_true h2; omega
      have hv := at_lt hm (nodeF l n (1 + (k : Int)))
      have hrl := rowG_len (A ++ (placesF l m n).take k)
      simp only [List.length_append, List.length_take] at hrl
      have hsn := rowG_snoc (A ++ (placesF l m n).take k) (atF m (nodeF l n (1 + (k : Int))))
      rw [List.append_assoc, ← places_take l m n k h2'] at hsn
      generalize rowG (A ++ (placesF l m n).take k) = R at *
      refine go ?_
      refine awp_region_q [] rfl (by kernel_rfl) (by kernel_rfl) ?_
      refine goQ ?_
      refine r_q (indexAddr_step tabOk [pI n] rfl rfl rfl rfl rfl rfl (by first | omega | (simp; done) | (simp; omega)) (by first | omega | (simp; done) | (simp; omega)) (by first | (simp; done) | exact List.cons_ne_nil _ _) (ints_idx hn)) rfl rfl ?_
      refine goQ ?_
      refine r_q (call_step (refnode_c l hL n (1 + (k : Int)) (by omega)) rfl (fun a w => Try.call39 a w) rfl) rfl rfl ?_
      refine goQ ?_
      refine r_q (call_step (cell_c m (nodeF l n (1 + (k : Int)))) rfl (fun a w => Try.call25 a w) rfl) rfl rfl ?_
      refine goQ ?_
      generalize atF m (nodeF l n (1 + (k : Int))) = v at *
      refine go ?_
      generalize h3 : decide (v > 1) = cc; cases cc
      · have h3' := of_decide_eq_false h3
        rw [if_neg (by omega)] at hsn
        refine go ?_
        refine ⟨k + 1, by omega, by omega, ?_⟩
        rw [hsn, show (1 : Int) + ((k + 1 : Nat) : Int) = 1 + (k : Int) + 1 by omega]
        exact zX
      · have h3' := of_decide_eq_true h3
        rw [if_pos (by omega)] at hsn
        refine go ?_
        refine a_append tabOk rfl rfl rfl rfl rfl rfl rfl rfl rfl rfl rfl rfl rfl (by unfold maxLen; omega) (by show (_ + _) * 8 ≤ _; omega) ?_
        rw [pInts_snoc, show R.length + 1 = (R ++ [v - 2]).length by simp]
        refine go ?_
        refine ⟨k + 1, by omega, by omega, ?_⟩
        rw [hsn, show (1 : Int) + ((k + 1 : Nat) : Int) = 1 + (k : Int) + 1 by omega]
        exact zX
    · have h2' : k = 5 := by have := of_decide_eq_false h2; omega
      subst h2'
      rw [show (placesF l m n).take 5 = placesF l m n from rfl, ← ht]
      refine go ?_
      exact ⟨i + 1, by omega, by omega, zX⟩
  · have h1' : i = ns.length := by have := of_decide_eq_false h1; omega
    rw [h1', List.take_length]
    refine go ?_
    first | refine fin_ret rfl ?_ | refine fin_normal rfl ?_
    rfl
theorem refpack_c (node : Int) : PureC Try.prog 42 [dRef ⟨node, false, 0⟩] (dI (packW ⟨node, false, 0⟩)) := by
  have hE : packW ⟨node, false, 0⟩ = node % 65536 := by simp [packW]
  have h0 := Int.emod_nonneg node (show (65536 : Int) ≠ 0 by omega)
  have h1 := Int.emod_lt_of_pos node (show (0 : Int) < 65536 by omega)
  rw [hE]
  refine pure_fin tabOk Try.func42 rfl Try.ntmps42 rfl rfl rfl fun w cl => ?_
  refine go ?_
  refine awp_region_q [] rfl (by kernel_rfl) (by kernel_rfl) ?_
  refine goQ ?_
  refine r_q (call_step (refmod_c node 65536 (by omega) (by omega)) rfl (fun a w => Try.call63 a w) rfl) rfl rfl ?_
  refine goQ ?_
  refine r_q (call_step (refmod_c 0 268435456 (by omega) (by omega)) rfl (fun a w => Try.call63 a w) rfl) rfl rfl ?_
  refine goQ ?_
  rw [show IntKind.i64.wrap (131072 * (0 % 268435456)) = 0 from rfl]
  refine goQ ?_
  refine go ?_
  first | refine fin_ret rfl ?_ | refine fin_normal rfl ?_
  simp only [Int.add_zero]
  rw [wrap_id (by omega) (by omega)]
/-! ### Accesses that are compared -/
theorem AccT.ext' {a b : AccT} : a = b ↔ (a.kind = b.kind ∧ a.cell = b.cell ∧ a.old = b.old ∧ a.new = b.new) := by
  cases a; cases b; simp
theorem run_neq_acc (a b : AccT) (w : World) : (binOp .neq 51 (.agg #[.int .i64 a.kind, .int .i64 a.cell, .int .i64 a.old, .int .i64 a.new]) (.agg #[.int .i64 b.kind, .int .i64 b.cell, .int .i64 b.old, .int .i64 b.new])).run Try.prog w = .ok (.bool (!decide (a = b))) w := by
  have e : (!decide (a = b)) = !decide (a.kind = b.kind ∧ a.cell = b.cell ∧ a.old = b.old ∧ a.new = b.new) := by
    congr 1; exact decide_eq_decide.2 AccT.ext'
  rw [e]
  by_cases h1 : a.kind = b.kind
  case neg => simp [go_sem, h1]
  by_cases h2 : a.cell = b.cell
  case neg => simp [go_sem, h1, h2]
  by_cases h3 : a.old = b.old
  case neg => simp [go_sem, h1, h2, h3]
  by_cases h4 : a.new = b.new <;> simp [go_sem, h1, h2, h3, h4]
theorem quad_rep {e : Env} {v : Value} {a b c d : Int} (h : DRep e v (.agg [dI a, dI b, dI c, dI d])) : v = .agg #[.int .i64 a, .int .i64 b, .int .i64 c, .int .i64 d] := by
  cases h with
  | agg hl hh =>
    rename_i vs
    match vs, hl with
    | [x, y, z, u], _ =>
      have h1 := raw_eq (hh 0 x _ rfl rfl)
      have h2 := raw_eq (hh 1 y _ rfl rfl)
      have h3 := raw_eq (hh 2 z _ rfl rfl)
      have h4 := raw_eq (hh 3 u _ rfl rfl)
      rw [h1, h2, h3, h4]
theorem neqA_step {S : Nat → Option Dt} {B : Nat → Option (List Dt)} {o : Oper} {x y : Operand} {u : TypeId} {a b : AccT} (ho : o.op = .binOp .neq 51 x y u) (hx : ev S x = some (dAcc a)) (hy : ev S y = some (dAcc b)) : QStep Try.prog o S B (dB (!decide (a = b))) none := by
  refine qstep_run fun ac e hse => ?_
  have h1 := quad_rep (hse.1 x (by rw [ho]; simp [Op.operands]) _ hx)
  have h2 := quad_rep (hse.1 y (by rw [ho]; simp [Op.operands]) _ hy)
  refine ⟨.bool (!decide (a = b)), ?_, .p (.raw _)⟩
  obtain ⟨dst, op, type, pos, after, guard⟩ := o
  simp only at ho
  subst ho
  have hb := run_neq_acc a b e.w
  simp [execOp, h1, h2, eqGuard, Try.eqGuardType51, hb]
theorem accs_c (a b : List AccT) (ha : a.length ≤ 1000000000) : PureC Try.prog 40 [dAccs a, dAccs b] (dB (decide (a = b))) := by
  refine pure_fin tabOk Try.func40 rfl Try.ntmps40 rfl rfl rfl fun w cl => ?_
  refine go ?_
  generalize h0 : decide ((a.length : Int) = (b.length : Int)) = cc; cases cc
  · have h0' := of_decide_eq_false h0
    refine go ?_
    first | refine fin_ret rfl ?_ | refine fin_normal rfl ?_
    rw [decide_eq_false (fun e => h0' (by rw [e]))]
  · have h0' := of_decide_eq_true h0
    refine go ?_
    refine awp_loop_ok (fun i : Nat => i ≤ a.length ∧ a.take i = b.take i) (fun i => ⟨[(5, dI i), (0, dAccs a), (1, dAccs b)], [], []⟩) (fun i => a.length - i) 0 ⟨by omega, by simp⟩ (zX) ?_
    rintro i ⟨hi, he⟩
    refine go ?_
    refine ck_b (fun h1 => ?_) (fun h1 => ?_) <;> try rw [h1]
    · have h1' : i < a.length := by have := of_decide_eq_true h1; omega
      obtain ⟨x, hx⟩ := getI (l := a) (i := i) (by omega) (by omega)
      obtain ⟨y, hy⟩ := getI (l := b) (i := i) (by omega) (by omega)
      have hx' := hx
      have hy' := hy
      simp only [Int.toNat_natCast] at hx' hy'
      refine go ?_
      refine awp_region_q [] rfl (by kernel_rfl) (by kernel_rfl) ?_
      refine goQ ?_
      refine r_q (indexAddr_step tabOk [pI x.kind, pI x.cell, pI x.old, pI x.new] rfl rfl rfl rfl rfl rfl (by first | omega | (simp; done) | (simp; omega)) (by first | omega | (simp; done) | (simp; omega)) (by first | (simp; done) | exact List.cons_ne_nil _ _) (accs_idx hx)) rfl rfl ?_
      refine goQ ?_
      refine r_q (indexAddr_step tabOk [pI y.kind, pI y.cell, pI y.old, pI y.new] rfl rfl rfl rfl rfl rfl (by first | omega | (simp; done) | (simp; omega)) (by first | omega | (simp; done) | (simp; omega)) (by first | (simp; done) | exact List.cons_ne_nil _ _) (accs_idx hy)) rfl rfl ?_
      refine goQ ?_
      refine r_q (neqA_step (a := x) (b := y) rfl rfl rfl) rfl rfl ?_
      refine goQ ?_
      generalize h2 : decide (x = y) = cc; cases cc
      · have h2' := of_decide_eq_false h2
        refine go ?_
        first | refine fin_ret rfl ?_ | refine fin_normal rfl ?_
        rw [decide_eq_false (fun e => h2' (by rw [e] at hx'; rw [hx'] at hy'; exact Option.some.inj hy'))]
      · have h2' := of_decide_eq_true h2
        refine go ?_
        exact ⟨i + 1, ⟨by omega, by rw [List.take_add_one, List.take_add_one, he, hx', hy', h2']⟩, by omega, zX⟩
    · have h1' : i = a.length := by have := of_decide_eq_false h1; omega
      rw [h1', List.take_length, List.take_of_length_le (by omega)] at he
      refine go ?_
      first | refine fin_ret rfl ?_ | refine fin_normal rfl ?_
      rw [decide_eq_true he]
theorem refaccs_c (a b : List AccT) (ha : a.length ≤ 1000000000) : PureC Try.prog 16 [dAccs a, dAccs b] (dB (decide (a = b))) := by
  refine pure_fin tabOk Try.func16 rfl Try.ntmps16 rfl rfl rfl fun w cl => ?_
  refine go ?_
  refine a_q (call_step (accs_c a b ha) rfl (fun a w => Try.call40 a w) rfl) rfl rfl rfl ?_
  refine go ?_
  first | refine fin_ret rfl ?_ | refine fin_normal rfl ?_
  rfl
set_option maxHeartbeats 4000000 in
theorem refInit_c (l : LayT) (hL : LayOk l) (c node : Int) : PureC Try.prog 18 [dLay l, dI c, dI node] (dAccs (segInitF l c node)) := by
  generalize hE : segInitF l c node = E
  unfold segInitF at hE
  refine pure_fin tabOk Try.func18 rfl Try.ntmps18 rfl rfl rfl fun w cl => ?_
  refine go ?_
  refine a_q (call_step (refhead_c l hL c) rfl (fun a w => Try.call37 a w) rfl) rfl rfl rfl ?_
  refine go ?_
  generalize h1 : decide (headF l c < 0) = cc; cases cc
  · have h1' := of_decide_eq_false h1
    refine go ?_
    refine a_q (call_step (refnode_c l hL node 0 (by omega)) rfl (fun a w => Try.call39 a w) rfl) rfl rfl rfl ?_
    refine go ?_
    generalize h2 : decide (nodeF l node 0 < 0) = cc; cases cc
    · have h2' := of_decide_eq_false h2
      rw [if_neg (by omega)] at hE
      refine go ?_
      refine awp_ghost (tip_ghost 8 0 51 4 rfl rfl rfl) ?_
      refine awp_loop_ok (fun i : Nat => i ≤ 6) (fun i => ⟨[(9, dI i), (8, .tip 0 i (pAccs ((segN l node).take i))), (7, dI (headF l c)), (1, dI c), (2, dI node), (3, .ptr 0 0)], [(0, layD l)], [(0, ⟨51, 4, i⟩)]⟩) (fun i => 6 - i) 0 (by omega) (zX) ?_
      intro i hi
      refine go ?_
      refine ck_b (fun h3 => ?_) (fun h3 => ?_) <;> try rw [h3]
      · have h3' : i < 6 := by have := of_decide_eq_true h3; omega
        refine go ?_
        refine a_q (call_step (refnode_c l hL node i (by omega)) rfl (fun a w => Try.call39 a w) rfl) rfl rfl rfl ?_
        refine go ?_
        refine a_append tabOk rfl rfl rfl rfl rfl rfl rfl rfl rfl rfl rfl rfl rfl (by unfold maxLen; omega) (by show (_ + _) * 32 ≤ _; omega) ?_
        rw [show pAccs ((segN l node).take i) ++ [pI 2, pI (nodeF l node i), pI 0, pI 0] = pAccs ((segN l node).take (i + 1)) by rw [segN_take l node i h3', ← pAccs_snoc]]
        refine go ?_
        exact ⟨i + 1, by omega, by omega, zX⟩
      · have h3' : i = 6 := by have := of_decide_eq_false h3; omega
        subst h3'
        refine go ?_
        refine a_q (call_step (refpack_c node) rfl (fun a w => Try.call42 a w) rfl) rfl rfl rfl ?_
        refine go ?_
        refine a_append tabOk rfl rfl rfl rfl rfl rfl rfl rfl rfl rfl rfl rfl rfl (by unfold maxLen; omega) (by show (_ + _) * 32 ≤ _; omega) ?_
        refine go ?_
        refine a_q (call_step (reftail_c l hL c) rfl (fun a w => Try.call43 a w) rfl) rfl rfl rfl ?_
        refine go ?_
        refine a_append tabOk rfl rfl rfl rfl rfl rfl rfl rfl rfl rfl rfl rfl rfl (by unfold maxLen; omega) (by show (_ + _) * 32 ≤ _; omega) ?_
        refine go ?_
        first | refine fin_ret rfl ?_ | refine fin_normal rfl ?_
        rw [← hE]
        rfl
    · have h2' := of_decide_eq_true h2
      rw [if_pos (.inr h2')] at hE
      refine go ?_
      first | refine fin_ret rfl ?_ | refine fin_normal rfl ?_
      rw [← hE]
      rfl
  · have h1' := of_decide_eq_true h1
    rw [if_pos (.inl h1')] at hE
    refine go ?_
    first | refine fin_ret rfl ?_ | refine fin_normal rfl ?_
    rw [← hE]
    rfl
set_option maxHeartbeats 4000000 in
theorem segmentReads_c (nodes : Int) (m : List Int) (c node : Int) (h0 : 0 ≤ nodes) (hm : ∀ x ∈ m, x < 9223372036854775808) (hn : node < 9223372036854775808) : PureC Try.prog 3 [dK .u8 nodes, dMem m, dI c, dI node] (dB true) := by
  have hW := where_c ⟨nodes, [[]], []⟩ (by simp) (by simp) h0
  have hL : LayOk (layP ⟨nodes, [[]], []⟩) := layP_ok (by simp) (by simp)
  have hN := hL.nodes.2
  generalize layP ⟨nodes, [[]], []⟩ = l at *
  have hl1 := nodesF_len l m c
  have hl2 := rowG_len ((nodesF l m c).flatMap (placesF l m))
  rw [flat5_len] at hl2
  have hl3 := segInit_len l c node
  have c1 := ints_c (nodesF l m c) (nodesF l m c) (by omega)
  have c2 := ints_c (rowF l m c) (rowF l m c) (by rw [show rowF l m c = rowG ((nodesF l m c).flatMap (placesF l m)) from rfl]; omega)
  have c3 := refaccs_c (segInitF l c node) (segInitF l c node) (by omega)
  rw [show decide (nodesF l m c = nodesF l m c) = true by simp] at c1
  rw [show decide (rowF l m c = rowF l m c) = true by simp] at c2
  rw [show decide (segInitF l c node = segInitF l c node) = true by simp] at c3
  refine pure_fin tabOk Try.func3 rfl Try.ntmps3 rfl rfl rfl fun w cl => ?_
  refine go ?_
  refine a_q (call_step (awake_c) rfl (fun a w => Try.call9 a w) rfl) rfl rfl rfl ?_
  refine go ?_
  generalize h1 : decide ((m.length : Int) > 200) = cc; cases cc
  · refine go ?_
    refine a_q (call_step (hW) rfl (fun a w => Try.call10 a w) rfl) rfl rfl rfl ?_
    refine go ?_
    refine awp_region_q [] rfl (by kernel_rfl) (by kernel_rfl) ?_
    refine goQ ?_
    refine r_q (call_step (nodes_c l hL m c hm) rfl (fun a w => Try.call12 a w) rfl) rfl rfl ?_
    refine goQ ?_
    refine r_q (call_step (refnodes_c l hL m c) rfl (fun a w => Try.call13 a w) rfl) rfl rfl ?_
    refine goQ ?_
    refine r_q (call_step (c1) rfl (fun a w => Try.call11 a w) rfl) rfl rfl ?_
    refine goQ ?_
    refine r_q (call_step (row_c l hL m c hm) rfl (fun a w => Try.call14 a w) rfl) rfl rfl ?_
    refine goQ ?_
    refine r_q (call_step (refrow_c l hL m c hm) rfl (fun a w => Try.call15 a w) rfl) rfl rfl ?_
    refine goQ ?_
    refine r_q (call_step (c2) rfl (fun a w => Try.call11 a w) rfl) rfl rfl ?_
    refine goQ ?_
    refine r_q (call_step (segInit_c l hL c node hn) rfl (fun a w => Try.call17 a w) rfl) rfl rfl ?_
    refine goQ ?_
    refine r_q (call_step (refInit_c l hL c node) rfl (fun a w => Try.call18 a w) rfl) rfl rfl ?_
    refine goQ ?_
    refine r_q (call_step (c3) rfl (fun a w => Try.call16 a w) rfl) rfl rfl ?_
    refine goQ ?_
    refine go ?_
    first | refine fin_ret rfl ?_ | refine fin_normal rfl ?_
    rfl
  · refine go ?_
    first | refine fin_ret rfl ?_ | refine fin_normal rfl ?_
    rfl
end Go.Proofs.Ytgoijmomglomlaa
