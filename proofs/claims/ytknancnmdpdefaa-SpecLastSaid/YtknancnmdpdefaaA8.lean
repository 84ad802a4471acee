/- takes, and the law SpecLast: what went in is handed out in the kind's order. -/
import Derived.Test.YtknancnmdpdefaaA6
namespace Go.Proofs.Ytknancnmdpdefaa
open Go.RowKit
set_option maxRecDepth 100000

def op0 (k x : Int) : OpT := ⟨k, 0, x, 0⟩
theorem takes_c (k many : Int) (m : Nat) (h : many = m) (hm : m ≤ 1000) : PureC Try.prog 19 [dI k, dI many] (.p (.sl false m (pOps (List.replicate m (op0 k 0))))) := by
  subst h
  refine pure_fin tabOk Try.func19 rfl Try.ntmps19 rfl rfl rfl fun w cl => ?_
  repeat (first | refine awp_seq ?_ | refine awp_region ?_ | refine awp_block ?_ | refine awp_skip ?_ | refine awp_ret ?_ | refine awp_exit ?_ | refine awp_ck rfl ?_ | with_reducible refine ck_t ?_ | with_reducible refine ck_f ?_ | with_reducible refine ck_nt ?_ | with_reducible refine ck_nf ?_ | refine q_then_normal ?_ | refine q_then_ret ?_ | refine q_then_exit ?_ | refine q_block_normal ?_ | refine q_block_ret ?_ | refine q_block_exit ?_ | refine q_block_other rfl ?_ | refine a_q (add_step tabOk rfl rfl rfl rfl (by omega) (by omega)) rfl rfl rfl ?_ | refine a_q (sub_step tabOk rfl rfl rfl rfl (by omega) (by omega)) rfl rfl rfl ?_ | refine a_ax tabOk rfl rfl rfl rfl ?_ | refine a_skip rfl rfl rfl ?_ | refine aops_nil ?_ | refine a_store tabOk rfl rfl rfl rfl rfl rfl rfl rfl rfl rfl ?_ | refine a_q (build_step tabOk rfl rfl rfl) rfl rfl rfl ?_ | refine a_q (buildSlice_step tabOk rfl rfl) rfl rfl rfl ?_ | refine a_box rfl rfl rfl rfl rfl rfl rfl rfl rfl ?_ | refine a_new tabOk rfl rfl rfl rfl rfl rfl rfl rfl rfl ?_)
  refine awp_ghost (tip_ghost 5 0 26 4 rfl rfl rfl) ?_
  refine awp_loop_ok (fun n : Nat => n ≤ m) (fun n => ⟨[(6, dI n), (5, .tip 0 n (pOps (List.replicate n (op0 k 0)))), (0, dI k), (1, dI m)], [], [(0, ⟨26, 4, n⟩)]⟩) (fun n => m - n) 0 (by omega) (drop_ghost (by (repeat (first | exact trivial | refine ⟨⟨rfl, rfl⟩, ?_⟩))) (by (repeat (first | exact trivial | refine ⟨⟨rfl, rfl⟩, ?_⟩))) (by (repeat (first | exact trivial | refine ⟨rfl, ?_⟩)))) ?_
  intro n hn
  repeat (first | refine awp_seq ?_ | refine awp_region ?_ | refine awp_block ?_ | refine awp_skip ?_ | refine awp_ret ?_ | refine awp_exit ?_ | refine awp_ck rfl ?_ | with_reducible refine ck_t ?_ | with_reducible refine ck_f ?_ | with_reducible refine ck_nt ?_ | with_reducible refine ck_nf ?_ | refine q_then_normal ?_ | refine q_then_ret ?_ | refine q_then_exit ?_ | refine q_block_normal ?_ | refine q_block_ret ?_ | refine q_block_exit ?_ | refine q_block_other rfl ?_ | refine a_q (add_step tabOk rfl rfl rfl rfl (by omega) (by omega)) rfl rfl rfl ?_ | refine a_q (sub_step tabOk rfl rfl rfl rfl (by omega) (by omega)) rfl rfl rfl ?_ | refine a_ax tabOk rfl rfl rfl rfl ?_ | refine a_skip rfl rfl rfl ?_ | refine aops_nil ?_ | refine a_store tabOk rfl rfl rfl rfl rfl rfl rfl rfl rfl rfl ?_ | refine a_q (build_step tabOk rfl rfl rfl) rfl rfl rfl ?_ | refine a_q (buildSlice_step tabOk rfl rfl) rfl rfl rfl ?_ | refine a_box rfl rfl rfl rfl rfl rfl rfl rfl rfl ?_ | refine a_new tabOk rfl rfl rfl rfl rfl rfl rfl rfl rfl ?_)
  refine ck_b (fun h1 => ?_) (fun h1 => ?_) <;> try rw [h1]
  · have hlt := of_decide_eq_true h1
    repeat (first | refine awp_seq ?_ | refine awp_region ?_ | refine awp_block ?_ | refine awp_skip ?_ | refine awp_ret ?_ | refine awp_exit ?_ | refine awp_ck rfl ?_ | with_reducible refine ck_t ?_ | with_reducible refine ck_f ?_ | with_reducible refine ck_nt ?_ | with_reducible refine ck_nf ?_ | refine q_then_normal ?_ | refine q_then_ret ?_ | refine q_then_exit ?_ | refine q_block_normal ?_ | refine q_block_ret ?_ | refine q_block_exit ?_ | refine q_block_other rfl ?_ | refine a_q (add_step tabOk rfl rfl rfl rfl (by omega) (by omega)) rfl rfl rfl ?_ | refine a_q (sub_step tabOk rfl rfl rfl rfl (by omega) (by omega)) rfl rfl rfl ?_ | refine a_ax tabOk rfl rfl rfl rfl ?_ | refine a_skip rfl rfl rfl ?_ | refine aops_nil ?_ | refine a_store tabOk rfl rfl rfl rfl rfl rfl rfl rfl rfl rfl ?_ | refine a_q (build_step tabOk rfl rfl rfl) rfl rfl rfl ?_ | refine a_q (buildSlice_step tabOk rfl rfl) rfl rfl rfl ?_ | refine a_box rfl rfl rfl rfl rfl rfl rfl rfl rfl ?_ | refine a_new tabOk rfl rfl rfl rfl rfl rfl rfl rfl rfl ?_)
    refine a_append tabOk rfl rfl rfl rfl rfl rfl rfl rfl rfl rfl rfl rfl (by simp) (by unfold maxLen; omega) (by show (_ + _) * 32 ≤ _; omega) ?_
    repeat (first | refine awp_seq ?_ | refine awp_region ?_ | refine awp_block ?_ | refine awp_skip ?_ | refine awp_ret ?_ | refine awp_exit ?_ | refine awp_ck rfl ?_ | with_reducible refine ck_t ?_ | with_reducible refine ck_f ?_ | with_reducible refine ck_nt ?_ | with_reducible refine ck_nf ?_ | refine q_then_normal ?_ | refine q_then_ret ?_ | refine q_then_exit ?_ | refine q_block_normal ?_ | refine q_block_ret ?_ | refine q_block_exit ?_ | refine q_block_other rfl ?_ | refine a_q (add_step tabOk rfl rfl rfl rfl (by omega) (by omega)) rfl rfl rfl ?_ | refine a_q (sub_step tabOk rfl rfl rfl rfl (by omega) (by omega)) rfl rfl rfl ?_ | refine a_ax tabOk rfl rfl rfl rfl ?_ | refine a_skip rfl rfl rfl ?_ | refine aops_nil ?_ | refine a_store tabOk rfl rfl rfl rfl rfl rfl rfl rfl rfl rfl ?_ | refine a_q (build_step tabOk rfl rfl rfl) rfl rfl rfl ?_ | refine a_q (buildSlice_step tabOk rfl rfl) rfl rfl rfl ?_ | refine a_box rfl rfl rfl rfl rfl rfl rfl rfl rfl ?_ | refine a_new tabOk rfl rfl rfl rfl rfl rfl rfl rfl rfl ?_)
    refine ⟨n + 1, by omega, by omega, ?_⟩
    have hs : pOps (List.replicate (n + 1) (op0 k 0)) = pOps (List.replicate n (op0 k 0)) ++ pOp (op0 k 0) := by rw [pOps_snoc, ← List.replicate_succ']
    rw [hs]
    exact drop_ghost (by (repeat (first | exact trivial | refine ⟨⟨rfl, rfl⟩, ?_⟩))) (by (repeat (first | exact trivial | refine ⟨⟨rfl, rfl⟩, ?_⟩))) (by (repeat (first | exact trivial | refine ⟨rfl, ?_⟩)))
  · repeat (first | refine awp_seq ?_ | refine awp_region ?_ | refine awp_block ?_ | refine awp_skip ?_ | refine awp_ret ?_ | refine awp_exit ?_ | refine awp_ck rfl ?_ | with_reducible refine ck_t ?_ | with_reducible refine ck_f ?_ | with_reducible refine ck_nt ?_ | with_reducible refine ck_nf ?_ | refine q_then_normal ?_ | refine q_then_ret ?_ | refine q_then_exit ?_ | refine q_block_normal ?_ | refine q_block_ret ?_ | refine q_block_exit ?_ | refine q_block_other rfl ?_ | refine a_q (add_step tabOk rfl rfl rfl rfl (by omega) (by omega)) rfl rfl rfl ?_ | refine a_q (sub_step tabOk rfl rfl rfl rfl (by omega) (by omega)) rfl rfl rfl ?_ | refine a_ax tabOk rfl rfl rfl rfl ?_ | refine a_skip rfl rfl rfl ?_ | refine aops_nil ?_ | refine a_store tabOk rfl rfl rfl rfl rfl rfl rfl rfl rfl rfl ?_ | refine a_q (build_step tabOk rfl rfl rfl) rfl rfl rfl ?_ | refine a_q (buildSlice_step tabOk rfl rfl) rfl rfl rfl ?_ | refine a_box rfl rfl rfl rfl rfl rfl rfl rfl rfl ?_ | refine a_new tabOk rfl rfl rfl rfl rfl rfl rfl rfl rfl ?_)
    first | refine fin_ret rfl ?_ | refine fin_normal rfl ?_
    have hge := of_decide_eq_false h1
    have hnl : n = m := by omega
    subst hnl
    rfl

theorem does_push (b : List Int) (x : Int) : does ⟨2, [], b⟩ (op0 4 x) = (⟨2, [], x :: b⟩, 0, true) := by simp [does, op0, rightB, ofK, effect]
theorem does_send (b : List Int) (x : Int) : does ⟨3, [], b⟩ (op0 6 x) = (⟨3, [], b ++ [x]⟩, 0, true) := by simp [does, op0, rightB, ofK, effect]
theorem does_pop (b : List Int) (x : Int) : does ⟨2, [], x :: b⟩ (op0 5 0) = (⟨2, [], b⟩, x, true) := by simp [does, op0, rightB, ofK, effect]
theorem does_pop0 : does ⟨2, [], []⟩ (op0 5 0) = (⟨2, [], []⟩, 0, false) := by simp [does, op0, rightB, ofK, effect]
theorem does_take (b : List Int) (x : Int) : does ⟨3, [], x :: b⟩ (op0 7 0) = (⟨3, [], b⟩, x, true) := by simp [does, op0, rightB, ofK, effect]
theorem does_take0 : does ⟨3, [], []⟩ (op0 7 0) = (⟨3, [], []⟩, 0, false) := by simp [does, op0, rightB, ofK, effect]
theorem all_push : ∀ (l b : List Int), doAll ⟨2, [], b⟩ (l.map (op0 4)) = (⟨2, [], l.reverse ++ b⟩, l.map (fun _ => 0), l.map (fun _ => true))
  | [], b => rfl
  | x :: l, b => by simp [doAll, does_push, all_push l]
theorem all_send : ∀ (l b : List Int), doAll ⟨3, [], b⟩ (l.map (op0 6)) = (⟨3, [], b ++ l⟩, l.map (fun _ => 0), l.map (fun _ => true))
  | [], b => by simp [doAll]
  | x :: l, b => by simp [doAll, does_send, all_send l]
theorem all_pop : ∀ l : List Int, doAll ⟨2, [], l⟩ (List.replicate (l.length + 1) (op0 5 0)) = (⟨2, [], []⟩, l ++ [0], l.map (fun _ => true) ++ [false])
  | [] => by simp [doAll, does_pop0]
  | x :: l => by
    rw [List.length_cons, List.replicate_succ]
    simp [doAll, does_pop, all_pop l]
theorem all_take : ∀ l : List Int, doAll ⟨3, [], l⟩ (List.replicate (l.length + 1) (op0 7 0)) = (⟨3, [], []⟩, l ++ [0], l.map (fun _ => true) ++ [false])
  | [] => by simp [doAll, does_take0]
  | x :: l => by
    rw [List.length_cons, List.replicate_succ]
    simp [doAll, does_take, all_take l]

theorem push_all_c (b l : List Int) (hb : b.length ≤ 50) (hl : l.length ≤ 50) : ∃ Z O, PureC Try.prog 18 [dCont ⟨2, [], b⟩, .p (.sl false l.length (pOps (l.map (op0 4))))] (.tup [dCont ⟨2, [], l.reverse ++ b⟩, Z, O]) := by
  have := all_c ⟨2, [], b⟩ (l.map (op0 4)) ⟨by simp, by simp; omega⟩ (by simp; omega)
  rw [dOps, List.length_map, dAll, all_push] at this
  exact ⟨_, _, this⟩
theorem send_all_c (b l : List Int) (hb : b.length ≤ 50) (hl : l.length ≤ 50) : ∃ Z O, PureC Try.prog 18 [dCont ⟨3, [], b⟩, .p (.sl false l.length (pOps (l.map (op0 6))))] (.tup [dCont ⟨3, [], b ++ l⟩, Z, O]) := by
  have := all_c ⟨3, [], b⟩ (l.map (op0 6)) ⟨by simp, by simp; omega⟩ (by simp; omega)
  rw [dOps, List.length_map, dAll, all_send] at this
  exact ⟨_, _, this⟩
theorem pop_all_c (l : List Int) (m : Nat) (h : l.length = m) (hm : m ≤ 100) : PureC Try.prog 18 [dCont ⟨2, [], l⟩, .p (.sl false (m + 1) (pOps (List.replicate (m + 1) (op0 5 0))))] (.tup [.agg [dI 2, .p (.sl false 0 []), .p (.sl false 0 [])], .p (.sl false (m + 1) (pInts (l ++ [0]))), .p (.sl false (m + 1) (pBools (l.map (fun _ => true) ++ [false])))]) := by
  have := all_c ⟨2, [], l⟩ (List.replicate (m + 1) (op0 5 0)) ⟨by simp, by show l.length ≤ _; omega⟩ (by simp; omega)
  subst h
  rw [dOps, List.length_replicate, dAll, all_pop, dInts, dBools] at this
  have e1 : (l ++ [0]).length = l.length + 1 := by simp
  have e2 : (l.map (fun _ => true) ++ [false]).length = l.length + 1 := by simp
  rw [e1, e2] at this
  exact this
theorem take_all_c (l : List Int) (m : Nat) (h : l.length = m) (hm : m ≤ 100) : PureC Try.prog 18 [dCont ⟨3, [], l⟩, .p (.sl false (m + 1) (pOps (List.replicate (m + 1) (op0 7 0))))] (.tup [.agg [dI 3, .p (.sl false 0 []), .p (.sl false 0 [])], .p (.sl false (m + 1) (pInts (l ++ [0]))), .p (.sl false (m + 1) (pBools (l.map (fun _ => true) ++ [false])))]) := by
  have := all_c ⟨3, [], l⟩ (List.replicate (m + 1) (op0 7 0)) ⟨by simp, by show l.length ≤ _; omega⟩ (by simp; omega)
  subst h
  rw [dOps, List.length_replicate, dAll, all_take, dInts, dBools] at this
  have e1 : (l ++ [0]).length = l.length + 1 := by simp
  have e2 : (l.map (fun _ => true) ++ [false]).length = l.length + 1 := by simp
  rw [e1, e2] at this
  exact this
end Go.Proofs.Ytknancnmdpdefaa
