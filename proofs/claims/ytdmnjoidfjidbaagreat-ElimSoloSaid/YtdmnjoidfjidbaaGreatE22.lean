/- The document's example: its walk. -/
import Derived.Test.YtdmnjoidfjidbaaGreatE19
import Derived.Test.YtdmnjoidfjidbaaGreatE21
import Derived.Test.YtdmnjoidfjidbaaGreatE3
import Derived.Test.YtdmnjoidfjidbaaGreatPD
namespace Go.Proofs.YtdmnjoidfjidbaaGreat
open Go.RowKit
set_option maxRecDepth 100000

theorem refslot_s : PureC Tryz.prog 19 [dLay (layE 3 16 1), dI 0, dI 0] (dI 45) := by
  refine pure_fin tabOk Tryz.func19 rfl Tryz.ntmps19 rfl rfl rfl fun w cl => ?_
  refine go ?_
  refine awp_region_w 26 [] rfl rfl (by kernel_rfl) (by kernel_rfl) (by kernel_rfl) ?_
  refine goQ ?_
  refine r_q (call_step (refin_t 0 0 0 (by omega)) rfl (fun a w => Tryz.call52 a w) rfl) rfl rfl ?_
  refine goQ ?_
  refine r_q (call_step (refin_t 0 0 0 (by omega)) rfl (fun a w => Tryz.call52 a w) rfl) rfl rfl ?_
  refine goQ ?_
  refine a_q (call_step (refat_c 45 true) rfl (fun a w => Tryz.call51 a w) rfl) rfl rfl rfl ?_
  refine go ?_
  first | refine fin_ret rfl ?_ | refine fin_normal rfl ?_
  rfl
theorem next_arg : nextF (layE 3 16 1) ((0 : Nat) : Int) [] ⟨4, 1, 0, 0⟩ [] = (acc0, ⟨0, false, 1, -1, []⟩, true) := rfl
set_option maxHeartbeats 16000000 in
theorem shown_w (l : LayT) (t : TabT) (hw : PureC Tryz.prog 6 [dI 3, dK .u8 0] (dLay l)) (hcl : ImpC Tryz.prog 16 [] [dLay l, dI 7, dI 1, dI 2, dI 3] [] (fun d bs => d = .ptr 30 0 ∧ bs = tabF t 3))
    (hN : PureC Tryz.prog 17 [dLay l, dI 0, dGone [], dOp ⟨4, 1, 0, 0⟩, dLog []] (.tup [dAcc acc0, dOut ⟨0, false, 1, -1, []⟩, dB true])) (hrow : PureC Tryz.prog 15 [dLay l, dMem t.m, dI 0] (dInts [3, 2, 1])) (hrs : PureC Tryz.prog 19 [dLay l, dI 0, dI 0] (dI 45)) (hsl : PureC Tryz.prog 18 [dLay l, dI 2, dI 0] (dI 45))
    (hb : t.bad = false) (hwi : t.wild = false) (htold : t.calls.map (fun c => (c.op, c.val, c.is)) = [(opPush 1, 0, true), (opPush 2, 0, true), (opPush 3, 0, true), (opPop, 7, true), (opPush 7, 0, true)]) : PureC Tryz.prog 4 [] (dB true) := by
  obtain ⟨m, step, seats, calls, full, wild, bad⟩ := t
  simp only at hb hwi htold hrow
  subst hb
  subst hwi
  have h5 : calls.length = 5 := by have := congrArg List.length htold; simpa using this
  obtain ⟨c0, c1, c2, c3, c4, rfl⟩ : ∃ c0 c1 c2 c3 c4, calls = [c0, c1, c2, c3, c4] := by
    match calls, h5 with
    | [c0, c1, c2, c3, c4], _ => exact ⟨c0, c1, c2, c3, c4, rfl⟩
  simp only [List.map_cons, List.map_nil, List.cons.injEq, Prod.mk.injEq, and_true] at htold
  obtain ⟨wq0, pq0, vq0, iq0, fq0, lq0, tq0⟩ := c0
  obtain ⟨wq1, pq1, vq1, iq1, fq1, lq1, tq1⟩ := c1
  obtain ⟨wq2, pq2, vq2, iq2, fq2, lq2, tq2⟩ := c2
  obtain ⟨wq3, pq3, vq3, iq3, fq3, lq3, tq3⟩ := c3
  obtain ⟨wq4, pq4, vq4, iq4, fq4, lq4, tq4⟩ := c4
  simp only at htold
  obtain ⟨⟨rfl, rfl, rfl⟩, ⟨rfl, rfl, rfl⟩, ⟨rfl, rfl, rfl⟩, ⟨rfl, rfl, rfl⟩, ⟨rfl, rfl, rfl⟩⟩ := htold
  refine pure_fin tabOk Tryz.func4 rfl Tryz.ntmps4 rfl rfl rfl fun w cl => ?_
  refine go ?_
  refine a_q (call_step (hw) rfl (fun a w => Tryz.call6 a w) rfl) rfl rfl rfl ?_
  refine go ?_
  refine a_callI hcl rfl (fun a w => Tryz.call16 a w) rfl rfl trivial trivial rfl rfl rfl rfl ?_ ?_
  · rintro d bs ⟨rfl, rfl⟩; exact ⟨.inr rfl, .inr rfl, .inr rfl, .inr rfl, .inr rfl, .inr rfl, trivial⟩
  rintro d bs ⟨rfl, rfl⟩
  refine go ?_
  refine a_q (call_step (hN) rfl (fun a w => Tryz.call17 a w) rfl) rfl rfl rfl ?_
  refine go ?_
  refine awp_region_w 5 [] rfl rfl (by kernel_rfl) (by kernel_rfl) (by kernel_rfl) ?_
  refine goQ ?_
  refine a_q (call_step (hrow) rfl (fun a w => Tryz.call15 a w) rfl) rfl rfl rfl ?_
  refine go ?_
  rw [show decide ((([3, 2, 1] : List Int).length : Int) = 3) = true from rfl]
  refine go ?_
  refine awp_loop_ok (fun i : Nat => i ≤ 5) (fun i => ⟨[(8, dI i), (7, dI (if i ≤ 3 then 0 else 7)), (6, dInts [3, 2, 1]), (5, dB true), (4, .ptr 9 0), (2, .ptr 30 0), (1, .ptr 0 0)], (9, [dI 0, dB false, dI 1, dI (-1), dGone []]) :: (0, layD l) :: tabF ⟨m, step, seats, [⟨wq0, opPush 1, 0, true, fq0, lq0, tq0⟩, ⟨wq1, opPush 2, 0, true, fq1, lq1, tq1⟩, ⟨wq2, opPush 3, 0, true, fq2, lq2, tq2⟩, ⟨wq3, opPop, 7, true, fq3, lq3, tq3⟩, ⟨wq4, opPush 7, 0, true, fq4, lq4, tq4⟩], full, false, false⟩ 3, []⟩) (fun i => 5 - i) 0 (by omega) (zX (hb := by exact ⟨⟨rfl, rfl⟩, ⟨rfl, rfl⟩, ⟨rfl, rfl⟩, ⟨rfl, ops_plain _ _ _⟩, ⟨rfl, logs_plain _ _ _⟩, ⟨rfl, stepsC_plain _ _ _⟩, ⟨rfl, nexts_plain _ _ _⟩, ⟨rfl, gones_plain _ _ _⟩, trivial⟩)) ?_
  intro i hi
  rcases (show i = 0 ∨ i = 1 ∨ i = 2 ∨ i = 3 ∨ i = 4 ∨ i = 5 by omega) with rfl | rfl | rfl | rfl | rfl | rfl
  · refine (show AWP _ _ _ _ ⟨[(8, dI 0), (7, dI 0), (6, dInts [3, 2, 1]), (5, dB true), (4, .ptr 9 0), (2, .ptr 30 0), (1, .ptr 0 0)], (9, [dI 0, dB false, dI 1, dI (-1), dGone []]) :: (0, layD l) :: tabF ⟨m, step, seats, [⟨wq0, opPush 1, 0, true, fq0, lq0, tq0⟩, ⟨wq1, opPush 2, 0, true, fq1, lq1, tq1⟩, ⟨wq2, opPush 3, 0, true, fq2, lq2, tq2⟩, ⟨wq3, opPop, 7, true, fq3, lq3, tq3⟩, ⟨wq4, opPush 7, 0, true, fq4, lq4, tq4⟩], full, false, false⟩ 3, []⟩ from ?_)
    refine go ?_
    rw [show decide ((0 : Int) < 5) = true from rfl]
    refine go ?_
    refine a_q (indexAddr_step tabOk [pI wq0, pI 4, pI 0, pI 1, pI 0, pI 0, pB true, pI fq0, pI lq0, pI tq0] rfl rfl rfl rfl rfl rfl (by first | omega | (simp; done) | (simp; omega)) (by first | omega | (simp; done) | (simp; omega)) (by first | (simp; done) | exact List.cons_ne_nil _ _) (calls_idx (l := [⟨wq0, opPush 1, 0, true, fq0, lq0, tq0⟩, ⟨wq1, opPush 2, 0, true, fq1, lq1, tq1⟩, ⟨wq2, opPush 3, 0, true, fq2, lq2, tq2⟩, ⟨wq3, opPop, 7, true, fq3, lq3, tq3⟩, ⟨wq4, opPush 7, 0, true, fq4, lq4, tq4⟩]) (i := (0 : Int)) (x := ⟨wq0, opPush 1, 0, true, fq0, lq0, tq0⟩) rfl)) rfl rfl rfl ?_
    refine go ?_
    rw [show decide ((4 : Int) = 5) = false from rfl]
    refine go ?_
    exact ⟨1, by omega, by omega, zX (hb := by exact ⟨⟨rfl, rfl⟩, ⟨rfl, rfl⟩, ⟨rfl, rfl⟩, ⟨rfl, ops_plain _ _ _⟩, ⟨rfl, logs_plain _ _ _⟩, ⟨rfl, stepsC_plain _ _ _⟩, ⟨rfl, nexts_plain _ _ _⟩, ⟨rfl, gones_plain _ _ _⟩, trivial⟩)⟩
  · refine (show AWP _ _ _ _ ⟨[(8, dI 1), (7, dI 0), (6, dInts [3, 2, 1]), (5, dB true), (4, .ptr 9 0), (2, .ptr 30 0), (1, .ptr 0 0)], (9, [dI 0, dB false, dI 1, dI (-1), dGone []]) :: (0, layD l) :: tabF ⟨m, step, seats, [⟨wq0, opPush 1, 0, true, fq0, lq0, tq0⟩, ⟨wq1, opPush 2, 0, true, fq1, lq1, tq1⟩, ⟨wq2, opPush 3, 0, true, fq2, lq2, tq2⟩, ⟨wq3, opPop, 7, true, fq3, lq3, tq3⟩, ⟨wq4, opPush 7, 0, true, fq4, lq4, tq4⟩], full, false, false⟩ 3, []⟩ from ?_)
    refine go ?_
    rw [show decide ((1 : Int) < 5) = true from rfl]
    refine go ?_
    refine a_q (indexAddr_step tabOk [pI wq1, pI 4, pI 0, pI 2, pI 0, pI 0, pB true, pI fq1, pI lq1, pI tq1] rfl rfl rfl rfl rfl rfl (by first | omega | (simp; done) | (simp; omega)) (by first | omega | (simp; done) | (simp; omega)) (by first | (simp; done) | exact List.cons_ne_nil _ _) (calls_idx (l := [⟨wq0, opPush 1, 0, true, fq0, lq0, tq0⟩, ⟨wq1, opPush 2, 0, true, fq1, lq1, tq1⟩, ⟨wq2, opPush 3, 0, true, fq2, lq2, tq2⟩, ⟨wq3, opPop, 7, true, fq3, lq3, tq3⟩, ⟨wq4, opPush 7, 0, true, fq4, lq4, tq4⟩]) (i := (1 : Int)) (x := ⟨wq1, opPush 2, 0, true, fq1, lq1, tq1⟩) rfl)) rfl rfl rfl ?_
    refine go ?_
    rw [show decide ((4 : Int) = 5) = false from rfl]
    refine go ?_
    exact ⟨2, by omega, by omega, zX (hb := by exact ⟨⟨rfl, rfl⟩, ⟨rfl, rfl⟩, ⟨rfl, rfl⟩, ⟨rfl, ops_plain _ _ _⟩, ⟨rfl, logs_plain _ _ _⟩, ⟨rfl, stepsC_plain _ _ _⟩, ⟨rfl, nexts_plain _ _ _⟩, ⟨rfl, gones_plain _ _ _⟩, trivial⟩)⟩
  · refine (show AWP _ _ _ _ ⟨[(8, dI 2), (7, dI 0), (6, dInts [3, 2, 1]), (5, dB true), (4, .ptr 9 0), (2, .ptr 30 0), (1, .ptr 0 0)], (9, [dI 0, dB false, dI 1, dI (-1), dGone []]) :: (0, layD l) :: tabF ⟨m, step, seats, [⟨wq0, opPush 1, 0, true, fq0, lq0, tq0⟩, ⟨wq1, opPush 2, 0, true, fq1, lq1, tq1⟩, ⟨wq2, opPush 3, 0, true, fq2, lq2, tq2⟩, ⟨wq3, opPop, 7, true, fq3, lq3, tq3⟩, ⟨wq4, opPush 7, 0, true, fq4, lq4, tq4⟩], full, false, false⟩ 3, []⟩ from ?_)
    refine go ?_
    rw [show decide ((2 : Int) < 5) = true from rfl]
    refine go ?_
    refine a_q (indexAddr_step tabOk [pI wq2, pI 4, pI 0, pI 3, pI 0, pI 0, pB true, pI fq2, pI lq2, pI tq2] rfl rfl rfl rfl rfl rfl (by first | omega | (simp; done) | (simp; omega)) (by first | omega | (simp; done) | (simp; omega)) (by first | (simp; done) | exact List.cons_ne_nil _ _) (calls_idx (l := [⟨wq0, opPush 1, 0, true, fq0, lq0, tq0⟩, ⟨wq1, opPush 2, 0, true, fq1, lq1, tq1⟩, ⟨wq2, opPush 3, 0, true, fq2, lq2, tq2⟩, ⟨wq3, opPop, 7, true, fq3, lq3, tq3⟩, ⟨wq4, opPush 7, 0, true, fq4, lq4, tq4⟩]) (i := (2 : Int)) (x := ⟨wq2, opPush 3, 0, true, fq2, lq2, tq2⟩) rfl)) rfl rfl rfl ?_
    refine go ?_
    rw [show decide ((4 : Int) = 5) = false from rfl]
    refine go ?_
    exact ⟨3, by omega, by omega, zX (hb := by exact ⟨⟨rfl, rfl⟩, ⟨rfl, rfl⟩, ⟨rfl, rfl⟩, ⟨rfl, ops_plain _ _ _⟩, ⟨rfl, logs_plain _ _ _⟩, ⟨rfl, stepsC_plain _ _ _⟩, ⟨rfl, nexts_plain _ _ _⟩, ⟨rfl, gones_plain _ _ _⟩, trivial⟩)⟩
  · refine (show AWP _ _ _ _ ⟨[(8, dI 3), (7, dI 0), (6, dInts [3, 2, 1]), (5, dB true), (4, .ptr 9 0), (2, .ptr 30 0), (1, .ptr 0 0)], (9, [dI 0, dB false, dI 1, dI (-1), dGone []]) :: (0, layD l) :: tabF ⟨m, step, seats, [⟨wq0, opPush 1, 0, true, fq0, lq0, tq0⟩, ⟨wq1, opPush 2, 0, true, fq1, lq1, tq1⟩, ⟨wq2, opPush 3, 0, true, fq2, lq2, tq2⟩, ⟨wq3, opPop, 7, true, fq3, lq3, tq3⟩, ⟨wq4, opPush 7, 0, true, fq4, lq4, tq4⟩], full, false, false⟩ 3, []⟩ from ?_)
    refine go ?_
    rw [show decide ((3 : Int) < 5) = true from rfl]
    refine go ?_
    refine a_q (indexAddr_step tabOk [pI wq3, pI 5, pI 0, pI 0, pI 0, pI 7, pB true, pI fq3, pI lq3, pI tq3] rfl rfl rfl rfl rfl rfl (by first | omega | (simp; done) | (simp; omega)) (by first | omega | (simp; done) | (simp; omega)) (by first | (simp; done) | exact List.cons_ne_nil _ _) (calls_idx (l := [⟨wq0, opPush 1, 0, true, fq0, lq0, tq0⟩, ⟨wq1, opPush 2, 0, true, fq1, lq1, tq1⟩, ⟨wq2, opPush 3, 0, true, fq2, lq2, tq2⟩, ⟨wq3, opPop, 7, true, fq3, lq3, tq3⟩, ⟨wq4, opPush 7, 0, true, fq4, lq4, tq4⟩]) (i := (3 : Int)) (x := ⟨wq3, opPop, 7, true, fq3, lq3, tq3⟩) rfl)) rfl rfl rfl ?_
    refine go ?_
    rw [show decide ((5 : Int) = 5) = true from rfl]
    refine go ?_
    refine a_q (indexAddr_step tabOk [pI wq3, pI 5, pI 0, pI 0, pI 0, pI 7, pB true, pI fq3, pI lq3, pI tq3] rfl rfl rfl rfl rfl rfl (by first | omega | (simp; done) | (simp; omega)) (by first | omega | (simp; done) | (simp; omega)) (by first | (simp; done) | exact List.cons_ne_nil _ _) (calls_idx (l := [⟨wq0, opPush 1, 0, true, fq0, lq0, tq0⟩, ⟨wq1, opPush 2, 0, true, fq1, lq1, tq1⟩, ⟨wq2, opPush 3, 0, true, fq2, lq2, tq2⟩, ⟨wq3, opPop, 7, true, fq3, lq3, tq3⟩, ⟨wq4, opPush 7, 0, true, fq4, lq4, tq4⟩]) (i := (3 : Int)) (x := ⟨wq3, opPop, 7, true, fq3, lq3, tq3⟩) rfl)) rfl rfl rfl ?_
    refine go ?_
    refine a_q (indexAddr_step tabOk [pI wq3, pI 5, pI 0, pI 0, pI 0, pI 7, pB true, pI fq3, pI lq3, pI tq3] rfl rfl rfl rfl rfl rfl (by first | omega | (simp; done) | (simp; omega)) (by first | omega | (simp; done) | (simp; omega)) (by first | (simp; done) | exact List.cons_ne_nil _ _) (calls_idx (l := [⟨wq0, opPush 1, 0, true, fq0, lq0, tq0⟩, ⟨wq1, opPush 2, 0, true, fq1, lq1, tq1⟩, ⟨wq2, opPush 3, 0, true, fq2, lq2, tq2⟩, ⟨wq3, opPop, 7, true, fq3, lq3, tq3⟩, ⟨wq4, opPush 7, 0, true, fq4, lq4, tq4⟩]) (i := (3 : Int)) (x := ⟨wq3, opPop, 7, true, fq3, lq3, tq3⟩) rfl)) rfl rfl rfl ?_
    refine go ?_
    exact ⟨4, by omega, by omega, zX (hb := by exact ⟨⟨rfl, rfl⟩, ⟨rfl, rfl⟩, ⟨rfl, rfl⟩, ⟨rfl, ops_plain _ _ _⟩, ⟨rfl, logs_plain _ _ _⟩, ⟨rfl, stepsC_plain _ _ _⟩, ⟨rfl, nexts_plain _ _ _⟩, ⟨rfl, gones_plain _ _ _⟩, trivial⟩)⟩
  · refine (show AWP _ _ _ _ ⟨[(8, dI 4), (7, dI 7), (6, dInts [3, 2, 1]), (5, dB true), (4, .ptr 9 0), (2, .ptr 30 0), (1, .ptr 0 0)], (9, [dI 0, dB false, dI 1, dI (-1), dGone []]) :: (0, layD l) :: tabF ⟨m, step, seats, [⟨wq0, opPush 1, 0, true, fq0, lq0, tq0⟩, ⟨wq1, opPush 2, 0, true, fq1, lq1, tq1⟩, ⟨wq2, opPush 3, 0, true, fq2, lq2, tq2⟩, ⟨wq3, opPop, 7, true, fq3, lq3, tq3⟩, ⟨wq4, opPush 7, 0, true, fq4, lq4, tq4⟩], full, false, false⟩ 3, []⟩ from ?_)
    refine go ?_
    rw [show decide ((4 : Int) < 5) = true from rfl]
    refine go ?_
    refine a_q (indexAddr_step tabOk [pI wq4, pI 4, pI 0, pI 7, pI 0, pI 0, pB true, pI fq4, pI lq4, pI tq4] rfl rfl rfl rfl rfl rfl (by first | omega | (simp; done) | (simp; omega)) (by first | omega | (simp; done) | (simp; omega)) (by first | (simp; done) | exact List.cons_ne_nil _ _) (calls_idx (l := [⟨wq0, opPush 1, 0, true, fq0, lq0, tq0⟩, ⟨wq1, opPush 2, 0, true, fq1, lq1, tq1⟩, ⟨wq2, opPush 3, 0, true, fq2, lq2, tq2⟩, ⟨wq3, opPop, 7, true, fq3, lq3, tq3⟩, ⟨wq4, opPush 7, 0, true, fq4, lq4, tq4⟩]) (i := (4 : Int)) (x := ⟨wq4, opPush 7, 0, true, fq4, lq4, tq4⟩) rfl)) rfl rfl rfl ?_
    refine go ?_
    rw [show decide ((4 : Int) = 5) = false from rfl]
    refine go ?_
    exact ⟨5, by omega, by omega, zX (hb := by exact ⟨⟨rfl, rfl⟩, ⟨rfl, rfl⟩, ⟨rfl, rfl⟩, ⟨rfl, ops_plain _ _ _⟩, ⟨rfl, logs_plain _ _ _⟩, ⟨rfl, stepsC_plain _ _ _⟩, ⟨rfl, nexts_plain _ _ _⟩, ⟨rfl, gones_plain _ _ _⟩, trivial⟩)⟩
  · refine (show AWP _ _ _ _ ⟨[(8, dI 5), (7, dI 7), (6, dInts [3, 2, 1]), (5, dB true), (4, .ptr 9 0), (2, .ptr 30 0), (1, .ptr 0 0)], (9, [dI 0, dB false, dI 1, dI (-1), dGone []]) :: (0, layD l) :: tabF ⟨m, step, seats, [⟨wq0, opPush 1, 0, true, fq0, lq0, tq0⟩, ⟨wq1, opPush 2, 0, true, fq1, lq1, tq1⟩, ⟨wq2, opPush 3, 0, true, fq2, lq2, tq2⟩, ⟨wq3, opPop, 7, true, fq3, lq3, tq3⟩, ⟨wq4, opPush 7, 0, true, fq4, lq4, tq4⟩], full, false, false⟩ 3, []⟩ from ?_)
    refine go ?_
    rw [show decide ((5 : Int) < 5) = false from rfl]
    refine go ?_
    refine awp_region_q [] rfl (by kernel_rfl) (by kernel_rfl) ?_
    refine goQ ?_
    refine r_q (indexAddr_step tabOk [pI 3] rfl rfl rfl rfl rfl rfl (by first | omega | (simp; done) | (simp; omega)) (by first | omega | (simp; done) | (simp; omega)) (by first | (simp; done) | exact List.cons_ne_nil _ _) (ints_idx rfl)) rfl rfl ?_
    refine goQ ?_
    refine r_q (indexAddr_step tabOk [pI 2] rfl rfl rfl rfl rfl rfl (by first | omega | (simp; done) | (simp; omega)) (by first | omega | (simp; done) | (simp; omega)) (by first | (simp; done) | exact List.cons_ne_nil _ _) (ints_idx rfl)) rfl rfl ?_
    refine goQ ?_
    refine r_q (indexAddr_step tabOk [pI 1] rfl rfl rfl rfl rfl rfl (by first | omega | (simp; done) | (simp; omega)) (by first | omega | (simp; done) | (simp; omega)) (by first | (simp; done) | exact List.cons_ne_nil _ _) (ints_idx rfl)) rfl rfl ?_
    refine goQ ?_
    refine r_q (call_step (hsl) rfl (fun a w => Tryz.call18 a w) rfl) rfl rfl ?_
    refine goQ ?_
    refine r_q (call_step (hrs) rfl (fun a w => Tryz.call19 a w) rfl) rfl rfl ?_
    refine goQ ?_
    refine go ?_
    first | refine fin_ret rfl ?_ | refine fin_normal rfl ?_
    rfl
theorem shown_c : PureC Tryz.prog 4 [] (dB true) := by
  have hw := where_c 3 0 (by omega) (by omega)
  rw [show (1 : Int) + 0 % 3 = 1 from rfl] at hw
  have hM := meets (v := 7) (a := 1) (b := 2) (c := 3) ⟨by omega, by omega⟩ ⟨by omega, by omega⟩ ⟨by omega, by omega⟩ ⟨by omega, by omega⟩
  have hL := layE_ok (s := 3) (sl := 1) (n := 16) (by omega) (by omega) (by omega)
  have hN := next_c (layE 3 16 1) hL ((0 : Nat) : Int) (by omega) [] ⟨4, 1, 0, 0⟩ [] (fun p hp => by cases hp) (by simp) (by simp)
  rw [next_arg] at hN
  have hrow := row_c (layE 3 16 1) hL (clashT 7 1 2 3).m 0 hM.lt
  have hr : rowF (layE 3 16 1) (clashT 7 1 2 3).m 0 = [3, 2, 1] := hM.row
  rw [hr] at hrow
  have hsl := slot_c (layE 3 16 1) hL 2 0 (by omega) (by omega)
  rw [show slotOf (layE 3 16 1) 2 0 = 45 from rfl] at hsl
  exact shown_w _ _ hw (clash_i 7 1 2 3) hN hrow refslot_s hsl hM.bad hM.wild hM.told
end Go.Proofs.YtdmnjoidfjidbaaGreat
