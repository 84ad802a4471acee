/- A push and a pop that both come too late meet: the statement's walk. -/
import Derived.Test.YtdmnjoidfjidbaaE22
namespace Go.Proofs.Ytdmnjoidfjidbaa
open Go.RowKit
set_option maxRecDepth 100000

set_option maxHeartbeats 16000000 in
theorem meets_g (l : LayT) (t : TabT) (v a b c : Int) (hv : 0 ≤ v ∧ v < 4294967296) (ha : 0 ≤ a ∧ a < 4294967296) (hb2 : 0 ≤ b ∧ b < 4294967296) (hc : 0 ≤ c ∧ c < 4294967296) (hw : PureC Try.prog 10 [dI 3, dK .u8 0] (dLay l)) (hcl : ImpC Try.prog 14 [] [dLay l, dI v, dI a, dI b, dI c] [] (fun d bs => d = .ptr 30 0 ∧ bs = tabF t 3))
    (hrow : PureC Try.prog 16 [dLay l, dMem t.m, dI 0] (dInts [c, b, a])) (hord : PureC Try.prog 11 [dStk [], dCalls t.calls] (dB true))
    (hb : t.bad = false) (hwi : t.wild = false) (htold : t.calls.map (fun c => (c.op, c.val, c.is)) = [(opPush a, 0, true), (opPush b, 0, true), (opPush c, 0, true), (opPop, v, true), (opPush v, 0, true)]) : PureC Try.prog 5 [.agg [dK .u32 v, dK .u32 a, dK .u32 b, dK .u32 c]] (dB true) := by
  obtain ⟨m, step, seats, calls, full, wild, bad⟩ := t
  simp only at hb hwi htold hrow hord
  subst hb
  subst hwi
  have h5 : calls.length = 5 := by have := congrArg List.length htold; simpa using this
  obtain ⟨c0, c1, c2, c3, c4, rfl⟩ : ∃ c0 c1 c2 c3 c4, calls = [c0, c1, c2, c3, c4] := by
    match calls, h5 with
    | [c0, c1, c2, c3, c4], _ => exact ⟨c0, c1, c2, c3, c4, rfl⟩
  simp only [List.map_cons, List.map_nil, List.cons.injEq, Prod.mk.injEq, and_true] at htold
  obtain ⟨wq0, pq0, vq0, iq0, fq0, lq0, tq0⟩ := c0
  obtain ⟨wq1, pq1, vq1, iq1, fq1, lq1, tq1⟩ := c1
  obtain ⟨wq2, pq2, vq2, iq2, fq2, lq2, tq2⟩ := c2
  obtain ⟨wq3, pq3, vq3, iq3, fq3, lq3, tq3⟩ := c3
  obtain ⟨wq4, pq4, vq4, iq4, fq4, lq4, tq4⟩ := c4
  simp only at htold
  obtain ⟨⟨rfl, rfl, rfl⟩, ⟨rfl, rfl, rfl⟩, ⟨rfl, rfl, rfl⟩, ⟨rfl, hv3, rfl⟩, ⟨rfl, rfl, rfl⟩⟩ := htold
  have hv3' := hv3.symm
  subst hv3'
  have hints := ints_c [c, b, a] [c, b, a] (by simp)
  rw [show decide ([c, b, a] = [c, b, a]) = true from decide_eq_true rfl] at hints
  refine pure_fin tabOk Try.func5 rfl Try.ntmps5 rfl rfl rfl fun w cl => ?_
  refine go ?_
  refine a_q (call_step (shown_c) rfl (fun a w => Try.call7 a w) rfl) rfl rfl rfl ?_
  refine go ?_
  refine a_q (call_step (hw) rfl (fun a w => Try.call10 a w) rfl) rfl rfl rfl ?_
  refine go ?_
  rw [show IntKind.i64.wrap v = v from wrap_id (by omega) (by omega)]
  rw [show IntKind.i64.wrap a = a from wrap_id (by omega) (by omega)]
  rw [show IntKind.i64.wrap b = b from wrap_id (by omega) (by omega)]
  rw [show IntKind.i64.wrap c = c from wrap_id (by omega) (by omega)]
  refine a_callI hcl rfl (fun a w => Try.call14 a w) rfl rfl trivial trivial rfl rfl rfl rfl ?_ ?_
  · rintro d bs ⟨rfl, rfl⟩; exact ⟨.inr rfl, .inr rfl, .inr rfl, .inr rfl, .inr rfl, .inr rfl, trivial⟩
  rintro d bs ⟨rfl, rfl⟩
  refine go ?_
  refine awp_loop_ok (fun i : Nat => i ≤ 5) (fun i => ⟨[(12, dI i), (11, dI (if i ≤ 3 then (i : Int) else (i : Int) - 1)), (10, dI (if i ≤ 3 then 0 else 1)), (9, .ptr 30 0), (8, .ptr 1 0), (7, dB true), (6, dK .u32 c), (5, dK .u32 b), (4, dK .u32 a), (3, dK .u32 v)], (1, layD l) :: [(30, [dInts m, dI step, .arr 31 0 3 3, .arr 32 0 3 3, .arr 33 0 3 3, .arr 34 0 3 3, .arr 35 0 3 3, dCalls [⟨wq0, opPush a, 0, true, fq0, lq0, tq0⟩, ⟨wq1, opPush b, 0, true, fq1, lq1, tq1⟩, ⟨wq2, opPush c, 0, true, fq2, lq2, tq2⟩, ⟨wq3, opPop, v, true, fq3, lq3, tq3⟩, ⟨wq4, opPush v, 0, true, fq4, lq4, tq4⟩], dI full, dB false, dB false]), (31, opsC seats), (32, logsC seats), (33, stepsC seats), (34, nextsC seats), (35, gonesC seats)], []⟩) (fun i => 5 - i) 0 (by omega) (zX (hb := by exact ⟨⟨rfl, rfl⟩, ⟨rfl, rfl⟩, ⟨rfl, ops_plain _ _ _⟩, ⟨rfl, logs_plain _ _ _⟩, ⟨rfl, stepsC_plain _ _ _⟩, ⟨rfl, nexts_plain _ _ _⟩, ⟨rfl, gones_plain _ _ _⟩, trivial⟩)) ?_
  intro i hi
  rcases (show i = 0 ∨ i = 1 ∨ i = 2 ∨ i = 3 ∨ i = 4 ∨ i = 5 by omega) with rfl | rfl | rfl | rfl | rfl | rfl
  · refine (show AWP _ _ _ _ ⟨[(12, dI 0), (11, dI 0), (10, dI 0), (9, .ptr 30 0), (8, .ptr 1 0), (7, dB true), (6, dK .u32 c), (5, dK .u32 b), (4, dK .u32 a), (3, dK .u32 v)], (1, layD l) :: [(30, [dInts m, dI step, .arr 31 0 3 3, .arr 32 0 3 3, .arr 33 0 3 3, .arr 34 0 3 3, .arr 35 0 3 3, dCalls [⟨wq0, opPush a, 0, true, fq0, lq0, tq0⟩, ⟨wq1, opPush b, 0, true, fq1, lq1, tq1⟩, ⟨wq2, opPush c, 0, true, fq2, lq2, tq2⟩, ⟨wq3, opPop, v, true, fq3, lq3, tq3⟩, ⟨wq4, opPush v, 0, true, fq4, lq4, tq4⟩], dI full, dB false, dB false]), (31, opsC seats), (32, logsC seats), (33, stepsC seats), (34, nextsC seats), (35, gonesC seats)], []⟩ from ?_)
    refine go ?_
    refine (show CK (decide ((0 : Int) < 5)) _ _ from ?_)
    rw [show decide ((0 : Int) < 5) = true from rfl]
    refine go ?_
    refine a_q (indexAddr_step tabOk [pI wq0, pI 4, pI 0, pI a, pI 0, pI 0, pB true, pI fq0, pI lq0, pI tq0] rfl rfl rfl rfl rfl rfl (by first | omega | (simp; done) | (simp; omega)) (by first | omega | (simp; done) | (simp; omega)) (by first | (simp; done) | exact List.cons_ne_nil _ _) (calls_idx (l := [⟨wq0, opPush a, 0, true, fq0, lq0, tq0⟩, ⟨wq1, opPush b, 0, true, fq1, lq1, tq1⟩, ⟨wq2, opPush c, 0, true, fq2, lq2, tq2⟩, ⟨wq3, opPop, v, true, fq3, lq3, tq3⟩, ⟨wq4, opPush v, 0, true, fq4, lq4, tq4⟩]) (i := (0 : Int)) (x := ⟨wq0, opPush a, 0, true, fq0, lq0, tq0⟩) rfl)) rfl rfl rfl ?_
    refine go ?_
    rw [show decide ((4 : Int) = 5) = false from rfl]
    refine go ?_
    exact ⟨1, by omega, by omega, zX (hb := by exact ⟨⟨rfl, rfl⟩, ⟨rfl, rfl⟩, ⟨rfl, ops_plain _ _ _⟩, ⟨rfl, logs_plain _ _ _⟩, ⟨rfl, stepsC_plain _ _ _⟩, ⟨rfl, nexts_plain _ _ _⟩, ⟨rfl, gones_plain _ _ _⟩, trivial⟩)⟩
  · refine (show AWP _ _ _ _ ⟨[(12, dI 1), (11, dI 1), (10, dI 0), (9, .ptr 30 0), (8, .ptr 1 0), (7, dB true), (6, dK .u32 c), (5, dK .u32 b), (4, dK .u32 a), (3, dK .u32 v)], (1, layD l) :: [(30, [dInts m, dI step, .arr 31 0 3 3, .arr 32 0 3 3, .arr 33 0 3 3, .arr 34 0 3 3, .arr 35 0 3 3, dCalls [⟨wq0, opPush a, 0, true, fq0, lq0, tq0⟩, ⟨wq1, opPush b, 0, true, fq1, lq1, tq1⟩, ⟨wq2, opPush c, 0, true, fq2, lq2, tq2⟩, ⟨wq3, opPop, v, true, fq3, lq3, tq3⟩, ⟨wq4, opPush v, 0, true, fq4, lq4, tq4⟩], dI full, dB false, dB false]), (31, opsC seats), (32, logsC seats), (33, stepsC seats), (34, nextsC seats), (35, gonesC seats)], []⟩ from ?_)
    refine go ?_
    refine (show CK (decide ((1 : Int) < 5)) _ _ from ?_)
    rw [show decide ((1 : Int) < 5) = true from rfl]
    refine go ?_
    refine a_q (indexAddr_step tabOk [pI wq1, pI 4, pI 0, pI b, pI 0, pI 0, pB true, pI fq1, pI lq1, pI tq1] rfl rfl rfl rfl rfl rfl (by first | omega | (simp; done) | (simp; omega)) (by first | omega | (simp; done) | (simp; omega)) (by first | (simp; done) | exact List.cons_ne_nil _ _) (calls_idx (l := [⟨wq0, opPush a, 0, true, fq0, lq0, tq0⟩, ⟨wq1, opPush b, 0, true, fq1, lq1, tq1⟩, ⟨wq2, opPush c, 0, true, fq2, lq2, tq2⟩, ⟨wq3, opPop, v, true, fq3, lq3, tq3⟩, ⟨wq4, opPush v, 0, true, fq4, lq4, tq4⟩]) (i := (1 : Int)) (x := ⟨wq1, opPush b, 0, true, fq1, lq1, tq1⟩) rfl)) rfl rfl rfl ?_
    refine go ?_
    rw [show decide ((4 : Int) = 5) = false from rfl]
    refine go ?_
    exact ⟨2, by omega, by omega, zX (hb := by exact ⟨⟨rfl, rfl⟩, ⟨rfl, rfl⟩, ⟨rfl, ops_plain _ _ _⟩, ⟨rfl, logs_plain _ _ _⟩, ⟨rfl, stepsC_plain _ _ _⟩, ⟨rfl, nexts_plain _ _ _⟩, ⟨rfl, gones_plain _ _ _⟩, trivial⟩)⟩
  · refine (show AWP _ _ _ _ ⟨[(12, dI 2), (11, dI 2), (10, dI 0), (9, .ptr 30 0), (8, .ptr 1 0), (7, dB true), (6, dK .u32 c), (5, dK .u32 b), (4, dK .u32 a), (3, dK .u32 v)], (1, layD l) :: [(30, [dInts m, dI step, .arr 31 0 3 3, .arr 32 0 3 3, .arr 33 0 3 3, .arr 34 0 3 3, .arr 35 0 3 3, dCalls [⟨wq0, opPush a, 0, true, fq0, lq0, tq0⟩, ⟨wq1, opPush b, 0, true, fq1, lq1, tq1⟩, ⟨wq2, opPush c, 0, true, fq2, lq2, tq2⟩, ⟨wq3, opPop, v, true, fq3, lq3, tq3⟩, ⟨wq4, opPush v, 0, true, fq4, lq4, tq4⟩], dI full, dB false, dB false]), (31, opsC seats), (32, logsC seats), (33, stepsC seats), (34, nextsC seats), (35, gonesC seats)], []⟩ from ?_)
    refine go ?_
    refine (show CK (decide ((2 : Int) < 5)) _ _ from ?_)
    rw [show decide ((2 : Int) < 5) = true from rfl]
    refine go ?_
    refine a_q (indexAddr_step tabOk [pI wq2, pI 4, pI 0, pI c, pI 0, pI 0, pB true, pI fq2, pI lq2, pI tq2] rfl rfl rfl rfl rfl rfl (by first | omega | (simp; done) | (simp; omega)) (by first | omega | (simp; done) | (simp; omega)) (by first | (simp; done) | exact List.cons_ne_nil _ _) (calls_idx (l := [⟨wq0, opPush a, 0, true, fq0, lq0, tq0⟩, ⟨wq1, opPush b, 0, true, fq1, lq1, tq1⟩, ⟨wq2, opPush c, 0, true, fq2, lq2, tq2⟩, ⟨wq3, opPop, v, true, fq3, lq3, tq3⟩, ⟨wq4, opPush v, 0, true, fq4, lq4, tq4⟩]) (i := (2 : Int)) (x := ⟨wq2, opPush c, 0, true, fq2, lq2, tq2⟩) rfl)) rfl rfl rfl ?_
    refine go ?_
    rw [show decide ((4 : Int) = 5) = false from rfl]
    refine go ?_
    exact ⟨3, by omega, by omega, zX (hb := by exact ⟨⟨rfl, rfl⟩, ⟨rfl, rfl⟩, ⟨rfl, ops_plain _ _ _⟩, ⟨rfl, logs_plain _ _ _⟩, ⟨rfl, stepsC_plain _ _ _⟩, ⟨rfl, nexts_plain _ _ _⟩, ⟨rfl, gones_plain _ _ _⟩, trivial⟩)⟩
  · refine (show AWP _ _ _ _ ⟨[(12, dI 3), (11, dI 3), (10, dI 0), (9, .ptr 30 0), (8, .ptr 1 0), (7, dB true), (6, dK .u32 c), (5, dK .u32 b), (4, dK .u32 a), (3, dK .u32 v)], (1, layD l) :: [(30, [dInts m, dI step, .arr 31 0 3 3, .arr 32 0 3 3, .arr 33 0 3 3, .arr 34 0 3 3, .arr 35 0 3 3, dCalls [⟨wq0, opPush a, 0, true, fq0, lq0, tq0⟩, ⟨wq1, opPush b, 0, true, fq1, lq1, tq1⟩, ⟨wq2, opPush c, 0, true, fq2, lq2, tq2⟩, ⟨wq3, opPop, v, true, fq3, lq3, tq3⟩, ⟨wq4, opPush v, 0, true, fq4, lq4, tq4⟩], dI full, dB false, dB false]), (31, opsC seats), (32, logsC seats), (33, stepsC seats), (34, nextsC seats), (35, gonesC seats)], []⟩ from ?_)
    refine go ?_
    refine (show CK (decide ((3 : Int) < 5)) _ _ from ?_)
    rw [show decide ((3 : Int) < 5) = true from rfl]
    refine go ?_
    refine a_q (indexAddr_step tabOk [pI wq3, pI 5, pI 0, pI 0, pI 0, pI v, pB true, pI fq3, pI lq3, pI tq3] rfl rfl rfl rfl rfl rfl (by first | omega | (simp; done) | (simp; omega)) (by first | omega | (simp; done) | (simp; omega)) (by first | (simp; done) | exact List.cons_ne_nil _ _) (calls_idx (l := [⟨wq0, opPush a, 0, true, fq0, lq0, tq0⟩, ⟨wq1, opPush b, 0, true, fq1, lq1, tq1⟩, ⟨wq2, opPush c, 0, true, fq2, lq2, tq2⟩, ⟨wq3, opPop, v, true, fq3, lq3, tq3⟩, ⟨wq4, opPush v, 0, true, fq4, lq4, tq4⟩]) (i := (3 : Int)) (x := ⟨wq3, opPop, v, true, fq3, lq3, tq3⟩) rfl)) rfl rfl rfl ?_
    refine go ?_
    rw [show decide ((5 : Int) = 5) = true from rfl]
    refine go ?_
    rw [show IntKind.i64.wrap v = v from wrap_id (by omega) (by omega)]
    rw [show decide (v = v) = true from decide_eq_true rfl]
    refine go ?_
    exact ⟨4, by omega, by omega, zX (hb := by exact ⟨⟨rfl, rfl⟩, ⟨rfl, rfl⟩, ⟨rfl, ops_plain _ _ _⟩, ⟨rfl, logs_plain _ _ _⟩, ⟨rfl, stepsC_plain _ _ _⟩, ⟨rfl, nexts_plain _ _ _⟩, ⟨rfl, gones_plain _ _ _⟩, trivial⟩)⟩
  · refine (show AWP _ _ _ _ ⟨[(12, dI 4), (11, dI 3), (10, dI 1), (9, .ptr 30 0), (8, .ptr 1 0), (7, dB true), (6, dK .u32 c), (5, dK .u32 b), (4, dK .u32 a), (3, dK .u32 v)], (1, layD l) :: [(30, [dInts m, dI step, .arr 31 0 3 3, .arr 32 0 3 3, .arr 33 0 3 3, .arr 34 0 3 3, .arr 35 0 3 3, dCalls [⟨wq0, opPush a, 0, true, fq0, lq0, tq0⟩, ⟨wq1, opPush b, 0, true, fq1, lq1, tq1⟩, ⟨wq2, opPush c, 0, true, fq2, lq2, tq2⟩, ⟨wq3, opPop, v, true, fq3, lq3, tq3⟩, ⟨wq4, opPush v, 0, true, fq4, lq4, tq4⟩], dI full, dB false, dB false]), (31, opsC seats), (32, logsC seats), (33, stepsC seats), (34, nextsC seats), (35, gonesC seats)], []⟩ from ?_)
    refine go ?_
    refine (show CK (decide ((4 : Int) < 5)) _ _ from ?_)
    rw [show decide ((4 : Int) < 5) = true from rfl]
    refine go ?_
    refine a_q (indexAddr_step tabOk [pI wq4, pI 4, pI 0, pI v, pI 0, pI 0, pB true, pI fq4, pI lq4, pI tq4] rfl rfl rfl rfl rfl rfl (by first | omega | (simp; done) | (simp; omega)) (by first | omega | (simp; done) | (simp; omega)) (by first | (simp; done) | exact List.cons_ne_nil _ _) (calls_idx (l := [⟨wq0, opPush a, 0, true, fq0, lq0, tq0⟩, ⟨wq1, opPush b, 0, true, fq1, lq1, tq1⟩, ⟨wq2, opPush c, 0, true, fq2, lq2, tq2⟩, ⟨wq3, opPop, v, true, fq3, lq3, tq3⟩, ⟨wq4, opPush v, 0, true, fq4, lq4, tq4⟩]) (i := (4 : Int)) (x := ⟨wq4, opPush v, 0, true, fq4, lq4, tq4⟩) rfl)) rfl rfl rfl ?_
    refine go ?_
    rw [show decide ((4 : Int) = 5) = false from rfl]
    refine go ?_
    exact ⟨5, by omega, by omega, zX (hb := by exact ⟨⟨rfl, rfl⟩, ⟨rfl, rfl⟩, ⟨rfl, ops_plain _ _ _⟩, ⟨rfl, logs_plain _ _ _⟩, ⟨rfl, stepsC_plain _ _ _⟩, ⟨rfl, nexts_plain _ _ _⟩, ⟨rfl, gones_plain _ _ _⟩, trivial⟩)⟩
  · refine (show AWP _ _ _ _ ⟨[(12, dI 5), (11, dI 4), (10, dI 1), (9, .ptr 30 0), (8, .ptr 1 0), (7, dB true), (6, dK .u32 c), (5, dK .u32 b), (4, dK .u32 a), (3, dK .u32 v)], (1, layD l) :: [(30, [dInts m, dI step, .arr 31 0 3 3, .arr 32 0 3 3, .arr 33 0 3 3, .arr 34 0 3 3, .arr 35 0 3 3, dCalls [⟨wq0, opPush a, 0, true, fq0, lq0, tq0⟩, ⟨wq1, opPush b, 0, true, fq1, lq1, tq1⟩, ⟨wq2, opPush c, 0, true, fq2, lq2, tq2⟩, ⟨wq3, opPop, v, true, fq3, lq3, tq3⟩, ⟨wq4, opPush v, 0, true, fq4, lq4, tq4⟩], dI full, dB false, dB false]), (31, opsC seats), (32, logsC seats), (33, stepsC seats), (34, nextsC seats), (35, gonesC seats)], []⟩ from ?_)
    refine go ?_
    refine (show CK (decide ((5 : Int) < 5)) _ _ from ?_)
    rw [show decide ((5 : Int) < 5) = false from rfl]
    refine go ?_
    refine awp_region_q [] rfl (by kernel_rfl) (by kernel_rfl) ?_
    refine goQ ?_
    refine r_q (call_step (hrow) rfl (fun a w => Try.call16 a w) rfl) rfl rfl ?_
    refine goQ ?_
    rw [show IntKind.i64.wrap c = c from wrap_id (by omega) (by omega)]
    rw [show IntKind.i64.wrap b = b from wrap_id (by omega) (by omega)]
    rw [show IntKind.i64.wrap a = a from wrap_id (by omega) (by omega)]
    refine goQ ?_
    refine r_q (call_step (hints) rfl (fun a w => Try.call15 a w) rfl) rfl rfl ?_
    refine goQ ?_
    refine r_q (call_step (new9_c) rfl (fun a w => Try.call12 a w) rfl) rfl rfl ?_
    refine goQ ?_
    refine r_q (call_step (hord) rfl (fun a w => Try.call11 a w) rfl) rfl rfl ?_
    refine goQ ?_
    refine go ?_
    first | refine fin_ret rfl ?_ | refine fin_normal rfl ?_
    rfl
theorem meets_w (v a b c : Int) (hv : 0 ≤ v ∧ v < 4294967296) (ha : 0 ≤ a ∧ a < 4294967296) (hb : 0 ≤ b ∧ b < 4294967296) (hc : 0 ≤ c ∧ c < 4294967296) : PureC Try.prog 5 [.agg [dK .u32 v, dK .u32 a, dK .u32 b, dK .u32 c]] (dB true) := by
  have hw := where_c 3 0 (by omega) (by omega)
  rw [show (1 : Int) + 0 % 3 = 1 from rfl] at hw
  have hM := meets hv ha hb hc
  have hL := layE_ok (s := 3) (sl := 1) (n := 16) (by omega) (by omega) (by omega)
  have hrow := row_c (layE 3 16 1) hL (clashT v a b c).m 0 hM.lt
  have hr : rowF (layE 3 16 1) (clashT v a b c).m 0 = [c, b, a] := hM.row
  rw [hr] at hrow
  have hl5 : (clashT v a b c).calls.length = 5 := by have := congrArg List.length hM.told; simpa using this
  have hord := order_c (clashT v a b c).calls.length [] (clashT v a b c).calls rfl (fun x hx => (hM.ck x hx).1) (by rw [hl5]; simp)
  rw [hM.order] at hord
  exact meets_g _ _ v a b c hv ha hb hc hw (clash_i v a b c) hrow hord hM.bad hM.wild hM.told
end Go.Proofs.Ytdmnjoidfjidbaa
